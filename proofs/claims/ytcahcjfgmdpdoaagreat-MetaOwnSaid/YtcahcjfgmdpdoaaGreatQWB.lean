/- One text of: Vlo Vlg Vls Vld Vlb. -/
import Derived.Test.YtcahcjfgmdpdoaaGreatQWA
set_option maxHeartbeats 4000000
set_option maxRecDepth 100000
namespace Go.Proofs.YtcahcjfgmdpdoaaGreat
open Go.RowKit Go.Proofs Go.Maps
set_option linter.unusedVariables false
set_option linter.unusedSimpArgs false

theorem vpart_calls {w : World} {v d : Nat} {F : List Nat} {D : Dev} {n gen : Nat} {m jp gn : Value} (hv : Blk w v 95 [.pointer (some ⟨d, 0, none⟩), .int .i64 n, .int .i64 gen, m, jp, gn]) (h : DevM w d F D) (hn : 2 * n ≤ D.l.length) (hg : gen < 2 ^ 62) (hw : D.waits.length ≤ 50000) :
  Calls Tryz.prog 39 #[.pointer (some ⟨v, 0, none⟩)] w fun e w' => ∃ p A c, e = .returned (.tuple #[.pointer p, .slice A (Vlt.part D n gen).2.2.1.length c, .int .i64 (Vlt.part D n gen).1]) ∧ OwnT w w' A c (Vlt.part D n gen).2.2.1 ∧ DevT w w' d F (Vlt.part D n gen).2.2.2 ∧
   ((Vlt.part D n gen).1 = 0 → ∃ j, p = some ⟨j, 0, none⟩ ∧ w.heap.size ≤ j ∧ JrnM w' j d [j] (Vlt.part D n gen).2.1) := by
 have r0 := Below.refl w.heap.size w; have hdn := h.n; obtain ⟨fr, hfr⟩ : ∃ fr, 2 * n = fr := ⟨_, rfl⟩; obtain ⟨many, hmany⟩ : ∃ many, D.l.length - 2 * n = many := ⟨_, rfl⟩; obtain ⟨R, hR⟩ : ∃ R, Vlt.part D n gen = R := ⟨_, rfl⟩; rw [hR]; unfold Vlt.part at hR; rw [hmany, hfr] at hR
 have q1 : IntKind.i64.wrap (2 * (n : Int)) = (fr : Int) := by rw [IntWalk.i64_in _ (by omega)]; omega
 have q2 : IntKind.i64.wrap ((D.l.length : Int) - fr) = (many : Int) := by rw [IntWalk.i64_in _ (by omega)]; omega
 have HO := jopen_calls (h.below r0.drew) fr many gen (by omega) (by omega) (by omega) hw; rw [hR] at HO; have HO := hide HO; have HLN := hide (fun (w' : World) (hb : Below w.heap.size w w') => dlen_calls (h.below hb)); have H := hide h; have y0 := hv.rule 0 _ rfl; have y1 := hv.rule 1 _ rfl; have y2 := hv.rule 2 _ rfl; clear h hR hfr hmany hv hdn hg hn hw
 go_enter Tryz.func39, Tryz.ntmps39
 go_upto_region 1 with fail
 refine region_lxf (fun w' => Below w.heap.size w w') [24] 0 [(2,0),(2,1),(2,2),(0,3),(2,4),(2,5),(2,6),(0,7),(2,8),(2,9),(2,10),(2,11),(0,12),(2,14),(2,15),(2,16),(0,17),(2,18),(2,20),(2,21),(2,22),(0,23),(1,13),(2,19),(3,24),(2,25),(2,26),(2,27),(2,28),(2,29),(2,30)] (bzA 31 2147483647) (by (exact r0.drew)) (fun hS0 => ?_)
 (iterate 22 (first | refine lxt ?_ | refine lxp ?_))
 (refine lxe ?_; go_simp; (first | (go_at_call 37; refine (HLN.out _ (by exact r0.drew)).mono ?_; rintro e w' ⟨rfl, rfl⟩) | (go_at_call 79; refine HO.out.mono ?_; rintro e w5 ⟨p, A, c, rfl, ho, hdt, hj⟩)); refine lxB (by (exact r0.drew)) (fun hS1 => ?_))
 refine lxp ?_
 (refine lxn ?_; go_simp; (first | (go_at_call 37; refine (HLN.out _ (by exact r0.drew)).mono ?_; rintro e w' ⟨rfl, rfl⟩) | (go_at_call 79; refine HO.out.mono ?_; rintro e w5 ⟨p, A, c, rfl, ho, hdt, hj⟩)))
 (iterate 6 (refine lxp ?_))
 refine lxN (lxd ?_)
 have hs0 : w.drew.heap.size = w.heap.size := rfl; have H5 : Hid (OwnT w w5 A c R.2.2.1 ∧ DevT w w5 d F R.2.2.2 ∧ (R.1 = 0 → ∃ j, p = some ⟨j, 0, none⟩ ∧ w.heap.size ≤ j ∧ JrnM w5 j d [j] R.2.1)) := hide ⟨ho.back (Nat.le_of_eq hs0.symm), DevT.step ((Chg.refl F w).drew) (fun x hx => Or.inl hx) hdt, hj⟩; clear ho hdt hj hs0 y0 y1 y2 HLN HO hS0 hS1; go_wp2
 go_ret3
 exact ⟨p, A, c, rfl, H5.out⟩

theorem own_blk {w : World} {e : TypeId} {n s c : Nat} {A : Option Addr} {xs : List Value} (h : w.ownsRow 0 e s (.slice A n c) n xs) {g : Nat} (hg : A.map Addr.block = some g) : ∃ cs, Blk w g e cs := by
 rcases h.2 with ⟨h6, _⟩ | ⟨g2, cap, cur, e2, _, hgg, _⟩
 ·cases h6; cases hg
 ·cases e2; cases hg; exact ⟨cur.toList, hgg⟩
theorem JrnM.isB {w : World} {j d : Nat} {F : List Nat} {J : Jrn} (h : JrnM w j d F J) : ∀ x ∈ F, ∃ t cs, Blk w x t cs := by
 obtain ⟨A, c, X, h1, h2, h3, h4, rfl⟩ := h.ex
 intro x hx
 simp only [List.mem_cons, Option.mem_toList] at hx
 rcases hx with rfl | hx
 ·exact ⟨_, _, h1⟩
 ·exact ⟨_, own_blk h2 hx⟩
theorem DevM.isB {w : World} {d : Nat} {F : List Nat} {D : Dev} (h : DevM w d F D) : ∀ x ∈ F, ∃ t cs, Blk w x t cs := by
 obtain ⟨lb, A, c, h1, h2, h3, rfl⟩ := h.ex
 intro x hx
 simp only [List.mem_cons, Option.mem_toList] at hx
 rcases hx with rfl | rfl | hx
 ·exact ⟨_, _, h1⟩
 ·exact ⟨_, _, h2⟩
 ·exact ⟨_, own_blk h3 hx⟩
theorem KvM.notB {w : World} {b : Nat} {l : KV} (h : KvM w b l) {F : List Nat} (hF : ∀ x ∈ F, ∃ t cs, Blk w x t cs) : ∀ x ∈ F, x ∉ [b] := fun x hx hb => by
 obtain ⟨t, cs, hk⟩ := hF x hx; obtain ⟨X, h1, _⟩ := h; rw [List.mem_singleton.1 hb] at hk
 exact h1.gm.noBlk hk
def JpM (w : World) (jp : Option Addr) (d : Nat) (F : List Nat) (V : Vlt) : Prop := (∃ j, jp = some ⟨j, 0, none⟩ ∧ JrnM w j d F V.J) ∨ (V.gone = true ∧ F = [])
structure VltM (w : World) (v d : Nat) (F : List Nat) (V : Vlt) : Prop where
 ex : ∃ jp mb Fj Fd, Blk w v 95 [.pointer (some ⟨d, 0, none⟩), .int .i64 V.n, .int .i64 V.gen, .map (some mb), .pointer jp, .bool V.gone] ∧
  KvM w mb V.l ∧ JpM w jp d Fj V ∧ DevM w d Fd V.D ∧ F = v :: mb :: (Fj ++ Fd)
def kvGetI (l : KV) (k : Int) : Option (List Nat) := if k < 0 then none else kvGet l k.toNat
theorem fd_kv (k : Int) : ∀ X : List Kx, (fd Kx.key X k).map Kx.v = kvGetI (X.map Kx.kv) k
 |[] => by unfold kvGetI; split <;> rfl
 |y :: t => by
  have ih := fd_kv k t; rw [fd_cons]; unfold kvGetI kvGet at ih ⊢
  by_cases hy : Kx.key y = k
  ·have hk : (y.k : Int) = k := hy
   rw [if_pos hy, if_neg (by omega), List.map_cons, List.find?_cons_of_pos (by simp [Kx.kv]; omega)]
   rfl
  ·have hk : ¬ (y.k : Int) = k := hy
   rw [if_neg hy, ih]
   by_cases h0 : k < 0
   ·rw [if_pos h0, if_pos h0]
   ·rw [if_neg h0, if_neg h0, List.map_cons, List.find?_cons_of_neg (by simp [Kx.kv]; omega)]
theorem vget_calls {w : World} {v d : Nat} {F : List Nat} {V : Vlt} (h : VltM w v d F V) (k : Int) (hk : i64ok k) :
  Calls Tryz.prog 82 #[.pointer (some ⟨v, 0, none⟩), .int .i64 k] w fun e w' => ∃ A c, e = .returned (.tuple #[.slice A ((kvGetI V.l k).getD []).length c, .bool (kvGetI V.l k).isSome]) ∧ OwnB w w' A c ((kvGetI V.l k).getD []) ∧ Below w.heap.size w w' := by
 obtain ⟨j, mb, Fj, Fd, h1, ⟨X, x1, x2, x3⟩, _⟩ := h.ex; have r0 := Below.refl w.heap.size w; have y3 : w.cell? ⟨v, 3, none⟩ = some (.map (some mb)) := h1.cell 3; have hf := fd_kv k X; rw [x2] at hf
 have hz : (zeroValue 42).run Tryz.prog w = .ok (.slice none 0 0) w := by kernel_rfl
 have hlk := x1.look_ok hk Tryz.underlying92 hz
 cases hx : fd Kx.key X k with
 |none =>
  rw [hx] at hlk hf; simp only [Option.map_none, Option.getD_none, Option.isSome_none] at hlk hf; rw [← hf]; have HCL := hide (cloneB_calls none 0 [] w (by simp) Reads.none_); clear hf hx x1 x2 x3 h1 h hz hk
  go_enter Tryz.func82, Tryz.ntmps82
  go_wp2_with fail; refine HCL.out.mono ?_; rintro e w' ⟨A', c', rfl, ho, hb⟩; have HO := hd2 ho hb; clear ho hb; go_wp2
  go_ret2
  exact ⟨A', c', rfl, HO.out⟩
 |some x =>
  have hxm := (fd_some hx).1; rw [hx] at hlk hf; simp only [Option.map_some, Option.getD_some, Option.isSome_some, Kx.val] at hlk hf; rw [← hf]; have hok := x3 x hxm; have HCL := hide (cloneB_calls x.A x.c x.v w (by have := hok.2.1; omega) hok.1.rb.rd); clear hf hx x1 x2 x3 h1 h hz hk hok hxm
  go_enter Tryz.func82, Tryz.ntmps82
  go_wp2_with fail; refine HCL.out.mono ?_; rintro e w' ⟨A', c', rfl, ho, hb⟩; have HO := hd2 ho hb; clear ho hb; go_wp2
  go_ret2
  exact ⟨A', c', rfl, HO.out⟩

theorem jform_len {gen n : Nat} {b : List Nat} (hb : ∀ x ∈ b, x < 256) : (jform gen n b).2.length / 64 ≤ 16 := by
 by_cases h : (jform gen n b).1 = 0
 ·obtain ⟨sz, h1, h2, h3, _⟩ := jform_ok h hb
  omega
 ·rw [jform_no h]; simp
theorem vsect_calls {w0 w : World} {A : Option Addr} {c : Nat} {L : List (List Nat)} (h : OwnT w0 w A c L) (hb : ∀ t ∈ L, t.length ≤ 100000 ∧ ∀ y ∈ t, y < 256) (hl : L.length ≤ 100000) (gen : Nat) (hg : gen < 2 ^ 63) :
  Calls Tryz.prog 189 #[.slice A L.length c, .int .i64 gen] w fun e w' => e = .returned (.int .i64 (sectorsF gen 0 L : Nat)) ∧ Below w.heap.size w w' := by
 obtain ⟨R, hR⟩ : ∃ R, sectorsF gen 0 L = R := ⟨_, rfl⟩; rw [hR]; obtain ⟨X, x1, x2, x3, x4⟩ := h; obtain ⟨A9, c9, e9, hnc, _, _, _, hrd⟩ := own_view x2
 cases e9
 have hXl : X.length = L.length := by rw [← x1, List.length_map]
 have hRX := hrd _ (fun g hg => own_lt x2 hg); obtain ⟨N, hN⟩ : ∃ N, L.length = N := ⟨_, rfl⟩; rw [hN] at hRX hXl hl; rw [hN]; have r0 := Below.refl w.heap.size w; have HX := hd7 hRX x4 hXl x1 hb hN hg
 have hlN : (N : Int) ≤ 100000 := by omega
 clear x1 x2 x3 x4 hrd hRX hXl hN hb hg hnc hl
 go_enter Tryz.func189, Tryz.ntmps189
 go_wp2
 go_loopw [4, 5, 6, 7, 8, 11, 12, 13, 14, 15, 16, 17, 18, 19, 20, 21, 22, 23, 24, 25, 26, 27, 28] (fun av _ _ _ _ iv _ _ _ _ _ _ _ _ _ _ _ _ _ _ _ _ _ wr => ∃ (k a : Nat), k ≤ N ∧ iv = .int .i64 k ∧ av = .int .i64 a ∧ Hid (R = a + sectorsF gen k (L.drop k)) ∧ Below w.heap.size w wr ∧ a ≤ 16 * k) (fun _ _ _ _ _ iv _ _ _ _ _ _ _ _ _ _ _ _ _ _ _ _ _ _ => N - (Go.RowKit.intOf iv).toNat)
 case atStart => exact ⟨0, 0, Nat.zero_le _, rfl, rfl, hide (by simpa using hR.symm), r0, Nat.le_refl _⟩
 case round =>
  obtain ⟨k, a, hk, rfl, rfl, hs, hbr, ha⟩ := hrel
  by_cases hlt : k < N
  ·have i1 : (k : Int) < N := by omega
   have hkX : k < X.length := by rw [HX.out.2.2.1]; exact hlt
   have hkL : k < L.length := by rw [HX.out.2.2.2.2.2.1]; exact hlt
   obtain ⟨bA, oA, rfl, hbA, hcA⟩ := (HX.out.1.below hbr).at_ (by omega); have hcl := hcA _ _ (txCells_get X k hkX); obtain ⟨x, hx⟩ : ∃ x, X[k] = x := ⟨_, rfl⟩; rw [hx] at hcl
   have hxm : x ∈ X := by rw [← hx]; exact List.getElem_mem _
   have g1 : L[k] = x.b := by
    have h9 : L[k] = (X.map Tx.b)[k]'(by simpa using hkX) := by simp only [HX.out.2.2.2.1]
    rw [h9, List.getElem_map, hx]
   have hxb := HX.out.2.2.2.2.1 x.b (by rw [← g1]; exact List.getElem_mem _); have hxo := (HX.out.2.1 x hxm).below hbr; have HFO := jform_calls wr gen k hxo.bt.rb hxb.2 hxb.1 HX.out.2.2.2.2.2.2 (by omega); have hfl := jform_len (gen := gen) (n := k) hxb.2; have hs2 := hs.out; rw [List.drop_eq_getElem_cons hkL, g1, sectorsF] at hs2; obtain ⟨⟨e1, FB⟩, hq⟩ : ∃ y, jform gen k x.b = y := ⟨_, rfl⟩; rw [hq] at HFO hfl hs2; simp only [] at hfl hs2; have HFO := hide HFO; obtain ⟨z, hz⟩ : ∃ z, FB.length / 64 = z := ⟨_, rfl⟩; rw [hz] at hfl hs2
   have q1 : (FB.length : Int) / 64 = (z : Int) := by omega
   obtain ⟨a2, ha2⟩ : ∃ a2, a + z = a2 := ⟨_, rfl⟩; have q3 : IntKind.i64.wrap (z : Int) = (z : Int) := IntWalk.i64_in _ (by omega)
   have q2 : IntKind.i64.wrap ((a : Int) + z) = (a2 : Int) := by rw [IntWalk.i64_in _ (by omega)]; omega
   have HS := hd5 hs2 hbr hfl ha ha2; clear ha2 hkX hkL hbA hcA hx hxm g1 hxb hxo hfl hs2 hq hz hs hbr ha; go_wp2_with fail; refine HFO.out.mono ?_; rintro e w1 ⟨A1, c1, rfl, _, hb1, _⟩; have HB1 := hide (belowA hb1 HS.out.2.1); clear hb1 HFO hcl; go_wp2
   go_roundw
   case rel => exact ⟨k + 1, a2, by omega, by go_num, rfl, hide (by have := HS.out.1; have := HS.out.2.2.2.2; omega), HB1.out, by have := HS.out.2.2; omega⟩
   case measure => simp [Go.RowKit.intOf]; omega
  ·have i1 : ¬ (k : Int) < N := by omega
   obtain rfl : k = N := by omega
   have hs2 := hs.out; rw [List.drop_of_length_le (by rw [HX.out.2.2.2.2.2.1]; exact Nat.le_refl _), sectorsF, Nat.add_zero] at hs2; subst hs2; have HB := hide hbr; clear hbr hs ha; go_wp2; go_ret
   exact ⟨rfl, HB.out⟩

theorem vdone_calls {w : World} {v : Nat} {x0 x1 x2 x3 x4 : Value} {g : Bool} (hv : Blk w v 95 [x0, x1, x2, x3, x4, .bool g]) (e : Nat) :
  Calls Tryz.prog 176 #[.pointer (some ⟨v, 0, none⟩), .int .i64 e] w fun r w' => r = .returned (.int .i64 e) ∧ Blk w' v 95 [x0, x1, x2, x3, x4, .bool (g || e != 0)] ∧ Chg [v] w w' := by
 by_cases he : e = 0
 ·subst he
  have HV := hide hv; clear hv
  go_enter Tryz.func176, Tryz.ntmps176
  go_wp2; go_ret
  exact ⟨rfl, by simpa using HV.out, Chg.refl _ _⟩
 ·have u1 : ((e : Int) != 0) = true := by simp; omega
  have q5 := hv.cell 5; have f5 := hv.frozen 5; simp only [List.getElem?_cons_succ, List.getElem?_cons_zero] at q5; have HV : Hid (Blk (w.setCell ⟨v, 5, none⟩ (.bool true)) v 95 [x0, x1, x2, x3, x4, .bool true] ∧ Chg [v] w (w.setCell ⟨v, 5, none⟩ (.bool true))) := hide ⟨hv.set 5 _, (Chg.refl [v] w).setCell (p := ⟨v, 5, none⟩) (Or.inl (by simp)) _⟩
  have hE : (g || e != 0) = true := by simp [he]
  rw [hE]; clear hv he hE
  go_enter Tryz.func176, Tryz.ntmps176
  go_wp2; go_ret
  exact ⟨rfl, HV.out⟩

theorem Dev.burn_off (D : Dev) (h : D.burn.1 = false) : D.burn.2.off = false := by
 unfold Dev.burn at h ⊢
 split at h
 ·cases h
 ·rename_i h1
  rw [if_neg h1]
  split at h
  ·cases h
  ·rename_i h2
   rw [if_neg h2]
   split <;> simpa using h1
theorem Dev.write_next (D : Dev) (i : Nat) (b : List Nat) (h : (D.write (i : Int) b).1 = 0) : (D.write (i : Int) b).2.off = false ∧ ∀ m, i < m → (D.write (i : Int) b).2.l.drop m = D.l.drop m := by
 unfold Dev.write at h ⊢; simp only [] at h ⊢
 split at h
 ·cases h
 ·rename_i h1
  rw [if_neg h1]
  split at h
  ·cases h
  ·rename_i h2
   rw [if_neg h2]
   refine ⟨D.burn_off (by simpa using h1), fun m hm => ?_⟩
   simp only [Int.toNat_natCast]
   exact List.drop_set_of_lt hm
def blankL (n fr : Nat) (S : List (List Nat)) (k : Nat) (D : Dev) (any : Bool) : Nat × Dev :=
 if D.off = true ∧ k < n then (17, D) else
 let r := wipeF S D (fr + k) any
 if r.1 ≠ 0 then (r.1, r.2.2) else if r.2.1 then r.2.2.flush else (0, r.2.2)
section
variable {n fr k e1 : Nat} {s : List Nat} {t : List (List Nat)} {D D1 : Dev} {any : Bool}
theorem blankL_on (hoff : D.off = false) : blankL n fr t k D any = if (wipeF t D (fr + k) any).1 ≠ 0 then ((wipeF t D (fr + k) any).1, (wipeF t D (fr + k) any).2.2) else if (wipeF t D (fr + k) any).2.1 then (wipeF t D (fr + k) any).2.2.flush else (0, (wipeF t D (fr + k) any).2.2) := by
 unfold blankL
 exact if_neg (by simp [hoff])
theorem blankL_zero (hoff : D.off = false) : blankL n fr (zero64 :: t) k D any = blankL n fr t (k + 1) D any := by
 have h : wipeF (zero64 :: t) D (fr + k) any = wipeF t D (fr + (k + 1)) any := by rw [wipeF, if_pos rfl, Nat.add_assoc]
 rw [blankL_on hoff, blankL_on hoff, h]
theorem blankL_bad (hoff : D.off = false) (hs : s ≠ zero64) (hq : D.write ((fr + k : Nat) : Int) zero64 = (e1, D1)) (he : e1 ≠ 0) : blankL n fr (s :: t) k D any = (e1, D1) := by
 unfold blankL; rw [if_neg (by simp [hoff]), wipeF, if_neg hs]; simp only [hq, if_pos he]
theorem blankL_ok (hoff : D.off = false) (hs : s ≠ zero64) (hq : D.write ((fr + k : Nat) : Int) zero64 = (0, D1)) : blankL n fr (s :: t) k D any = blankL n fr t (k + 1) D1 true := by
 have h1 := (D.write_next (fr + k) zero64 (by rw [hq])).1; rw [hq] at h1
 have h : wipeF (s :: t) D (fr + k) any = wipeF t D1 (fr + (k + 1)) true := by
  rw [wipeF, if_neg hs]; simp only [hq, ne_eq, not_true_eq_false, if_false, Nat.add_assoc]
 rw [blankL_on hoff, blankL_on h1, h]
theorem blankL_end : blankL n fr [] n D any = if any then D.flush else (0, D) := by
 unfold blankL; rw [if_neg (by omega)]
 cases any <;> rfl
end
theorem vblank_calls {w : World} {v d n : Nat} {F : List Nat} {D : Dev} {x2 x3 x4 x5 : Value} (hv : Blk w v 95 [.pointer (some ⟨d, 0, none⟩), .int .i64 n, x2, x3, x4, x5]) (hvF : v ∉ F) (h : DevM w d F D) (fr : Nat) (hr : fr + n ≤ D.l.length) (hw : D.waits.length ≤ 50000) :
  Calls Tryz.prog 202 #[.pointer (some ⟨v, 0, none⟩), .int .i64 fr] w fun e w' => e = .returned (.int .i64 (jsweep D fr n).1) ∧ DevT w w' d F (jsweep D fr n).2 := by
 obtain ⟨R, hR⟩ : ∃ R, jsweep D fr n = R := ⟨_, rfl⟩; rw [hR]; obtain ⟨SL, hSL⟩ : ∃ SL, (D.l.drop fr).take n = SL := ⟨_, rfl⟩
 have hR : blankL n fr SL 0 D false = R := by rw [← hR, ← hSL]; rfl
 have hSLl : SL.length = n := by rw [← hSL, List.length_take, List.length_drop]; omega
 have hn := h.n; have mk : ∀ w : World, (Instr.makeSlice 42 (.int .i64 64) (.int .i64 64)).run Tryz.prog w = .ok (.slice (some ⟨w.heap.size, 0, none⟩) 64 64) (w.alloc (.cells (bys zero64).toArray 5)) := run_makeB 64 (by omega); obtain ⟨w2, hw2⟩ : ∃ w2, w.alloc (.cells (bys zero64).toArray 5) = w2 := ⟨_, rfl⟩; obtain ⟨zb, hzb⟩ : ∃ zb, w.heap.size = zb := ⟨_, rfl⟩
 have hb2 : Below w.heap.size w w2 := hw2 ▸ belowL (Below.refl _ _) _
 have hZ2 : Blk w2 zb 5 (bys zero64) := by rw [← hw2, ← hzb]; exact Blk.new rfl
 have hF := h.lt; have hRZ : Rb w2 F (some ⟨zb, 0, none⟩) 64 zero64 := hZ2.rb (by simp) (fun hx => by have := hF _ hx; omega); have bv2 := hv.below hb2; have y1 : w2.cell? ⟨v, 1, none⟩ = some (.int .i64 n) := bv2.cell 1; have H := hd6 (h.below hb2) bv2 hvF hRZ hb2 hw; have HW := hd2 hw2 hzb; clear h hv hvF hw hb2 hZ2 hF hRZ bv2 hw2 hzb
 go_enter Tryz.func202, Tryz.ntmps202
 go_upto_region 2 with fail
 (try rw [HW.out.1])
 (try rw [HW.out.2])
 have HSL := hd2 hSL hSLl; clear mk hSL hSLl; go_wp2
 go_loopw [4, 6, 7, 8, 9, 10, 16, 17, 18, 19, 20, 21, 22, 23, 24, 25, 26, 27, 28, 29, 30, 31, 32, 33, 34, 35, 36, 37, 38, 39, 40, 41, 42, 43, 44, 45, 46, 47, 48] (fun _ av _ _ _ _ iv _ _ _ _ _ _ _ _ _ _ _ _ _ _ _ _ _ _ _ _ _ _ _ _ _ _ _ _ _ _ _ _ wr => ∃ (k : Nat) (F1 : List Nat) (Dk : Dev) (any : Bool), k ≤ n ∧ iv = .int .i64 k ∧ av = .bool any ∧ Hid (blankL n fr SL 0 D false = blankL n fr (SL.drop k) k Dk any) ∧ DevM wr d F1 Dk ∧ Chg F w2 wr ∧ (∀ x ∈ F1, x ∈ F ∨ w2.heap.size ≤ x) ∧ Hid (Dk.l.drop (fr + k) = D.l.drop (fr + k) ∧ Dk.l.length = D.l.length ∧ Dk.waits.length ≤ D.waits.length + k)) (fun _ _ _ _ _ _ iv _ _ _ _ _ _ _ _ _ _ _ _ _ _ _ _ _ _ _ _ _ _ _ _ _ _ _ _ _ _ _ _ _ => n - (Go.RowKit.intOf iv).toNat)
 case atStart => exact ⟨0, F, D, false, Nat.zero_le _, rfl, rfl, hide rfl, H.out.1, Chg.refl _ _, fun x hx => Or.inl hx, hide ⟨rfl, rfl, Nat.le_refl _⟩⟩
 case round =>
  obtain ⟨k, F1, Dk, any, hk, rfl, rfl, hwp, hd, hc, hF1, hDk⟩ := hrel; have HC := hd2 hc hF1; have HDM := hide hd; have bvr := H.out.2.1.chg hc H.out.2.2.1; have y1r := bvr.rule 1 _ rfl; have y0r := bvr.rule 0 _ rfl
  by_cases hlt : k < n
  ·have i1 : (k : Int) < n := by omega
   obtain ⟨ai, hai⟩ : ∃ m, fr + k = m := ⟨_, rfl⟩
   have q4 : IntKind.i64.wrap ((fr : Int) + k) = (ai : Int) := by rw [IntWalk.i64_in _ (by omega)]; omega
   have rr := Below.refl wr.heap.size wr; have HRD := dread_calls hd (ai : Int)
   by_cases hoff : Dk.off = true
   ·have hrd : Dk.read (ai : Int) = (17, []) := by unfold Dev.read; rw [if_pos hoff]
    rw [hrd] at HRD
    have hRR : R = (17, Dk) := by rw [← hR, hwp.out]; unfold blankL; rw [if_pos ⟨hoff, hlt⟩]
    have HRR := hide hRR; have HRD := hide HRD; clear hrd hRR hwp hR hd hc hF1 hoff; go_wp2_with fail; refine HRD.out.mono ?_; rintro e w5 ⟨A5, c5, rfl, _, hb5⟩; have hb5' : Below wr.heap.size wr w5 := hb5; have H5 := hide (show DevT w w5 d F Dk from DevT.step (Chg.of_below H.out.2.2.2.2.1) (fun x hx => Or.inl hx) ⟨F1, HDM.out.below hb5', HC.out.1.below hb5', HC.out.2⟩); clear hb5 hb5' y0r y1r; go_wp2; go_ret; rw [HRR.out]
    exact ⟨rfl, H5.out⟩
   ·have hoff' : Dk.off = false := by simpa using hoff
    obtain ⟨s, hs⟩ : ∃ s, Dk.l.getD ai [] = s := ⟨_, rfl⟩; have hdk := hDk.out
    have hail : ai < Dk.l.length := by omega
    have hrd : Dk.read (ai : Int) = (0, s) := by unfold Dev.read; rw [if_neg hoff, if_neg (by omega), Int.toNat_natCast, hs]
    have hs64 : s.length = 64 := by rw [← hs]; exact sec_len hd.ok hail
    have h3 : Dk.l.drop (ai + 1) = D.l.drop (ai + 1) := by
     have h9 := congrArg (List.drop 1) hdk.1; rw [List.drop_drop, List.drop_drop, hai] at h9
     exact h9
    have hdr : SL.drop k = s :: SL.drop (k + 1) := by
     have g1 : SL.drop k = (Dk.l.drop ai).take (n - k) := by rw [← HSL.out.1, List.drop_take, List.drop_drop, ← hai, hdk.1]
     have g2 : SL.drop (k + 1) = (Dk.l.drop (ai + 1)).take (n - (k + 1)) := by rw [← HSL.out.1, List.drop_take, List.drop_drop, h3, ← hai, Nat.add_assoc]
     rw [g1, List.drop_eq_getElem_cons hail, show n - k = (n - (k + 1)) + 1 by omega, List.take_succ_cons, g2]
     congr 1
     rw [← hs]
     simp [List.getD_eq_getElem?_getD, hail]
    have hwp2 := hwp.out; rw [hdr] at hwp2; rw [hrd] at HRD; simp only [hs64] at HRD; have HRD := hide HRD; have HP := hd5 hwp2 hoff' h3 hs64 hai; have hrz := (H.out.2.2.2.1.chg hc (fun x hx => Or.inl hx)); have HRZ := hide hrz; have HV := hide bvr; clear hoff hoff' hs hdk hail hrd hs64 h3 hdr hwp2 hwp hd hc hF1 hrz bvr hai; go_wp2_with fail; refine HRD.out.mono ?_; rintro e w5 ⟨A5, c5, rfl, ho5, hb5⟩; have hb5' : Below wr.heap.size wr w5 := hb5; have HEQ := equalBytes_calls s zero64 A5 (some ⟨zb, 0, none⟩) c5 64 w5 (ho5.rb (no := []) (by simp)).rd (HRZ.out.below hb5').rd (by have := HP.out.2.2.2.1; omega) (by simp); rw [HP.out.2.2.2.1, show zero64.length = 64 by simp] at HEQ; have HEQ := hide HEQ; have HB5 := hide hb5'; clear ho5 hb5 hb5' y0r y1r; go_wp2_with fail; refine HEQ.out.mono ?_; rintro e w6 ⟨rfl, q, rfl⟩; obtain ⟨w6, hw6⟩ : ∃ w6, w5.drewN q = w6 := ⟨_, rfl⟩
    have hb6 : Below wr.heap.size wr w6 := hw6 ▸ below_drewN HB5.out q
    rw [hw6]; have HB6 := hide hb6; clear hw6 hb6 HB5 HEQ
    by_cases hs0 : s = zero64
    ·have hdz1 : decide (s = zero64) = true := by simpa using hs0
     rw [hdz1]; have HW2 := hide (show blankL n fr SL 0 D false = blankL n fr (SL.drop (k + 1)) (k + 1) Dk any from HP.out.1.trans (by rw [hs0]; exact blankL_zero HP.out.2.1)); clear hdz1 hs0; go_wp2
     go_roundw
     case rel => exact ⟨k + 1, F1, Dk, any, by omega, by go_num, rfl, HW2, HDM.out.below HB6.out, HC.out.1.below HB6.out, HC.out.2, hide (by have h1 := hDk.out; have h2 := HP.out; refine ⟨?_, h1.2.1, by omega⟩; rw [← Nat.add_assoc, h2.2.2.2.2]; exact h2.2.2.1)⟩
     case measure => simp [Go.RowKit.intOf]; omega
    ·have hdz1 : decide (s = zero64) = false := by simpa using hs0
     rw [hdz1]; have bv6 := HV.out.below HB6.out; have y0w := bv6.rule 0 _ rfl; have r6 := Below.refl w6.heap.size w6; have hb6d : Below wr.heap.size wr w6 := HB6.out; have hc6 := HC.out.1.below hb6d
     have hrz : Rb w6 F1 (some ⟨zb, 0, none⟩) 64 zero64 := by
      have h1 : Rb w2 (F ++ F1) (some ⟨zb, 0, none⟩) 64 zero64 := H.out.2.2.2.1.plus (fun x hx => (List.mem_append.1 hx).elim Or.inl (HC.out.2 x))
      exact (h1.chg hc6 (fun x hx => Or.inl (List.mem_append_left _ hx))).sub (fun x hx => List.mem_append_right _ hx)
     have HWR := dwrite_calls (HDM.out.below hb6d) (ai : Int) hrz (fun x hx => by rw [(List.mem_replicate.1 hx).2]; omega) (by have h8 := hDk.out; have h9 := H.out.2.2.2.2.2; omega); rw [show zero64.length = 64 by simp] at HWR; have hwl := Dk.write_len (ai : Int) zero64
     have hwn := fun e => Dk.write_next ai zero64 e
     obtain ⟨⟨e1, D1⟩, hq⟩ : ∃ y, Dk.write (ai : Int) zero64 = y := ⟨_, rfl⟩; rw [hq] at HWR hwl hwn
     have hbad := fun (he : e1 ≠ 0) => HP.out.1.trans (blankL_bad (n := n) (any := any) (t := SL.drop (k + 1)) HP.out.2.1 hs0 (by rw [HP.out.2.2.2.2]; exact hq) he)
     have hgood := fun (he : e1 = 0) => HP.out.1.trans (blankL_ok (n := n) (any := any) (t := SL.drop (k + 1)) HP.out.2.1 hs0 (by rw [HP.out.2.2.2.2, hq, he]))
     have HWR := hide HWR; have HWL := hd4 hwl hwn hbad hgood; have HC6 := hide hc6; clear hdz1 hs0 bv6 hb6d hc6 hrz hwl hwn hq hbad hgood; go_wp2_with fail; refine HWR.out.mono ?_; rintro e w7 ⟨rfl, F4, hdz4, hc4, hF4⟩; have hc24 : Chg F w2 w7 := HC6.out.trans hc4 HC.out.2
     have hF24 : ∀ x ∈ F4, x ∈ F ∨ w2.heap.size ≤ x := fun x hx => (hF4 x hx).elim (HC.out.2 x) (fun h => Or.inr (Nat.le_trans HC6.out.size h))
     have H4 := hd3 hdz4 hc24 hF24; clear hdz4 hc4 hF4 hc24 hF24 y0w r6
     by_cases he1 : e1 = 0
     ·subst he1
      have HW3 := hide (HWL.out.2.2.2 rfl); go_wp2
      go_roundw
      case rel => exact ⟨k + 1, F4, D1, true, by omega, by go_num, rfl, HW3, H4.out.1, H4.out.2.1, H4.out.2.2, hide (by
       have h1 := hDk.out; have h2 := HWL.out.1; have h3 := (HWL.out.2.1 (by first | rfl | trivial)).2 (ai + 1) (by omega); have h5 := HP.out.2.2
       (try simp only [] at h2 h3)
       refine ⟨?_, by omega, by omega⟩
       rw [← Nat.add_assoc, h5.2.2]
       exact h3.trans h5.1)⟩
      case measure => simp [Go.RowKit.intOf]; omega
     ·have u1 : ((e1 : Int) != 0) = true := by simp; omega
      have hE := HWL.out.2.2.1 he1; rw [hR] at hE; have HE := hide hE; clear he1 hE hR; go_wp2; go_ret; rw [HE.out]
      exact ⟨rfl, DevT.step (Chg.of_below H.out.2.2.2.2.1) (fun x hx => Or.inl hx) ⟨F4, H4.out.1, H4.out.2.1, H4.out.2.2⟩⟩
  ·have i1 : ¬ (k : Int) < n := by omega
   obtain rfl : k = n := by omega
   have hE := hwp.out; rw [List.drop_of_length_le (by rw [HSL.out.2]; exact Nat.le_refl _), blankL_end, hR] at hE; have HFL := dflush_calls hd; have y0c : wr.cell? ⟨v, 0, none⟩ = some (.pointer (some ⟨d, 0, none⟩)) := bvr.cell 0; clear hwp hd hc hF1 hR y0r y1r
   cases any with
   |false =>
    rw [if_neg (by simp)] at hE; have HE := hide hE; clear hE HFL; go_wp2; go_ret; rw [HE.out]
    exact ⟨rfl, DevT.step (Chg.of_below H.out.2.2.2.2.1) (fun x hx => Or.inl hx) ⟨F1, HDM.out, HC.out.1, HC.out.2⟩⟩
   |true =>
    rw [if_pos rfl] at hE; rw [← hE] at HFL; have HFL := hide HFL; clear hE; go_wp2_with fail; refine HFL.out.mono ?_; rintro e w6 ⟨rfl, hdt⟩; have H6 := hide (show DevT w w6 d F R.2 from DevT.step ((Chg.of_below (L := F) H.out.2.2.2.2.1).trans HC.out.1 (fun x hx => Or.inl hx)) (fun x hx => (HC.out.2 x hx).imp id (fun h => Nat.le_trans H.out.2.2.2.2.1.size h)) hdt); clear hdt; go_wp2; go_ret
    exact ⟨rfl, H6.out⟩
end Go.Proofs.YtcahcjfgmdpdoaaGreat
