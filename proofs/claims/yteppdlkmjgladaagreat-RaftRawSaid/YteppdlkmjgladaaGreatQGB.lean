/- One text of: Gf Gg Gh Gi Gj. -/
import Derived.Test.YteppdlkmjgladaaGreatQGA
namespace Go.Proofs.YteppdlkmjgladaaGreat
open Go.RowKit Go.Proofs Go.Maps
set_option linter.unusedVariables false
set_option linter.unusedSimpArgs false
theorem zA34 {α : Type} (l : List α) (i : Nat) (a : α) : l.toArray.setIfInBounds i a = (l.set i a).toArray := by simp
theorem zB34 {α : Type} (x a : α) (l : List α) : (x :: l).set 0 a = a :: l := rfl
theorem zC34 {α : Type} (x a : α) (l : List α) (n : Nat) : (x :: l).set (n + 1) a = x :: l.set n a := rfl

def Gd.nxt (G : Gd) (f : Int → Option Int) (n : Nat) : Gd := { G with m := { G.m with next := f, on := n } }
def fewI (f : Int → Option Int) : Prop := ∀ x, 0 ≤ (f x).getD 0 ∧ (f x).getD 0 ≤ 2199023255552
theorem fewI.upd {f : Int → Option Int} (h : fewI f) {k v : Int} (hv : 0 ≤ v ∧ v ≤ 2199023255552) : fewI (upd f k (some v)) := fun x => by
 by_cases e : x = k
 ·subst e; rw [upd_same]; exact hv
 ·rw [upd_other e]; exact h x
def GH (j : Nat) (w w' : World) (nb : Nat) (q : Gl) (G : Gd) : Prop := ∃ q' f n, GP w' nb q' (G.nxt f n) ∧ fewI f ∧ n ≤ G.m.on + j ∧ GS w w' nb q q'
theorem MI.nxt {u : Nat} {m : Gm} (h : MI u m) {f : Int → Option Int} (hf : fewI f) {n : Nat} (hn : n ≤ m.on + 100) : MI (u + 1) { m with next := f, on := n } :=
 ⟨h.si, h.st, h.li, h.lt, h.sm, h.sb, h.L, by have := h.n; simp only; omega, ⟨by have := h.votes.1; simp only; omega, h.votes.2⟩, hf, h.mat, by have := h.on; simp only; omega⟩
section
variable {w w' w1 w2 : World} {nb u j k : Nat} {q q1 : Gl} {G : Gd}
theorem lg_term_no {p : Nat} {base term : Int} {L : List Con} {F : List Nat} (h : LG w p base term L F) (h0 : 0 ≤ base) (h1 : base ≤ 4611686018426339328) {i : Int} (hi : i < base) (hi0 : -1 ≤ i) :
  Calls Tryz.prog 47 #[.pointer (some ⟨p, 0, none⟩), .int .i64 i] w fun e w' => e = .returned (.tuple #[.int .i64 0, .bool false]) ∧ ∃ n, w' = w.drewN n := by
 obtain ⟨A, cap, es, hl, rfl, rfl⟩ := h
 have := term_calls p A cap base term es i w hl h0 (by omega) (by omega) (by omega)
 rw [termL_out (by omega) (by simp [hasL]; omega)] at this
 exact this
set_option maxHeartbeats 4000000 in
set_option maxRecDepth 100000 in
theorem ghand_calls (h : GP w nb q G) (hi : MI u G.m) (hu : u ≤ 10000) (k : Int) (hk : 0 ≤ k ∧ k ≤ 15) (hbt : 0 ≤ G.bt ∧ G.bt ≤ 1099511627776 + u) :
  Calls Tryz.prog 88 #[.pointer (some ⟨nb, 0, none⟩), .int .i64 k] w fun e w' => e = .returned (.tuple #[]) ∧ GH 1 w w' nb q G := by
 have r0 := Below.refl w.heap.size w
 obtain ⟨n, hn⟩ : ∃ n, G.m.L.length = n := ⟨_, rfl⟩
 obtain ⟨B, hB⟩ : ∃ B, G.m.li = B := ⟨_, rfl⟩
 have hBb : 0 ≤ B ∧ B ≤ 549755813888 := by rw [← hB, hi.li]; exact hi.si
 have hnl : n ≤ 200000 := by have := hi.n; omega
 have HLA := lg_last h.log (by rw [hB]; omega) (by rw [hB]; omega) (by omega)
 rw [hn, hB] at HLA
 obtain ⟨tt, htt⟩ : ∃ tt, (G.m.L.getLast?.map (·.1)).getD G.m.lt = tt := ⟨_, rfl⟩
 rw [htt] at HLA
 obtain ⟨last, hlast⟩ : ∃ last, B + (n : Int) = last := ⟨_, rfl⟩
 rw [hlast] at HLA
 have HLA := hide HLA
 have y9 : w.cell? ⟨nb, 9, none⟩ = some (.pointer (some ⟨q.lb, 0, none⟩)) := h.blk.cell 9
 obtain ⟨v, hv⟩ : ∃ v, (G.m.next k).getD 0 = v := ⟨_, rfl⟩
 have hvb := hi.next k
 rw [hv] at hvb
 obtain ⟨m, hm⟩ : ∃ m, min (max v 0) (last + 1) = m := ⟨_, rfl⟩
 obtain ⟨z, hz⟩ : ∃ z, (if m = 0 then last else m) = z := ⟨_, rfl⟩
 have hzb : 0 ≤ z ∧ z ≤ last + 1 := by split at hz <;> omega
 have H := hide (And.intro h (And.intro hi (And.intro hB (And.intro hn (And.intro hk hbt)))))
 have HBb := hide (And.intro hBb (And.intro hnl (And.intro hlast hzb)))
 have q0 : IntKind.i64.wrap (last + 1) = last + 1 := IntWalk.i64_in _ (by omega)
 have HV := hide hv
 have HZ := hide hz
 have HKI := hide (show i64ok k by unfold i64ok; omega)
 have HZI := hide (show i64ok z by unfold i64ok; omega)
 clear h hi hn hB hBb hnl htt hlast hv hvb hz hzb hk hbt
 go_enter Tryz.func88, Tryz.ntmps88
 go_wp2_with fail
 with_reducible refine HLA.out.mono ?_
 rintro e w1 ⟨rfl, q1, rfl⟩
 have hb1 := below_drewN r0 q1
 have h1 := H.out.1.below hb1
 have y18 : (w.drewN q1).cell? ⟨nb, 18, none⟩ = some (.map (some q.nx)) := h1.blk.cell 18
 have hlk := h1.nx.look (k := k) HKI.out
 rw [HV.out] at hlk
 have H1 := hide (And.intro h1 hb1)
 obtain ⟨w1, hw1⟩ : ∃ w1, w.drewN q1 = w1 := ⟨_, rfl⟩
 rw [hw1] at y18 hlk H1 ⊢
 clear y9 HLA h1 hb1 hw1
 go_upto_if 32 with fail
 go_cut [6] from 31 to 34 (fun t wx => t = .int .i64 z ∧ wx = w1)
 case first =>
  have hz2 := HZ.out
  by_cases hm0 : m = 0
  ·rw [if_pos hm0] at hz2
   have u0 : (m == 0) = true := by rw [beq_iff_eq]; exact hm0
   clear hm0
   go_wp2
   go_meet
   case rel => exact ⟨by rw [hz2], rfl⟩
  ·rw [if_neg hm0] at hz2
   have u0 : (m == 0) = false := by rw [beq_eq_false_iff_ne]; exact hm0
   clear hm0
   go_wp2
   go_meet
   case rel => exact ⟨by rw [hz2], rfl⟩
 case rest =>
  obtain ⟨rfl, rfl⟩ := hcut
  have HMU := hide H1.out.1.nx
  have HKK := hide H.out.2.2.2.2.1
  have y18' := y18
  clear hlk hm
  go_wp2_with (first | with_reducible fail | (refine IM.wpl_putR rfl _ _ _ rfl rfl rfl rfl HMU.out HKK.out HZI.out ?_))
  intro w2 hm2 hc2
  have h2 := H1.out.1.nextT hm2 hc2
  obtain ⟨f, hf⟩ : ∃ f, upd G.m.next k (some z) = f := ⟨_, rfl⟩
  have hff : fewI f := by rw [← hf]; exact fewI.upd H.out.2.1.next (by have := HBb.out; omega)
  rw [hf] at h2
  have gs2 : GS w w2 nb q q := (GS.stay H1.out.2).trans ⟨hc2.mono (fun x hx => Or.inl (gt_mem.2 (Or.inr (Or.inl (List.mem_singleton.1 hx))))), fun x hx => Or.inl hx, fun x hx => Or.inl hx⟩
  obtain ⟨G2, hG2⟩ : ∃ G2, G.nxt f G.m.on = G2 := ⟨_, rfl⟩
  have h2' : GP w2 nb q G2 := by rw [← hG2]; exact h2
  have hi2 : MI (u + 1) G2.m := by rw [← hG2]; exact H.out.2.1.nxt hff (by omega)
  have hG2s : G2.m.li = B ∧ G2.m.L.length = n ∧ G2.bt = G.bt := by rw [← hG2]; exact ⟨H.out.2.2.1, H.out.2.2.2.1, rfl⟩
  have y9 : w2.cell? ⟨nb, 9, none⟩ = some (.pointer (some ⟨q.lb, 0, none⟩)) := h2'.blk.cell 9
  have H2 := hide (And.intro h2' (And.intro hi2 (And.intro hG2s (And.intro hff (And.intro gs2 hG2)))))
  have hzz : 0 ≤ z ∧ z ≤ 1099511627776 := by have := HBb.out; omega
  have q2 : IntKind.i64.wrap (z - 1) = z - 1 := IntWalk.i64_in _ (by omega)
  clear hm2 hc2 h2 hf hff gs2 h2' hi2 hG2s hG2 y18 y18' HMU
  by_cases hzB : B ≤ z - 1
  ·obtain ⟨r, hr⟩ : ∃ r : Nat, z - 1 = B + r := ⟨(z - 1 - B).toNat, by omega⟩
   have hrn : r ≤ n := by have := HBb.out; omega
   have HTE := lg_term r H2.out.1.log (by rw [H2.out.2.2.1.1]; have := HBb.out; omega) (by rw [H2.out.2.2.1.1]; have := HBb.out; omega) (by have := HBb.out; omega) (i := z - 1) (by rw [H2.out.2.2.1.1]; exact hr)
   rw [termC_in (by rw [H2.out.2.2.1.2.1]; exact hrn)] at HTE
   obtain ⟨tv, htv⟩ : ∃ tv, (termC G2.m.li G2.m.lt G2.m.L r).1 = tv := ⟨_, rfl⟩
   rw [htv] at HTE
   have HTE := hide HTE
   have HR := hide (And.intro hr hrn)
   clear hr hrn htv hzB
   go_wp2_with fail
   with_reducible refine HTE.out.mono ?_
   rintro e w3 ⟨rfl, q3, rfl⟩
   have hb3 := below_drewN (Below.refl w2.heap.size w2) q3
   obtain ⟨w3, hw3⟩ : ∃ w3, w2.drewN q3 = w3 := ⟨_, rfl⟩
   rw [hw3] at hb3 ⊢
   have h3 := H2.out.1.below hb3
   have y9' : w3.cell? ⟨nb, 9, none⟩ = some (.pointer (some ⟨q.lb, 0, none⟩)) := h3.blk.cell 9
   have HFR := lg_from r 8 h3.log H2.out.2.1.L.few (by rw [H2.out.2.2.1.1]; have := HBb.out; omega) (by rw [H2.out.2.2.1.1]; have := HBb.out; omega) (by rw [H2.out.2.2.1.2.1]; have := HBb.out; omega) (by have := HR.out; have := HBb.out; omega) (i := z) (by rw [H2.out.2.2.1.1]; have := HR.out; omega)
   have HFR := hide HFR
   have H3 := hide (And.intro h3 hb3)
   clear y9 HTE hb3 h3 hw3
   go_wp2_with fail
   with_reducible refine HFR.out.mono ?_
   rintro e w4 hfo
   obtain ⟨A4, n4, c4, rfl, hn4, hents, hfr4, hb4⟩ := hfo.ents
   obtain ⟨⟨ys, hys1, hys2, hrd, hok⟩, hcap⟩ := hents
   have hn48 : n4 ≤ 8 := by rw [hn4, List.length_take]; exact Nat.min_le_left _ _
   have hcv : ConG (cons ys) := fun y hy => H2.out.2.1.L y (List.mem_of_mem_drop (List.mem_of_mem_take (show y ∈ (G2.m.L.drop r).take (8 : Int).toNat from hys2 ▸ hy)))
   have HY := hide (And.intro hys1 (And.intro hrd (And.intro hok hcv)))
   have H4 := hide hb4
   have hn482 : (n4 : Int) ≤ 8 := by omega
   clear hfo hn4 hfr4 hb4 hcv hys1 hys2 hrd hok hcap y9' HFR
   go_wp2
   go_loopw [10, 12, 83, 84, 85, 86, 87, 88, 89, 90, 91, 92] (fun ov _ iv _ _ _ _ _ _ _ _ _ wr => ∃ (k : Nat) (Lb : List (List Nat)) (A : Option Addr) (c : Nat), k ≤ n4 ∧ iv = .int .i64 k ∧ ov = .slice A Lb.length c ∧ Hid (Lb.length = k) ∧ Hid (OwnT w4 wr A c Lb ∧ Below w4.heap.size w4 wr)) (fun _ _ iv _ _ _ _ _ _ _ _ _ _ => n4 - (Go.RowKit.intOf iv).toNat)
   case atStart => exact ⟨0, [], none, 0, Nat.zero_le _, rfl, rfl, hide rfl, hide ⟨OwnT.nil _ _, Below.refl _ _⟩⟩
   case round =>
    obtain ⟨k2, Lb, A, c, hk2, rfl, rfl, hLb, hO⟩ := hrel
    by_cases hlt : k2 < n4
    ·have i1 : (k2 : Int) < n4 := by omega
     have hky : k2 < ys.length := by rw [HY.out.1]; exact hlt
     have hrr := HY.out.2.1.below hO.out.2
     obtain ⟨b, o, rfl, hbl, hc⟩ := hrr.at_ (by omega)
     obtain ⟨x, hx⟩ : ∃ x, ys[k2] = x := ⟨_, rfl⟩
     have hxm : x ∈ ys := by rw [← hx]; exact List.getElem_mem _
     have g0 := hc (k2 * 3 + 0) (.int .i64 x.t) (by rw [entCells_get ys k2 0 hky (by omega), hx]; rfl)
     have g1 := hc (k2 * 3 + 1) (.int .i64 x.k) (by rw [entCells_get ys k2 1 hky (by omega), hx]; rfl)
     have g2 := hc (k2 * 3 + 2) (.slice x.A x.b.length x.c) (by rw [entCells_get ys k2 2 hky (by omega), hx]; rfl)
     obtain ⟨et, ek, eb, hxe, he1, he2, he3, _⟩ := HY.out.2.2.2 x.con (by unfold cons; exact List.mem_map_of_mem hxm)
     have hxo := (HY.out.2.2.1 x hxm).below hO.out.2
     obtain ⟨xt, xk, xA, xc, xbb⟩ := x
     simp only [Ent.con, Prod.mk.injEq] at hxe
     obtain ⟨rfl, rfl, rfl⟩ := hxe
     simp only [bi_len] at g0 g1 g2
     have g1' : wr.cell? ⟨b, o + k2 * 3 + 1, none⟩ = some (.int .i64 ek) := by rw [Nat.add_assoc]; exact g1
     have g2' : wr.cell? ⟨b, o + k2 * 3 + 2, none⟩ = some (.slice xA eb.length xc) := by rw [Nat.add_assoc]; exact g2
     have g0' : wr.cell? ⟨b, o + k2 * 3, none⟩ = some (.int .i64 et) := g0
     obtain ⟨wA, hwA⟩ : ∃ wA, wr.alloc (.cells #[.int .i64 et, .int .i64 ek, .slice xA eb.length xc] 73) = wA := ⟨_, rfl⟩
     have hbA : Below wr.heap.size wr wA := hwA ▸ belowL (Below.refl _ _) _
     have HEB := hide (entb_calls (w := wA) et ek (hxo.rb.below hbA) (by omega) (by omega) (by omega))
     have HWA := hide hwA
     have HBA := hide (belowA hbA hO.out.2)
     have HOA := hide (hO.out.1.below hbA)
     clear hxo hx hxm hc hbl hrr hwA hbA g0 g1 g2 he1 he2 he3 hky
     go_wp2_with fail
     rw [HWA.out]
     with_reducible refine HEB.out.mono ?_
     rintro e w5 ⟨A5, c5, rfl, ho5, hb5⟩
     obtain ⟨tb, htb⟩ : ∃ tb, ebytes et ek eb = tb := ⟨_, rfl⟩
     rw [htb] at ho5 ⊢
     have H5 := hide (And.intro (HOA.out.below hb5) (And.intro (belowA hb5 HBA.out) (ho5.back HBA.out.size)))
     have HLl := hide (show Lb.length ≤ 100000 by rw [hLb.out]; omega)
     clear ho5 hb5 htb HEB g0' g1' g2' HOA HBA
     go_wp2_with (at_builtin; refine wpList_appendT rfl _ _ rfl H5.out.1 H5.out.2.1 H5.out.2.2 HLl.out rfl rfl ?_)
     intro A6 c6 w6 hO6 hb6 hst
     have H6 := hide (And.intro hO6 hb6)
     clear hO6 hb6 hst H5
     go_wp2
     go_roundw
     case rel => exact ⟨k2 + 1, Lb ++ [tb], A6, c6, by omega, by go_num, by first | rfl | simp, hide (by simp [hLb.out]), H6⟩
     case measure => simp [Go.RowKit.intOf]; omega
    ·have i1 : ¬ (k2 : Int) < n4 := by omega
     have hbr : Below w2.heap.size w2 wr := belowA hO.out.2 (belowA H4.out H3.out.2)
     have h5 := H2.out.1.below hbr
     have rA := Below.refl wr.heap.size wr
     have y3r := h5.blk.rule 3 _ rfl
     have y10r := h5.blk.rule 10 _ rfl
     have HSE := hide (fun (w' : World) (hb : Below wr.heap.size wr w') => gsend_calls (h5.below hb) (by have := H2.out.2.1.on; omega) k 3)
     have HBR := hide hbr
     clear h5 hbr
     go_upto_region 15 with fail
     refine lxR (fun w' => Below wr.heap.size wr w') [17] 0 [(2, 0), (2, 1), (2, 2), (2, 3), (2, 4), (2, 5), (0, 6), (2, 7), (2, 8), (2, 9), (2, 10), (2, 11), (2, 12), (0, 13), (2, 15), (1, 14), (2, 16), (3, 17)] #[true, true, true, true, true, true, true, true, true, true, true, true, true, true, true, true, true, true] (by kernel_rfl) (by kernel_rfl) (by decide) (by kernel_rfl) (by kernel_rfl) (fun _ _ _ _ _ h => h) (by (repeat (first | assumption | with_reducible refine Below.drew ?_ | with_reducible refine belowL ?_ _))) (fun hS0 => ?_)
     simp only [List.map_cons, List.map_nil, List.getElem?_toArray, List.getElem?_cons_succ, List.getElem?_cons_zero]
     (iterate 6 ((apply lxP (by rfl); (focus (intro w; go_simp; (try with_reducible rfl); done)); simp only [Act.put, zA34, zB34, zC34]))); (apply lxT (by rfl); (focus (intro w hw; (try dsimp only at hw); go_simp; (try with_reducible rfl); done)); simp only [Act.put, zA34, zB34, zC34]); (iterate 6 ((apply lxP (by rfl); (focus (intro w; go_simp; (try with_reducible rfl); done)); simp only [Act.put, zA34, zB34, zC34]))); (apply lxT (by rfl); (focus (intro w hw; (try dsimp only at hw); go_simp; (try with_reducible rfl); done)); simp only [Act.put, zA34, zB34, zC34]); (apply lxP (by rfl); (focus (intro w; go_simp; (try with_reducible rfl); done)); simp only [Act.put, zA34, zB34, zC34]); (refine lxE (by rfl) ?_; go_simp; refine lxB (by (repeat (first | assumption | with_reducible refine Below.drew ?_ | with_reducible refine belowL ?_ _))) (fun hS1 => ?_)); (apply lxP (by rfl); (focus (intro w; go_simp; (try with_reducible rfl); done)); simp only [Act.put, zA34, zB34, zC34]); (refine lxF (by rfl) ?_; go_simp; ((go_at_call 97; (with_reducible refine (HSE.out _ (by repeat (first | assumption | with_reducible refine Below.drew ?_ | with_reducible refine belowL ?_ _)) _ _ _ _ _ _ _ _ _).mono ?_); rintro e w7 ⟨rfl, hgo⟩)))
     refine lxN (fun _ => wqD (by kernel_rfl) ?_ _)
     have HF : Hid (GH 1 w w7 nb q G) := by
      obtain ⟨q', n', g1, g2, g3⟩ := hgo
      have gs := (H2.out.2.2.2.2.1.trans (GS.stay (belowA (by repeat (first | assumption | with_reducible refine Below.drew ?_ | with_reducible refine belowL ?_ _)) HBR.out))).trans g2
      have hG2 := H2.out.2.2.2.2.2
      subst hG2
      exact hide ⟨q', f, n', g1, H2.out.2.2.2.1, g3, gs⟩
     clear hgo
     go_wp2
     go_end0
     exact ⟨rfl, HF.out⟩
  ·have HTE := hide (lg_term_no H2.out.1.log (i := z - 1) (by rw [H2.out.2.2.1.1]; have := HBb.out; omega) (by rw [H2.out.2.2.1.1]; have := HBb.out; omega) (by rw [H2.out.2.2.1.1]; omega) (by omega))
   clear hzB
   go_wp2_with fail
   with_reducible refine HTE.out.mono ?_
   rintro e w3 ⟨rfl, q3, rfl⟩
   have hb3 := below_drewN (Below.refl w2.heap.size w2) q3
   obtain ⟨w3, hw3⟩ : ∃ w3, w2.drewN q3 = w3 := ⟨_, rfl⟩
   rw [hw3] at hb3 ⊢
   have h3 := H2.out.1.below hb3
   clear hw3
   have y3 := h3.blk.cell 3
   have y5 := h3.blk.cell 5
   have y6 := h3.blk.cell 6
   have y7 := h3.blk.cell 7
   have y8 := h3.blk.cell 8
   simp only [Gd.cells, List.getElem?_cons_succ, List.getElem?_cons_zero] at y3 y5 y6 y7 y8
   clear y9 HTE
   go_upto_region 8 with fail
   clear y3 y5 y6 y7 y8
   obtain ⟨wA, hwA⟩ : ∃ wA, w3.alloc (.cells #[.int .i64 G2.m.si, .int .i64 G2.m.st, .slice q.Am G2.m.sm.length q.cm, .slice q.Ab G2.m.sb.length q.cb] 93) = wA := ⟨_, rfl⟩
   have hbA : Below w3.heap.size w3 wA := hwA ▸ belowL (Below.refl _ _) _
   have bA : Blk wA w3.heap.size 93 [.int .i64 G2.m.si, .int .i64 G2.m.st, .slice q.Am G2.m.sm.length q.cm, .slice q.Ab G2.m.sb.length q.cb] := by rw [← hwA]; exact Blk.new rfl
   have hA := h3.below hbA
   have rA := Below.refl wA.heap.size wA
   have x0 := bA.rule 0 _ rfl
   have x1 := bA.rule 1 _ rfl
   have x2 := bA.rule 2 _ rfl
   have x3 := bA.rule 3 _ rfl
   have y3 := hA.blk.rule 3 _ rfl
   rw [hwA]
   have HQB := hide (fun (w' : World) (hb : Below wA.heap.size wA w') => qbytes_calls (hA.sm.sl.below hb) H2.out.2.1.sm.1 H2.out.2.1.sm.2)
   have HSE := hide (fun (w' : World) (hb : Below wA.heap.size wA w') => gsend_calls (hA.below hb) (by have := H2.out.2.1.on; omega) k 5)
   have HBA := hide (And.intro hb3 hbA)
   clear hwA hbA bA h3 hA hb3
   refine lxR (fun w' => Below wA.heap.size wA w') [19] 5 [(2, 0), (2, 1), (2, 2), (2, 3), (2, 4), (2, 5), (0, 6), (2, 7), (0, 8), (2, 9), (0, 10), (2, 12), (0, 13), (2, 14), (0, 15)] #[true, true, true, true, true, true, true, true, true, true, true, false, true, true, true, true, false, false, false, false] (by kernel_rfl) (by kernel_rfl) (by decide) (by kernel_rfl) (by kernel_rfl) (fun _ _ _ _ _ h => h) (by (repeat (first | assumption | with_reducible refine Below.drew ?_ | with_reducible refine belowL ?_ _))) (fun hS0 => ?_)
   simp only [List.map_cons, List.map_nil, List.getElem?_toArray, List.getElem?_cons_succ, List.getElem?_cons_zero]
   (iterate 6 ((apply lxP (by rfl); (focus (intro w; go_simp; (try with_reducible rfl); done)); simp only [Act.put, zA34, zB34, zC34]))); (apply lxT (by rfl); (focus (intro w hw; (try dsimp only at hw); go_simp; (try with_reducible rfl); done)); simp only [Act.put, zA34, zB34, zC34]); (apply lxP (by rfl); (focus (intro w; go_simp; (try with_reducible rfl); done)); simp only [Act.put, zA34, zB34, zC34]); (apply lxT (by rfl); (focus (intro w hw; (try dsimp only at hw); go_simp; (try with_reducible rfl); done)); simp only [Act.put, zA34, zB34, zC34]); (apply lxP (by rfl); (focus (intro w; go_simp; (try with_reducible rfl); done)); simp only [Act.put, zA34, zB34, zC34]); (apply lxT (by rfl); (focus (intro w hw; (try dsimp only at hw); go_simp; (try with_reducible rfl); done)); simp only [Act.put, zA34, zB34, zC34]); (apply lxP (by rfl); (focus (intro w; go_simp; (try with_reducible rfl); done)); simp only [Act.put, zA34, zB34, zC34]); (apply lxT (by rfl); (focus (intro w hw; (try dsimp only at hw); go_simp; (try with_reducible rfl); done)); simp only [Act.put, zA34, zB34, zC34]); (apply lxP (by rfl); (focus (intro w; go_simp; (try with_reducible rfl); done)); simp only [Act.put, zA34, zB34, zC34]); (apply lxT (by rfl); (focus (intro w hw; (try dsimp only at hw); go_simp; (try with_reducible rfl); done)); simp only [Act.put, zA34, zB34, zC34])
   refine lxN (fun hS2 => ?_)
   refine lexg_fork2 (i := 11) (j := 16) (by kernel_rfl) (by kernel_rfl : _ = #[true, true, true, true, true, true, true, true, true, true, true, true, true, true, true, true, false, false, false, false]) (by kernel_rfl : _ = #[true, true, true, true, true, true, true, true, true, true, true, false, true, true, true, true, true, false, false, false]) ?_ ?_
   focus
    apply lxA (by simp only [List.getElem?_toArray, List.getElem?_cons_succ, List.getElem?_cons_zero]; rfl) (by rfl)
    go_simp
    refine lxB (by (repeat (first | assumption | with_reducible refine Below.drew ?_ | with_reducible refine belowL ?_ _))) (fun hS1 => ?_)
    refine lxM 0 [(1, 16), (1, 17), (2, 18), (3, 19)] #[true, true, true, true, true, true, true, true, true, true, true, true, true, true, true, true, true, true, true, true] (by kernel_rfl) (by decide) (by kernel_rfl) (by kernel_rfl) (fun _ _ _ _ _ h => h) (fun _ => by assumption) ?_
    simp only [List.map_cons, List.map_nil, List.getElem?_toArray, List.getElem?_cons_succ, List.getElem?_cons_zero]
    (refine lxE (by rfl) ?_; go_simp; (first | (go_at_call 49; (with_reducible refine (HQB.out _ (by repeat (first | assumption | with_reducible refine Below.drew ?_ | with_reducible refine belowL ?_ _))).mono ?_); rintro e w4 ⟨A4, c4, rfl, _, hb4⟩; have hb4' : Below wA.heap.size wA w4 := belowA hb4 (by repeat (first | assumption | with_reducible refine Below.drew ?_ | with_reducible refine belowL ?_ _))) | (go_at_call 97; (with_reducible refine (HSE.out _ (by repeat (first | assumption | with_reducible refine Below.drew ?_ | with_reducible refine belowL ?_ _)) _ _ _ _ _ _ _ _ _).mono ?_); rintro e w5 ⟨rfl, hgo⟩)); refine lxB (by (repeat (first | assumption | with_reducible refine Below.drew ?_ | with_reducible refine belowL ?_ _))) (fun hS1 => ?_)); (refine lxE (by rfl) ?_; go_simp; refine lxB (by (repeat (first | assumption | with_reducible refine Below.drew ?_ | with_reducible refine belowL ?_ _))) (fun hS1 => ?_)); (apply lxP (by rfl); (focus (intro w; go_simp; (try with_reducible rfl); done)); simp only [Act.put, zA34, zB34, zC34]); (refine lxF (by rfl) ?_; go_simp; (first | (go_at_call 49; (with_reducible refine (HQB.out _ (by repeat (first | assumption | with_reducible refine Below.drew ?_ | with_reducible refine belowL ?_ _))).mono ?_); rintro e w4 ⟨A4, c4, rfl, _, hb4⟩; have hb4' : Below wA.heap.size wA w4 := belowA hb4 (by repeat (first | assumption | with_reducible refine Below.drew ?_ | with_reducible refine belowL ?_ _))) | (go_at_call 97; (with_reducible refine (HSE.out _ (by repeat (first | assumption | with_reducible refine Below.drew ?_ | with_reducible refine belowL ?_ _)) _ _ _ _ _ _ _ _ _).mono ?_); rintro e w5 ⟨rfl, hgo⟩)))
    refine lxN (fun _ => wqD (by kernel_rfl) ?_ _)
   rotate_left
   focus
    apply lxA (by simp only [List.getElem?_toArray, List.getElem?_cons_succ, List.getElem?_cons_zero]; rfl) (by rfl)
    go_simp
    (first | (go_at_call 49; (with_reducible refine (HQB.out _ (by repeat (first | assumption | with_reducible refine Below.drew ?_ | with_reducible refine belowL ?_ _))).mono ?_); rintro e w4 ⟨A4, c4, rfl, _, hb4⟩; have hb4' : Below wA.heap.size wA w4 := belowA hb4 (by repeat (first | assumption | with_reducible refine Below.drew ?_ | with_reducible refine belowL ?_ _))) | (go_at_call 97; (with_reducible refine (HSE.out _ (by repeat (first | assumption | with_reducible refine Below.drew ?_ | with_reducible refine belowL ?_ _)) _ _ _ _ _ _ _ _ _).mono ?_); rintro e w5 ⟨rfl, hgo⟩))
    refine lxB (by (repeat (first | assumption | with_reducible refine Below.drew ?_ | with_reducible refine belowL ?_ _))) (fun hS1 => ?_)
    refine lxM 4 [] #[true, true, true, true, true, true, true, true, true, true, true, false, true, true, true, true, true, false, false, false] (by kernel_rfl) (by decide) (by kernel_rfl) (by kernel_rfl) (fun _ _ _ _ _ h => h) (fun _ => by assumption) ?_
    simp only [List.map_nil]
    refine lxN (fun hS2 => ?_)
    refine lexg_fork2 (i := 11) (j := 17) (by kernel_rfl) (by kernel_rfl : _ = #[true, true, true, true, true, true, true, true, true, true, true, true, true, true, true, true, true, false, false, false]) (by kernel_rfl : _ = #[true, true, true, true, true, true, true, true, true, true, true, false, true, true, true, true, true, true, false, false]) ?_ ?_
    focus
     apply lxA (by simp only [List.getElem?_toArray, List.getElem?_cons_succ, List.getElem?_cons_zero]; rfl) (by rfl)
     go_simp
     refine lxB (by (repeat (first | assumption | with_reducible refine Below.drew ?_ | with_reducible refine belowL ?_ _))) (fun hS1 => ?_)
     refine lxM 0 [(1, 17), (2, 18), (3, 19)] #[true, true, true, true, true, true, true, true, true, true, true, true, true, true, true, true, true, true, true, true] (by kernel_rfl) (by decide) (by kernel_rfl) (by kernel_rfl) (fun _ _ _ _ _ h => h) (fun _ => by assumption) ?_
     simp only [List.map_cons, List.map_nil, List.getElem?_toArray, List.getElem?_cons_succ, List.getElem?_cons_zero]
     (refine lxE (by rfl) ?_; go_simp; refine lxB (by (repeat (first | assumption | with_reducible refine Below.drew ?_ | with_reducible refine belowL ?_ _))) (fun hS1 => ?_)); (apply lxP (by rfl); (focus (intro w; go_simp; (try with_reducible rfl); done)); simp only [Act.put, zA34, zB34, zC34]); (refine lxF (by rfl) ?_; go_simp; (first | (go_at_call 49; (with_reducible refine (HQB.out _ (by repeat (first | assumption | with_reducible refine Below.drew ?_ | with_reducible refine belowL ?_ _))).mono ?_); rintro e w4 ⟨A4, c4, rfl, _, hb4⟩; have hb4' : Below wA.heap.size wA w4 := belowA hb4 (by repeat (first | assumption | with_reducible refine Below.drew ?_ | with_reducible refine belowL ?_ _))) | (go_at_call 97; (with_reducible refine (HSE.out _ (by repeat (first | assumption | with_reducible refine Below.drew ?_ | with_reducible refine belowL ?_ _)) _ _ _ _ _ _ _ _ _).mono ?_); rintro e w5 ⟨rfl, hgo⟩)))
     refine lxN (fun _ => wqD (by kernel_rfl) ?_ _)
    rotate_left
    focus
     apply lxA (by simp only [List.getElem?_toArray, List.getElem?_cons_succ, List.getElem?_cons_zero]; rfl) (by rfl)
     go_simp
     refine lxB (by (repeat (first | assumption | with_reducible refine Below.drew ?_ | with_reducible refine belowL ?_ _))) (fun hS1 => ?_)
     refine lxM 0 [(1, 11), (2, 18), (3, 19)] #[true, true, true, true, true, true, true, true, true, true, true, true, true, true, true, true, true, true, true, true] (by kernel_rfl) (by decide) (by kernel_rfl) (by kernel_rfl) (fun _ _ _ _ _ h => h) (fun _ => by assumption) ?_
     simp only [List.map_cons, List.map_nil, List.getElem?_toArray, List.getElem?_cons_succ, List.getElem?_cons_zero]
     (refine lxE (by rfl) ?_; go_simp; refine lxB (by (repeat (first | assumption | with_reducible refine Below.drew ?_ | with_reducible refine belowL ?_ _))) (fun hS1 => ?_)); (apply lxP (by rfl); (focus (intro w; go_simp; (try with_reducible rfl); done)); simp only [Act.put, zA34, zB34, zC34]); (refine lxF (by rfl) ?_; go_simp; (first | (go_at_call 49; (with_reducible refine (HQB.out _ (by repeat (first | assumption | with_reducible refine Below.drew ?_ | with_reducible refine belowL ?_ _))).mono ?_); rintro e w4 ⟨A4, c4, rfl, _, hb4⟩; have hb4' : Below wA.heap.size wA w4 := belowA hb4 (by repeat (first | assumption | with_reducible refine Below.drew ?_ | with_reducible refine belowL ?_ _))) | (go_at_call 97; (with_reducible refine (HSE.out _ (by repeat (first | assumption | with_reducible refine Below.drew ?_ | with_reducible refine belowL ?_ _)) _ _ _ _ _ _ _ _ _).mono ?_); rintro e w5 ⟨rfl, hgo⟩)))
     refine lxN (fun _ => wqD (by kernel_rfl) ?_ _)
    rotate_left
   rotate_left 2
   all_goals
    have HF : Hid (GH 1 w w5 nb q G) := by
     obtain ⟨q', n', g1, g2, g3⟩ := hgo
     have gs := (H2.out.2.2.2.2.1.trans (GS.stay (belowA (belowA (by repeat (first | assumption | with_reducible refine Below.drew ?_ | with_reducible refine belowL ?_ _)) HBA.out.2) HBA.out.1))).trans g2
     have hG2 := H2.out.2.2.2.2.2
     subst hG2
     exact hide ⟨q', f, n', g1, H2.out.2.2.2.1, g3, gs⟩
    clear hgo
    go_wp2
    refine bodyPost_ret (results_none rfl _ _ _) rfl ?_
    exact ⟨rfl, HF.out⟩
end
end Go.Proofs.YteppdlkmjgladaaGreat

namespace Go.Proofs.YteppdlkmjgladaaGreat
open Go.RowKit Go.Proofs Go.Maps
set_option linter.unusedVariables false
set_option linter.unusedSimpArgs false

theorem idxP_few {l : List Int} {f : Int → Option Int} (hf : fewI f) : 0 ≤ idxP l f ∧ idxP l f ≤ 2199023255552 := by
 unfold idxP
 split
 ·rw [List.getD_eq_getElem?_getD]
  cases h : (sortL (l.map fun x => (f x).getD 0))[l.length - (l.length / 2 + 1)]? with
  |none => simp
  |some v =>
   have hm := List.mem_of_getElem? h
   have hm2 := (List.mergeSort_perm (l.map fun x => (f x).getD 0) _).mem_iff.1 hm
   obtain ⟨y, _, rfl⟩ := List.mem_map.1 hm2
   exact hf y
 ·omega
def GC (w w' : World) (nb : Nat) (q : Gl) (G : Gd) : Prop := ∃ c r, GP w' nb q { G with commit := c, role := r } ∧ G.commit ≤ c ∧ c ≤ 2199023255552 ∧ GS w w' nb q q
section
variable {w w' w1 w2 : World} {nb u j k : Nat} {q q1 : Gl} {G : Gd}
theorem lg_termG {p : Nat} {base term : Int} {L : List Con} {F : List Nat} (h : LG w p base term L F) (h0 : 0 ≤ base) (h1 : base ≤ 4611686018426339328) {i : Int} (hi : -1 ≤ i ∧ i ≤ 4611686018426339328) :
  Calls Tryz.prog 47 #[.pointer (some ⟨p, 0, none⟩), .int .i64 i] w fun e w' => ∃ t is, e = .returned (.tuple #[.int .i64 t, .bool is]) ∧ (is = true → base ≤ i ∧ i ≤ base + L.length) ∧ ∃ n, w' = w.drewN n := by
 obtain ⟨A, cap, es, hl, rfl, rfl⟩ := h
 refine (term_calls p A cap base term es i w hl h0 (by omega) (by omega) (by omega)).mono ?_
 rintro e w' ⟨rfl, hd⟩
 refine ⟨_, _, rfl, fun hs => ?_, hd⟩
 by_cases hb : i = base
 ·subst hb; exact ⟨Int.le_refl _, by omega⟩
 ·cases hh : hasL base es.length i with
  |true => have := hasL_iff.1 hh; rw [cons_length]; omega
  |false => rw [termL_out hb hh] at hs; cases hs
set_option maxHeartbeats 4000000 in
set_option maxRecDepth 100000 in
theorem gspread_calls (h : GP w nb q G) (hi : MI u G.m) (hu : u ≤ 9000) (hbt : 0 ≤ G.bt ∧ G.bt ≤ 1099511627776 + u) :
  Calls Tryz.prog 45 #[.pointer (some ⟨nb, 0, none⟩)] w fun e w' => e = .returned (.tuple #[]) ∧ GH 7 w w' nb q G := by
 have HM := hide (gmem_calls h hi (by omega))
 have H := hide (And.intro h (And.intro hi hbt))
 clear h hi hbt
 go_enter Tryz.func45, Tryz.ntmps45
 go_wp2_with fail
 with_reducible refine HM.out.mono ?_
 rintro e w1 ⟨A, c, l, _, rfl, hit, hml, _, _, hb1⟩
 obtain ⟨n, hn⟩ : ∃ n, l.length = n := ⟨_, rfl⟩
 rw [hn]
 have HL := hide (And.intro hit (And.intro hml hn))
 have hn7 : n ≤ 7 := by rw [← hn]; exact hml.1
 have H1 := hide (And.intro (H.out.1.below hb1) hb1)
 clear hit hml hn hb1 HM
 go_wp2
 go_loopw [5, 13, 14, 15, 16, 17, 18, 19, 20] (fun _ iv _ _ _ _ _ _ _ wr => ∃ (k : Nat), k ≤ n ∧ iv = .int .i64 k ∧ Hid (GH k w1 wr nb q G)) (fun _ iv _ _ _ _ _ _ _ _ => n - (Go.RowKit.intOf iv).toNat)
 case atStart => exact ⟨0, Nat.zero_le _, rfl, hide ⟨q, G.m.next, G.m.on, H1.out.1, H.out.2.1.next, Nat.le_refl _, GS.stay (Below.refl _ _)⟩⟩
 case round =>
  obtain ⟨k, hk, rfl, hO⟩ := hrel
  by_cases hlt : k < n
  ·have i1 : (k : Int) < n := by omega
   obtain ⟨q2, f2, n2, hg2, hf2, hn2, hs2⟩ := hO.out
   have hit := HL.out.1.chg hs2.c H1.out.1.hard
   have hkl : k < l.length := by rw [HL.out.2.2]; exact hlt
   obtain ⟨b, o, rfl, hc⟩ := hit.sl.get hkl
   have hc' := hc k hkl
   have hx := HL.out.2.1.2 (l.getD k 0) (by rw [List.getD_eq_getElem?_getD, List.getElem?_eq_getElem hkl]; exact List.getElem_mem _)
   obtain ⟨x, hxe⟩ : ∃ x, l.getD k 0 = x := ⟨_, rfl⟩
   rw [hxe] at hc' hx
   have HH := hide (ghand_calls hg2 (H.out.2.1.nxt hf2 (by omega)) (by omega) x hx ⟨H.out.2.2.1, by have := H.out.2.2.2; show G.bt ≤ _; omega⟩)
   have HS := hide (And.intro hs2 hn2)
   clear hg2 hf2 hn2 hs2 hit hc hx hxe hO hkl
   go_wp2_with fail
   with_reducible refine HH.out.mono ?_
   rintro e w3 ⟨rfl, q3, f3, n3, hg3, hf3, hn3, hs3⟩
   have H3 : Hid (GH (k + 1) w1 w3 nb q G) := hide ⟨q3, f3, n3, hg3, hf3, by have := HS.out.2; have : n3 ≤ n2 + 1 := hn3; omega, HS.out.1.trans hs3⟩
   clear hg3 hf3 hn3 hs3 HH hc'
   go_wp2
   go_roundw
   case rel => exact ⟨k + 1, by omega, by go_num, H3⟩
   case measure => simp [Go.RowKit.intOf]; omega
  ·have i1 : ¬ (k : Int) < n := by omega
   clear hlt
   go_wp2
   go_end0
   obtain ⟨q2, f2, n2, hg2, hf2, hn2, hs2⟩ := hO.out
   exact ⟨rfl, q2, f2, n2, hg2, hf2, by have := HL.out.2.1.1; have := HL.out.2.2; omega, (GS.stay H1.out.2).trans hs2⟩
set_option maxHeartbeats 4000000 in
set_option maxRecDepth 100000 in
theorem gsettle_calls (h : GP w nb q G) (hi : MI u G.m) (hu : u ≤ 9000) (hc : 0 ≤ G.commit ∧ G.commit ≤ 2199023255552) :
  Calls Tryz.prog 46 #[.pointer (some ⟨nb, 0, none⟩)] w fun e w' => e = .returned (.tuple #[]) ∧ GC w w' nb q G := by
 have HM := hide (gmem_calls h hi (by omega))
 have H := hide (And.intro h (And.intro hi hc))
 have HST : Hid (∀ w', Below w.heap.size w w' → GC w w' nb q G) := hide (fun w' hb => ⟨G.commit, G.role, h.below hb, Int.le_refl _, hc.2, GS.stay hb⟩)
 clear h hi hc
 go_enter Tryz.func46, Tryz.ntmps46
 go_wp2_with fail
 with_reducible refine HM.out.mono ?_
 rintro e w1 ⟨A, c, l, _, rfl, hit, hml, _, _, hb1⟩
 have h1 := H.out.1.below hb1
 have y13 : w1.cell? ⟨nb, 13, none⟩ = some (.int .i64 G.role) := h1.blk.cell 13
 have y2 : w1.cell? ⟨nb, 2, none⟩ = some (.bool G.dead) := h1.blk.cell 2
 have y19 : w1.cell? ⟨nb, 19, none⟩ = some (.map (some q.mx)) := h1.blk.cell 19
 have HQI := hide (qindex_calls (no := []) hit.sl h1.mx)
 have hxf := idxP_few (l := l) H.out.2.1.mat
 obtain ⟨x, hx⟩ : ∃ x, idxP l G.m.mat = x := ⟨_, rfl⟩
 rw [hx] at HQI hxf
 have HX := hide hxf
 have H1 := hide (And.intro h1 hb1)
 clear h1 hb1 hit hml hx hxf HM
 by_cases hr : G.role = 2
 ·have u1 : (G.role != 2) = false := by simp [hr]
  cases hd : G.dead with
  |true =>
   rw [hd] at y2
   clear hr hd
   go_wp2
   refine bodyPost_ret (results_none rfl _ _ _) rfl ?_
   exact ⟨rfl, HST.out _ H1.out.2⟩
  |false =>
   rw [hd] at y2
   clear hr hd
   go_wp2_with fail
   with_reducible refine HQI.out.mono ?_
   rintro e w2 ⟨rfl, hb2⟩
   have h2 := H1.out.1.below hb2
   have HTE := hide (lg_termG h2.log (i := x) (by rw [H.out.2.1.li]; exact H.out.2.1.si.1) (by rw [H.out.2.1.li]; have := H.out.2.1.si.2; omega) (by have := HX.out; omega))
   have y9 : w2.cell? ⟨nb, 9, none⟩ = some (.pointer (some ⟨q.lb, 0, none⟩)) := h2.blk.cell 9
   have H2 := hide (And.intro h2 (belowA hb2 H1.out.2))
   clear y13 y2 y19 h2 hb2 HQI
   go_wp2_with fail
   with_reducible refine HTE.out.mono ?_
   rintro e w3 ⟨t, is, rfl, _, q3, rfl⟩
   have hb3 := below_drewN (Below.refl w2.heap.size w2) q3
   obtain ⟨w3, hw3⟩ : ∃ w3, w2.drewN q3 = w3 := ⟨_, rfl⟩
   rw [hw3] at hb3 ⊢
   have h3 := H2.out.1.below hb3
   have y3 : w3.cell? ⟨nb, 3, none⟩ = some (.int .i64 G.bt) := h3.blk.cell 3
   have y10 : w3.cell? ⟨nb, 10, none⟩ = some (.int .i64 G.commit) := h3.blk.cell 10
   have H3 := hide (And.intro h3 (belowA hb3 H2.out.2))
   clear h3 hb3 hw3 y9 HTE
   cases is with
   |false =>
    go_wp2
    go_end0
    exact ⟨rfl, HST.out _ H3.out.2⟩
   |true =>
    by_cases ht : t = G.bt
    ·have u2 : (t == G.bt) = true := by simp [ht]
     clear ht
     by_cases hgt : G.commit < x
     ·have u3 : decide (G.commit < x) = true := decide_eq_true hgt
      have HGT := hide hgt
      have b3 := H3.out.1.blk
      have f10 := b3.frozen 10
      obtain ⟨w4, hw4⟩ : ∃ w4, w3.setCell ⟨nb, 10, none⟩ (.int .i64 x) = w4 := ⟨_, rfl⟩
      have c4 : Chg [nb] w3 w4 := by rw [← hw4]; exact (Chg.refl [nb] w3).setCell (p := ⟨nb, 10, none⟩) (Or.inl (by simp)) _
      have b4 := b3.set 10 (.int .i64 x)
      rw [hw4] at b4
      have h4 := H3.out.1.own (G' := { G with commit := x }) c4 b4 rfl
      have HM4 := hide (gmem_calls h4 H.out.2.1 (by omega))
      have H4 := hide (And.intro h4 ((GS.stay (nb := nb) (q := q) H3.out.2).trans (GS.own c4)))
      have HW4 := hide hw4
      clear hgt b3 c4 b4 h4 hw4
      go_wp2_with fail
      rw [HW4.out]
      with_reducible refine HM4.out.mono ?_
      rintro e w5 ⟨A5, c5, l5, at5, rfl, hit5, hml5, _, _, hb5⟩
      have h5 := H4.out.1.below hb5
      have y10 : w5.cell? ⟨nb, 10, none⟩ = some (.int .i64 x) := h5.blk.cell 10
      have y0 : w5.cell? ⟨nb, 0, none⟩ = some (.int .i64 G.id) := h5.blk.cell 0
      have HCO := hide (contains_calls A5 l5.length c5 l5 G.id w5 rfl (by have := hml5.1; omega) hit5.sl.rd)
      have H5 := hide (And.intro h5 (H4.out.2.trans (GS.stay hb5)))
      clear hit5 hml5 hb5 h5 HM4 y3 f10
      by_cases ha : at5 ≤ x
      ·have u4 : decide (at5 ≤ x) = true := decide_eq_true ha
       clear ha
       go_wp2_with fail
       with_reducible refine HCO.out.mono ?_
       rintro e w6 ⟨rfl, q6, rfl⟩
       have hb6 := below_drewN (Below.refl w5.heap.size w5) q6
       obtain ⟨w6, hw6⟩ : ∃ w6, w5.drewN q6 = w6 := ⟨_, rfl⟩
       rw [hw6] at hb6 ⊢
       have h6 := H5.out.1.below hb6
       have f13 := h6.blk.frozen 13
       have t13 := h6.blk.cell 13
       simp only [Gd.cells, List.getElem?_cons_succ, List.getElem?_cons_zero] at t13
       have H6 := hide (And.intro h6 (H5.out.2.trans (GS.stay hb6)))
       clear h6 hb6 hw6 y10 y0
       cases hco : l5.contains G.id with
       |true =>
        clear hco
        go_wp2
        go_end0
        exact ⟨rfl, x, G.role, H6.out.1, by have := HGT.out; omega, HX.out.2, H6.out.2⟩
       |false =>
        clear hco
        obtain ⟨w7, hw7⟩ : ∃ w7, w6.setCell ⟨nb, 13, none⟩ (.int .i64 0) = w7 := ⟨_, rfl⟩
        have c7 : Chg [nb] w6 w7 := by rw [← hw7]; exact (Chg.refl [nb] w6).setCell (p := ⟨nb, 13, none⟩) (Or.inl (by simp)) _
        have b7 := H6.out.1.blk.set 13 (.int .i64 0)
        rw [hw7] at b7
        have h7 := H6.out.1.own (G' := { G with commit := x, role := 0 }) c7 b7 rfl
        have H7 := hide (And.intro h7 (H6.out.2.trans (GS.own c7)))
        have HW7 := hide hw7
        clear c7 b7 h7 hw7
        go_wp2
        rw [HW7.out]
        go_end0
        exact ⟨rfl, x, 0, H7.out.1, by have := HGT.out; omega, HX.out.2, H7.out.2⟩
      ·have u4 : decide (at5 ≤ x) = false := decide_eq_false ha
       clear ha
       go_wp2
       go_end0
       exact ⟨rfl, x, G.role, H5.out.1, by have := HGT.out; omega, HX.out.2, H5.out.2⟩
     ·have u3 : decide (G.commit < x) = false := decide_eq_false hgt
      clear hgt
      go_wp2
      go_end0
      exact ⟨rfl, HST.out _ H3.out.2⟩
    ·have u2 : (t == G.bt) = false := by simpa using ht
     clear ht
     go_wp2
     go_end0
     exact ⟨rfl, HST.out _ H3.out.2⟩
 ·have u1 : (G.role != 2) = true := by simpa using hr
  clear hr y2
  go_wp2
  refine bodyPost_ret (results_none rfl _ _ _) rfl ?_
  exact ⟨rfl, HST.out _ H1.out.2⟩
end
end Go.Proofs.YteppdlkmjgladaaGreat

namespace Go.Proofs.YteppdlkmjgladaaGreat
open Go.RowKit Go.Proofs Go.Maps
set_option linter.unusedVariables false
set_option linter.unusedSimpArgs false

section
variable {w w' w1 w2 : World} {nb u j k : Nat} {q q1 : Gl} {G : Gd}
set_option maxHeartbeats 2000000 in
set_option maxRecDepth 100000 in
theorem ganswer_calls (h : GP w nb q G) (hon : G.m.on ≤ 2000000) (tn : Int) (ok : Bool) (i : Int) :
  Calls Tryz.prog 99 #[.pointer (some ⟨nb, 0, none⟩), .int .i64 tn, .bool ok, .int .i64 i] w fun e w' => e = .returned (.tuple #[]) ∧ GO 1 w w' nb q G := by
 obtain ⟨v, hv⟩ : ∃ v : Int, (if ok then 1 else 0) = v := ⟨_, rfl⟩
 have y3 : w.cell? ⟨nb, 3, none⟩ = some (.int .i64 G.bt) := h.blk.cell 3
 obtain ⟨wA, hwA⟩ : ∃ wA, w.alloc (.cells #[.int .i64 G.bt, .int .i64 v, .int .i64 i] 3) = wA := ⟨_, rfl⟩
 have hbA : Below w.heap.size w wA := hwA ▸ belowL (Below.refl _ _) _
 have HSE := hide (gsend_calls (h.below hbA) hon tn 4)
 have HB := hide hbA
 have HWA := hide hwA
 clear h hbA hwA
 cases ok with
 |true =>
  rw [if_pos rfl] at hv
  subst hv
  go_enter Tryz.func99, Tryz.ntmps99
  go_wp2_with fail
  rw [HWA.out]
  with_reducible refine (HSE.out _ _ _ _ _ _ _ _ _).mono ?_
  rintro e w2 ⟨rfl, hg⟩
  have HG := hide (GO.first HB.out hg)
  clear hg
  go_wp2
  go_end0
  exact ⟨rfl, HG.out⟩
 |false =>
  rw [if_neg (by simp)] at hv
  subst hv
  go_enter Tryz.func99, Tryz.ntmps99
  go_wp2_with fail
  rw [HWA.out]
  with_reducible refine (HSE.out _ _ _ _ _ _ _ _ _).mono ?_
  rintro e w2 ⟨rfl, hg⟩
  have HG := hide (GO.first HB.out hg)
  clear hg
  go_wp2
  go_end0
  exact ⟨rfl, HG.out⟩
set_option maxHeartbeats 2000000 in
theorem gheard_calls (h : GP w nb q G) (x : Int) :
  Calls Tryz.prog 100 #[.pointer (some ⟨nb, 0, none⟩), .int .i64 x] w fun e w' => e = .returned (.tuple #[]) ∧ GP w' nb q { G with quiet := 0, leader := x, role := 0 } ∧ GS w w' nb q q := by
 have f13 := h.blk.frozen 13
 have f14 := h.blk.frozen 14
 have f15 := h.blk.frozen 15
 have t13 := h.blk.cell 13
 have t14 := h.blk.cell 14
 have t15 := h.blk.cell 15
 simp only [Gd.cells, List.getElem?_cons_succ, List.getElem?_cons_zero] at t13 t14 t15
 obtain ⟨w7, hw7⟩ : ∃ w7, ((w.setCell ⟨nb, 15, none⟩ (.int .i64 0)).setCell ⟨nb, 14, none⟩ (.int .i64 x)).setCell ⟨nb, 13, none⟩ (.int .i64 0) = w7 := ⟨_, rfl⟩
 have c7 : Chg [nb] w w7 := by rw [← hw7]; exact (((Chg.refl [nb] w).setCell (p := ⟨nb, 15, none⟩) (Or.inl (by simp)) _).setCell (p := ⟨nb, 14, none⟩) (Or.inl (by simp)) _).setCell (p := ⟨nb, 13, none⟩) (Or.inl (by simp)) _
 have b7 := ((h.blk.set 15 (.int .i64 0)).set 14 (.int .i64 x)).set 13 (.int .i64 0)
 rw [hw7] at b7
 have h7 := h.own (G' := { G with quiet := 0, leader := x, role := 0 }) c7 b7 rfl
 have H7 := hide (And.intro h7 (GS.own (q := q) c7))
 have HW7 := hide hw7
 clear c7 b7 h7 hw7 h
 go_enter Tryz.func100, Tryz.ntmps100
 go_wp2
 (try rw [HW7.out])
 go_end0
 exact ⟨rfl, H7.out⟩
set_option maxHeartbeats 4000000 in
set_option maxRecDepth 100000 in
theorem gkeep_calls (h : GP w nb q G) {g : Nat} (hV : VltOk G.m.V g) (hg : g < 2 ^ 60) (t v : Int) (ht : 0 ≤ t ∧ t < 2 ^ 59) (hv : -1 ≤ v ∧ v < 2 ^ 59) :
  Calls Tryz.prog 58 #[.pointer (some ⟨nb, 0, none⟩), .agg #[.int .i64 t, .int .i64 v]] w fun e w' => ∃ q' r ld V' d, e = .returned (.bool (!d)) ∧ GP w' nb q' (Gd.vlt { G with bt := t, bv := v, role := r, leader := ld } V' d) ∧ VltOk V' (g + 1) ∧ GS w w' nb q q' ∧ (G.dead = true → d = true) := by
 obtain ⟨w0, hw0⟩ : ∃ w0, w.alloc (.cells #[.int .i64 t, .int .i64 v] 90) = w0 := ⟨_, rfl⟩
 obtain ⟨xb, hxb⟩ : ∃ xb, w.heap.size = xb := ⟨_, rfl⟩
 have hb0 : Below w.heap.size w w0 := hw0 ▸ belowL (Below.refl _ _) _
 have bX : Blk w0 xb 90 [.int .i64 t, .int .i64 v] := by rw [← hw0, ← hxb]; exact Blk.new rfl
 have h0 := h.below hb0
 have r0 := Below.refl w0.heap.size w0
 have x0 := bX.rule 0 _ rfl
 have x1 := bX.rule 1 _ rfl
 have y3 := h0.blk.rule 3 _ rfl
 have y4 := h0.blk.rule 4 _ rfl
 have HW := hide (And.intro hw0 hxb)
 have heq := run_eqBal t v G.bt G.bv
 by_cases he : t = G.bt ∧ v = G.bv
 ·have hbq : (t == G.bt && v == G.bv) = true := by simp [he]
  rw [hbq] at heq
  have y2 := h0.blk.rule 2 _ rfl
  have hge : Gd.vlt { G with bt := t, bv := v, role := G.role, leader := G.leader } G.m.V G.dead = G := by rw [he.1, he.2]; rfl
  have HF := hide (And.intro (fun w' (hb : Below w.heap.size w w') => hge ▸ h.below hb) (And.intro (hV.up (Nat.le_succ _)) hb0))
  clear h h0 hV bX hb0 hw0 hxb he hbq hge
  go_enter Tryz.func58, Tryz.ntmps58
  go_upto_region 1 with fail
  (try rw [HW.out.1])
  (try rw [HW.out.2])
  refine lxR (fun w' => Below w0.heap.size w0 w') [] 0 [(0, 0), (2, 1), (2, 2), (2, 3), (0, 4), (2, 5)] #[true, true, true, true, true, true] (by kernel_rfl) (by kernel_rfl) (by decide) (by kernel_rfl) (by kernel_rfl) (fun _ _ _ _ _ h => h) (by (exact r0.drew)) (fun hS0 => ?_)
  simp only [List.map_cons, List.map_nil, List.getElem?_toArray, List.getElem?_cons_succ, List.getElem?_cons_zero]
  (apply lxT (by rfl); (focus (intro w hw; (try dsimp only at hw); go_simp; (try with_reducible rfl); done)); simp only [Act.put, zA34, zB34, zC34]); (iterate 3 ((apply lxP (by rfl); (focus (intro w; go_simp; (try with_reducible rfl); done)); simp only [Act.put, zA34, zB34, zC34]))); (apply lxT (by rfl); (focus (intro w hw; (try dsimp only at hw); go_simp; (try with_reducible rfl); done)); simp only [Act.put, zA34, zB34, zC34]); (apply lxP (by rfl); (focus (intro w; go_simp; (try with_reducible rfl); done)); simp only [Act.put, zA34, zB34, zC34])
  refine lxN (fun _ => wqD (by kernel_rfl) ?_ _)
  have y2' := y2 _ r0.drew
  have HB := hide (belowA r0.drew HF.out.2.2)
  clear y2 y3 y4 x0 x1
  go_wp2
  go_ret
  exact ⟨q, G.role, G.leader, G.m.V, G.dead, rfl, HF.out.1 _ HB.out, HF.out.2.1, GS.stay HB.out, fun h => h⟩
 ·have hbq : (t == G.bt && v == G.bv) = false := by
   rw [Bool.and_eq_false_iff]
   simp only [beq_eq_false_iff_ne]
   by_cases h1 : t = G.bt
   ·exact Or.inr (fun h2 => he ⟨h1, h2⟩)
   ·exact Or.inl h1
  rw [hbq] at heq
  have H := hide (And.intro h0 (And.intro hV (And.intro hg (And.intro ht hv))))
  have HB0 := hide (And.intro hb0 bX)
  clear h h0 hV bX hb0 hw0 hxb he hbq ht hv hg
  by_cases htb : G.bt < t
  ·have u1 : decide (G.bt < t) = true := decide_eq_true htb
   go_enter Tryz.func58, Tryz.ntmps58
   go_upto_region 1 with fail
   (try rw [HW.out.1])
   (try rw [HW.out.2])
   refine lxR (fun w' => Below w0.heap.size w0 w') [] 0 [(0, 0), (2, 1), (2, 2), (2, 3), (0, 4), (2, 5)] #[true, true, true, true, true, true] (by kernel_rfl) (by kernel_rfl) (by decide) (by kernel_rfl) (by kernel_rfl) (fun _ _ _ _ _ h => h) (by (exact r0.drew)) (fun hS0 => ?_)
   simp only [List.map_cons, List.map_nil, List.getElem?_toArray, List.getElem?_cons_succ, List.getElem?_cons_zero]
   (apply lxT (by rfl); (focus (intro w hw; (try dsimp only at hw); go_simp; (try with_reducible rfl); done)); simp only [Act.put, zA34, zB34, zC34]); (iterate 3 ((apply lxP (by rfl); (focus (intro w; go_simp; (try with_reducible rfl); done)); simp only [Act.put, zA34, zB34, zC34]))); (apply lxT (by rfl); (focus (intro w hw; (try dsimp only at hw); go_simp; (try with_reducible rfl); done)); simp only [Act.put, zA34, zB34, zC34]); (apply lxP (by rfl); (focus (intro w; go_simp; (try with_reducible rfl); done)); simp only [Act.put, zA34, zB34, zC34])
   refine lxN (fun _ => wqD (by kernel_rfl) ?_ _)
   have r2 : Below w0.heap.size w0 w0.drew.drew := r0.drew.drew
   clear heq
   go_upto_region 3 with fail
   refine lxR (fun w' => Below w0.heap.size w0 w') [] 0 [(2, 0), (0, 1), (2, 2), (2, 3), (2, 4), (2, 5), (0, 6), (2, 7)] #[true, true, true, true, true, true, true, true] (by kernel_rfl) (by kernel_rfl) (by decide) (by kernel_rfl) (by kernel_rfl) (fun _ _ _ _ _ h => h) (by (exact r2)) (fun hS0 => ?_)
   simp only [List.map_cons, List.map_nil, List.getElem?_toArray, List.getElem?_cons_succ, List.getElem?_cons_zero]
   (apply lxP (by rfl); (focus (intro w; go_simp; (try with_reducible rfl); done)); simp only [Act.put, zA34, zB34, zC34]); (apply lxT (by rfl); (focus (intro w hw; (try dsimp only at hw); go_simp; (try with_reducible rfl); done)); simp only [Act.put, zA34, zB34, zC34]); (iterate 4 ((apply lxP (by rfl); (focus (intro w; go_simp; (try with_reducible rfl); done)); simp only [Act.put, zA34, zB34, zC34]))); (apply lxT (by rfl); (focus (intro w hw; (try dsimp only at hw); go_simp; (try with_reducible rfl); done)); simp only [Act.put, zA34, zB34, zC34]); (apply lxP (by rfl); (focus (intro w; go_simp; (try with_reducible rfl); done)); simp only [Act.put, zA34, zB34, zC34])
   refine lxN (fun _ => wqD (by kernel_rfl) ?_ _)
   have x0' := x0 _ r2
   have x1' := x1 _ r2
   have hn2 := H.out.1.below r2
   obtain ⟨w2, hw2⟩ : ∃ w2, w0.drew.drew = w2 := ⟨_, rfl⟩
   rw [hw2] at x0' x1' hn2 r2
   rw [hw2]
   clear y3 y4 x0 x1 hS0 hw2
   have q3 := hn2.blk.cell 3
   have q4 := hn2.blk.cell 4
   have q13 := hn2.blk.cell 13
   have q14 := hn2.blk.cell 14
   have f3 := hn2.blk.frozen 3
   have f4 := hn2.blk.frozen 4
   have f13 := hn2.blk.frozen 13
   have f14 := hn2.blk.frozen 14
   simp only [Gd.cells, List.getElem?_cons_succ, List.getElem?_cons_zero] at q3 q4 q13 q14
   have hne : xb ≠ nb := fun e => by
    have h1 := HB0.out.2
    rw [e] at h1
    exact absurd (h1.one H.out.1.blk).2 (by decide)
   have hne' : nb ≠ xb := fun e => hne e.symm
   have b3 := (((hn2.blk.set 13 (.int .i64 0)).set 14 (.int .i64 (-1))).set 3 (.int .i64 t)).set 4 (.int .i64 v)
   obtain ⟨w3, hw3⟩ : ∃ w3, (((w2.setCell ⟨nb, 13, none⟩ (.int .i64 0)).setCell ⟨nb, 14, none⟩ (.int .i64 (-1))).setCell ⟨nb, 3, none⟩ (.int .i64 t)).setCell ⟨nb, 4, none⟩ (.int .i64 v) = w3 := ⟨_, rfl⟩
   have c3 : Chg [nb] w2 w3 := by rw [← hw3]; exact ((((Chg.refl [nb] w2).setCell (p := ⟨nb, 13, none⟩) (Or.inl (by simp)) _).setCell (p := ⟨nb, 14, none⟩) (Or.inl (by simp)) _).setCell (p := ⟨nb, 3, none⟩) (Or.inl (by simp)) _).setCell (p := ⟨nb, 4, none⟩) (Or.inl (by simp)) _
   rw [hw3] at b3
   have h3 := hn2.own (G' := { G with bt := t, bv := v, role := 0, leader := -1 }) c3 b3 rfl
   have hbo := bbytes_ok (t := t) (v := v) (by have := H.out; omega) (by have := H.out; omega)
   have HBB := hide (ballb_calls (w := w3) t v ⟨by have := H.out; omega, by have := H.out; omega⟩ ⟨by have := H.out; omega, by have := H.out; omega⟩)
   have gs3 : GS w w3 nb q q := (GS.stay (belowA r2 HB0.out.1)).trans (GS.own c3)
   have H3 := hide (And.intro h3 (And.intro gs3 hbo))
   have HW3 := hide hw3
   clear b3 c3 h3 hn2 hw3 hbo gs3
   go_wp2_with fail
   (try rw [HW3.out])
   with_reducible refine HBB.out.mono ?_
   rintro e w4 ⟨A4, c4, rfl, ho4, hb4⟩
   have HPU := hide (gput_calls (H3.out.1.below hb4) H.out.2.1 H.out.2.2.1 0 ho4.bt H3.out.2.2.2 (by have := H3.out.2.2.1; omega))
   have HC4 := hide (H3.out.2.1.trans (GS.stay hb4))
   clear ho4 hb4 HBB
   go_wp2_with fail
   with_reducible refine HPU.out.mono ?_
   rintro e w5 ⟨q5, V5, d5, rfl, h5, hok5, hs5, hd5⟩
   have H5 := hide (And.intro h5 (And.intro hok5 (And.intro (HC4.out.trans hs5) hd5)))
   clear h5 hok5 hs5 hd5 HPU
   go_wp2
   go_ret
   exact ⟨q5, 0, -1, V5, d5, rfl, H5.out⟩
  ·have u1 : decide (G.bt < t) = false := decide_eq_false htb
   go_enter Tryz.func58, Tryz.ntmps58
   go_upto_region 1 with fail
   (try rw [HW.out.1])
   (try rw [HW.out.2])
   refine lxR (fun w' => Below w0.heap.size w0 w') [] 0 [(0, 0), (2, 1), (2, 2), (2, 3), (0, 4), (2, 5)] #[true, true, true, true, true, true] (by kernel_rfl) (by kernel_rfl) (by decide) (by kernel_rfl) (by kernel_rfl) (fun _ _ _ _ _ h => h) (by (exact r0.drew)) (fun hS0 => ?_)
   simp only [List.map_cons, List.map_nil, List.getElem?_toArray, List.getElem?_cons_succ, List.getElem?_cons_zero]
   (apply lxT (by rfl); (focus (intro w hw; (try dsimp only at hw); go_simp; (try with_reducible rfl); done)); simp only [Act.put, zA34, zB34, zC34]); (iterate 3 ((apply lxP (by rfl); (focus (intro w; go_simp; (try with_reducible rfl); done)); simp only [Act.put, zA34, zB34, zC34]))); (apply lxT (by rfl); (focus (intro w hw; (try dsimp only at hw); go_simp; (try with_reducible rfl); done)); simp only [Act.put, zA34, zB34, zC34]); (apply lxP (by rfl); (focus (intro w; go_simp; (try with_reducible rfl); done)); simp only [Act.put, zA34, zB34, zC34])
   refine lxN (fun _ => wqD (by kernel_rfl) ?_ _)
   have r2 : Below w0.heap.size w0 w0.drew.drew := r0.drew.drew
   clear heq
   go_upto_region 3 with fail
   refine lxR (fun w' => Below w0.heap.size w0 w') [] 0 [(2, 0), (0, 1), (2, 2), (2, 3), (2, 4), (2, 5), (0, 6), (2, 7)] #[true, true, true, true, true, true, true, true] (by kernel_rfl) (by kernel_rfl) (by decide) (by kernel_rfl) (by kernel_rfl) (fun _ _ _ _ _ h => h) (by (exact r2)) (fun hS0 => ?_)
   simp only [List.map_cons, List.map_nil, List.getElem?_toArray, List.getElem?_cons_succ, List.getElem?_cons_zero]
   (apply lxP (by rfl); (focus (intro w; go_simp; (try with_reducible rfl); done)); simp only [Act.put, zA34, zB34, zC34]); (apply lxT (by rfl); (focus (intro w hw; (try dsimp only at hw); go_simp; (try with_reducible rfl); done)); simp only [Act.put, zA34, zB34, zC34]); (iterate 4 ((apply lxP (by rfl); (focus (intro w; go_simp; (try with_reducible rfl); done)); simp only [Act.put, zA34, zB34, zC34]))); (apply lxT (by rfl); (focus (intro w hw; (try dsimp only at hw); go_simp; (try with_reducible rfl); done)); simp only [Act.put, zA34, zB34, zC34]); (apply lxP (by rfl); (focus (intro w; go_simp; (try with_reducible rfl); done)); simp only [Act.put, zA34, zB34, zC34])
   refine lxN (fun _ => wqD (by kernel_rfl) ?_ _)
   have x0' := x0 _ r2
   have x1' := x1 _ r2
   have hn2 := H.out.1.below r2
   obtain ⟨w2, hw2⟩ : ∃ w2, w0.drew.drew = w2 := ⟨_, rfl⟩
   rw [hw2] at x0' x1' hn2 r2
   rw [hw2]
   clear y3 y4 x0 x1 hS0 hw2
   have q3 := hn2.blk.cell 3
   have q4 := hn2.blk.cell 4
   have f3 := hn2.blk.frozen 3
   have f4 := hn2.blk.frozen 4
   simp only [Gd.cells, List.getElem?_cons_succ, List.getElem?_cons_zero] at q3 q4
   have hne : xb ≠ nb := fun e => by
    have h1 := HB0.out.2
    rw [e] at h1
    exact absurd (h1.one H.out.1.blk).2 (by decide)
   have hne' : nb ≠ xb := fun e => hne e.symm
   have b3 := (hn2.blk.set 3 (.int .i64 t)).set 4 (.int .i64 v)
   obtain ⟨w3, hw3⟩ : ∃ w3, (w2.setCell ⟨nb, 3, none⟩ (.int .i64 t)).setCell ⟨nb, 4, none⟩ (.int .i64 v) = w3 := ⟨_, rfl⟩
   have c3 : Chg [nb] w2 w3 := by rw [← hw3]; exact ((Chg.refl [nb] w2).setCell (p := ⟨nb, 3, none⟩) (Or.inl (by simp)) _).setCell (p := ⟨nb, 4, none⟩) (Or.inl (by simp)) _
   rw [hw3] at b3
   have h3 := hn2.own (G' := { G with bt := t, bv := v }) c3 b3 rfl
   have hbo := bbytes_ok (t := t) (v := v) (by have := H.out; omega) (by have := H.out; omega)
   have HBB := hide (ballb_calls (w := w3) t v ⟨by have := H.out; omega, by have := H.out; omega⟩ ⟨by have := H.out; omega, by have := H.out; omega⟩)
   have gs3 : GS w w3 nb q q := (GS.stay (belowA r2 HB0.out.1)).trans (GS.own c3)
   have H3 := hide (And.intro h3 (And.intro gs3 hbo))
   have HW3 := hide hw3
   clear b3 c3 h3 hn2 hw3 hbo gs3
   go_wp2_with fail
   (try rw [HW3.out])
   with_reducible refine HBB.out.mono ?_
   rintro e w4 ⟨A4, c4, rfl, ho4, hb4⟩
   have HPU := hide (gput_calls (H3.out.1.below hb4) H.out.2.1 H.out.2.2.1 0 ho4.bt H3.out.2.2.2 (by have := H3.out.2.2.1; omega))
   have HC4 := hide (H3.out.2.1.trans (GS.stay hb4))
   clear ho4 hb4 HBB
   go_wp2_with fail
   with_reducible refine HPU.out.mono ?_
   rintro e w5 ⟨q5, V5, d5, rfl, h5, hok5, hs5, hd5⟩
   have H5 := hide (And.intro h5 (And.intro hok5 (And.intro (HC4.out.trans hs5) hd5)))
   clear h5 hok5 hs5 hd5 HPU
   go_wp2
   go_ret
   exact ⟨q5, G.role, G.leader, V5, d5, rfl, H5.out⟩
end
end Go.Proofs.YteppdlkmjgladaaGreat

namespace Go.Proofs.YteppdlkmjgladaaGreat
open Go.RowKit Go.Proofs Go.Maps
set_option linter.unusedVariables false
set_option linter.unusedSimpArgs false

def Gd.pus (G : Gd) (c : Con) (V : Vlt) (d : Bool) (f : Int → Option Int) : Gd := { G with dead := d, m := { G.m with V := V, L := G.m.L ++ [c], mat := f } }
def PushT (w w' : World) (nb : Nat) (q : Gl) (G : Gd) (c : Con) (g : Nat) (e : Ending) : Prop := ∃ q' V' d f i, e = .returned (.int .i64 i) ∧ GP w' nb q' (G.pus c V' d f) ∧ fewI f ∧ VltOk V' (g + 1) ∧ GS w w' nb q q'
section
variable {w w' w1 w2 : World} {nb u j k : Nat} {q q1 : Gl} {G : Gd}
theorem GS.fl {lb : Nat} {Fl' : List Nat} (hc : Chg (nb :: q.Fl) w w') (hf : ∀ x ∈ Fl', x ∈ q.Fl ∨ w.heap.size ≤ x) : GS w w' nb q { q with lb := lb, Fl := Fl' } := by
 refine ⟨hc.mono (fun x hx => Or.inl (gt_mem.2 ((List.mem_cons.1 hx).imp id (fun h => Or.inr (Or.inr (Or.inr (Or.inl h))))))), fun x hx => ?_, fun x hx => Or.inl hx⟩
 rcases gt_mem.1 hx with h | h | h | h | h | h
 ·exact Or.inl (gt_mem.2 (Or.inl h))
 ·exact Or.inl (gt_mem.2 (Or.inr (Or.inl h)))
 ·exact Or.inl (gt_mem.2 (Or.inr (Or.inr (Or.inl h))))
 ·exact Or.inl (gt_mem.2 (Or.inr (Or.inr (Or.inr (Or.inl h)))))
 ·exact (hf x h).imp (fun h => gt_mem.2 (Or.inr (Or.inr (Or.inr (Or.inr (Or.inl h)))))) id
 ·exact Or.inl (gt_mem.2 (Or.inr (Or.inr (Or.inr (Or.inr (Or.inr h))))))
theorem GS.mxS (hc : Chg [q.mx] w w') : GS w w' nb q q := ⟨hc.mono (fun x hx => Or.inl (gt_mem.2 (Or.inr (Or.inr (Or.inl (List.mem_singleton.1 hx)))))), fun x hx => Or.inl hx, fun x hx => Or.inl hx⟩
theorem GS.nxS (hc : Chg [q.nx] w w') : GS w w' nb q q := ⟨hc.mono (fun x hx => Or.inl (gt_mem.2 (Or.inr (Or.inl (List.mem_singleton.1 hx))))), fun x hx => Or.inl hx, fun x hx => Or.inl hx⟩
theorem GP.logI (h : GP w nb q G) {L' : List Con} {Fl' : List Nat} (hl : LG w' q.lb G.m.li G.m.lt L' Fl') (hc : Chg q.Fl w w') (hf : ∀ x ∈ Fl', x ∈ q.Fl ∨ w.heap.size ≤ x) : GP w' nb { q with Fl := Fl' } { G with m := { G.m with L := L' } } ∧ GS w w' nb q { q with Fl := Fl' } := by
 have hc' : Chg (nb :: q.Fl) w w' := hc.mono (fun x hx => Or.inl (List.mem_cons_of_mem _ hx))
 exact ⟨h.logT (lb := q.lb) (li := G.m.li) (lt := G.m.lt) (h.blk.chg hc (fun hx => (h.sep.l _ hx).1 rfl)) hl hc' hf, GS.fl (lb := q.lb) hc' hf⟩
set_option maxHeartbeats 4000000 in
set_option maxRecDepth 100000 in
theorem gpush_calls (h : GP w nb q G) (hi : MI u G.m) (hu : u ≤ 9000) {g : Nat} (hV : VltOk G.m.V g) (hg : g < 2 ^ 60) (ht : 0 ≤ G.bt ∧ G.bt ≤ 1099511627776 + u) (hid : 0 ≤ G.id ∧ G.id ≤ 15) (kind : Nat) (hk : kind < 2 ^ 59) {A : Option Addr} {c : Nat} {b : List Nat} (hb : Bt w A c b) (hbb : ∀ x ∈ b, x < 256) (hbl : b.length ≤ 50000) (hcm : c ≤ maxLen) :
  Calls Tryz.prog 43 #[.pointer (some ⟨nb, 0, none⟩), .int .i64 kind, .slice A b.length c] w fun e w' => PushT w w' nb q G (G.bt, (kind : Int), bi b) g e := by
 obtain ⟨t, htn⟩ : ∃ t : Nat, G.bt = t := ⟨G.bt.toNat, by omega⟩
 have y3 : w.cell? ⟨nb, 3, none⟩ = some (.int .i64 t) := by have := h.blk.cell 3; simp only [Gd.cells, List.getElem?_cons_succ, List.getElem?_cons_zero, htn] at this; exact this
 obtain ⟨w0, hw0⟩ : ∃ w0, w.alloc (.cells #[.int .i64 t, .int .i64 kind, .slice A b.length c] 73) = w0 := ⟨_, rfl⟩
 obtain ⟨xb, hxb⟩ : ∃ xb, w.heap.size = xb := ⟨_, rfl⟩
 have hb0 : Below w.heap.size w w0 := hw0 ▸ belowL (Below.refl _ _) _
 have bX : Blk w0 xb 73 [.int .i64 t, .int .i64 kind, .slice A b.length c] := by rw [← hw0, ← hxb]; exact Blk.new rfl
 have h0 := h.below hb0
 have r0 := Below.refl w0.heap.size w0
 have x0 := bX.rule 0 _ rfl
 have x1 := bX.rule 1 _ rfl
 have x2 := bX.rule 2 _ rfl
 have y9 := h0.blk.rule 9 _ rfl
 have HLP := lg_push (w := w0.drew) (p := q.lb) ⟨(t : Int), (kind : Int), A, c, bi b⟩ (h0.log.below r0.drew) ((hb.below (belowA r0.drew hb0)).ent hbb hcm t kind) (by rw [hi.li]; exact hi.si.1) (by rw [hi.li]; have := hi.si.2; omega) (by have := hi.n; omega) (by rw [bi_len]; omega)
 simp only [bi_len, Ent.con] at HLP
 obtain ⟨i, hii⟩ : ∃ i, G.m.li + G.m.L.length + 1 = i := ⟨_, rfl⟩
 rw [hii] at HLP
 have hib : 0 ≤ i ∧ i ≤ 1099511627776 := by have := hi.si; have := hi.n; have := hi.li; omega
 have q1 : IntKind.i64.wrap (1000 + i) = 1000 + i := IntWalk.i64_in _ (by omega)
 have hFl : ∀ x ∈ q.Fl, x < xb := fun x hx => by rw [← hxb]; exact h.log.lt x hx
 have HFL := hide hFl
 have HW := hide (And.intro hw0 hxb)
 have HLP := hide HLP
 have H := hide (And.intro h0 (And.intro hV (And.intro hg (And.intro hb0 (And.intro bX (And.intro hid htn))))))
 have HB := hide (And.intro hb (And.intro hbb (And.intro hbl (show t < 2 ^ 60 by omega))))
 have HI := hide (And.intro hib hi)
 clear hFl h h0 hV hb hbb hb0 bX hw0 hxb hii ht htn hid hi hib
 go_enter Tryz.func43, Tryz.ntmps43
 go_upto_region 2 with fail
 (try rw [HW.out.1])
 (try rw [HW.out.2])
 refine lxR (fun w' => Below w0.heap.size w0 w') [5] 0 [(2, 0), (2, 1), (2, 2), (0, 3), (0, 4), (3, 5), (2, 6)] #[true, true, true, true, true, true, true] (by kernel_rfl) (by kernel_rfl) (by decide) (by kernel_rfl) (by kernel_rfl) (fun _ _ _ _ _ h => h) (by (exact r0.drew)) (fun hS0 => ?_)
 simp only [List.map_cons, List.map_nil, List.getElem?_toArray, List.getElem?_cons_succ, List.getElem?_cons_zero]
 (iterate 3 ((apply lxP (by rfl); (focus (intro w; go_simp; (try with_reducible rfl); done)); simp only [Act.put, zA34, zB34, zC34]))); (iterate 2 ((apply lxT (by rfl); (focus (intro w hw; (try dsimp only at hw); go_simp; (try with_reducible rfl); done)); simp only [Act.put, zA34, zB34, zC34]))); (refine lxF (by rfl) ?_; go_simp; ((go_at_call 40; with_reducible refine HLP.out.mono ?_; rintro e w2 ⟨Fl2, rfl, hl2, hc2, hf2⟩))); (apply lxP (by rfl); (focus (intro w; go_simp; (try with_reducible rfl); done)); simp only [Act.put, zA34, zB34, zC34])
 refine lxN (fun _ => wqD (by kernel_rfl) ?_ _)
 have hl0 : Below w.heap.size w w0.drew := belowA r0.drew H.out.2.2.2.1
 rw [← H.out.2.2.2.2.2.2] at hl2
 obtain ⟨hn2, hs2⟩ := (H.out.1.below r0.drew).logI hl2 hc2 (fun x hx => hf2 x hx)
 have hxF : xb ∉ q.Fl := fun hx => by have := HFL.out xb hx; omega
 have bX2 := (H.out.2.2.2.2.1.below r0.drew).chg hc2 hxF
 have hh := (H.out.1.log.below r0.drew).hard
 have hb2 : Bt w2 A c b := (HB.out.1.below hl0).chg hc2 hh.nob
 have x0' : w2.cell? ⟨xb, 0, none⟩ = some (.int .i64 t) := bX2.cell 0
 have x1' : w2.cell? ⟨xb, 1, none⟩ = some (.int .i64 kind) := bX2.cell 1
 have x2' : w2.cell? ⟨xb, 2, none⟩ = some (.slice A b.length c) := bX2.cell 2
 have heb := ebytes_ok (t := t) (k := kind) HB.out.2.2.2 (by omega) HB.out.2.1 (by have := HB.out.2.2.1; omega)
 have HEB := hide (entb_calls (w := w2) t kind hb2.rb HB.out.2.2.2 (by omega) (by have := HB.out.2.2.1; omega))
 have H2 := hide (And.intro hn2 (And.intro ((GS.stay hl0).trans hs2) heb))
 clear hl2 hc2 hf2 hl0 hn2 hxF bX2 hh hb2 heb x0 x1 x2 y9 hS0 HLP hs2
 go_wp2_with fail
 with_reducible refine HEB.out.mono ?_
 rintro e w3 ⟨A3, c3, rfl, ho3, hb3⟩
 obtain ⟨EB, hEB⟩ : ∃ EB, ebytes t kind b = EB := ⟨_, rfl⟩
 have H2' := H2.out
 rw [hEB] at ho3 H2' ⊢
 have HPU := hide (gput_calls (H2'.1.below hb3) H.out.2.1 H.out.2.2.1 (1000 + i) ho3.bt H2'.2.2.2 (by have := H2'.2.2.1; have := HB.out.2.2.1; omega))
 have HC3 := hide (H2'.2.1.trans (GS.stay hb3))
 clear ho3 hb3 H2' HEB x0' x1' x2' H2
 go_wp2_with fail
 with_reducible refine HPU.out.mono ?_
 rintro e w4 ⟨q4, V4, d4, rfl, h4, hok4, hs4, _⟩
 have H4 := hide (And.intro h4 (And.intro hok4 (HC3.out.trans hs4)))
 clear h4 hok4 hs4 HPU
 cases d4 with
 |true =>
  go_wp2
  go_ret
  exact ⟨q4, V4, true, G.m.mat, i, rfl, H4.out.1, HI.out.2.mat, H4.out.2.1, H4.out.2.2⟩
 |false =>
  have r4 := Below.refl w4.heap.size w4
  have y19 := H4.out.1.blk.rule 19 _ rfl
  have y0 := H4.out.1.blk.rule 0 _ rfl
  rw [show (Gd.vlt { G with m := { G.m with L := G.m.L ++ [(G.bt, (kind : Int), bi b)] } } V4 false).id = G.id from rfl] at y0
  have HMX := hide (H4.out.1.mx.chg (L := []) (Chg.of_below r4.drew) (by simp))
  have HID := hide (And.intro H.out.2.2.2.2.2.1 (show i64ok i by have := HI.out.1; unfold i64ok; omega))
  go_upto_region 4 with fail
  refine lxR (fun w' => Below w4.heap.size w4 w') [9] 0 [(2, 0), (2, 1), (2, 2), (0, 3), (2, 4), (2, 5), (2, 6), (0, 7), (2, 8), (3, 9)] #[true, true, true, true, true, true, true, true, true, true] (by kernel_rfl) (by kernel_rfl) (by decide) (by kernel_rfl) (by kernel_rfl) (fun _ _ _ _ _ h => h) (by (exact r4.drew)) (fun hS0 => ?_)
  simp only [List.map_cons, List.map_nil, List.getElem?_toArray, List.getElem?_cons_succ, List.getElem?_cons_zero]
  (iterate 3 ((apply lxP (by rfl); (focus (intro w; go_simp; (try with_reducible rfl); done)); simp only [Act.put, zA34, zB34, zC34]))); (apply lxT (by rfl); (focus (intro w hw; (try dsimp only at hw); go_simp; (try with_reducible rfl); done)); simp only [Act.put, zA34, zB34, zC34]); (iterate 3 ((apply lxP (by rfl); (focus (intro w; go_simp; (try with_reducible rfl); done)); simp only [Act.put, zA34, zB34, zC34]))); (apply lxT (by rfl); (focus (intro w hw; (try dsimp only at hw); go_simp; (try with_reducible rfl); done)); simp only [Act.put, zA34, zB34, zC34]); (apply lxP (by rfl); (focus (intro w; go_simp; (try with_reducible rfl); done)); simp only [Act.put, zA34, zB34, zC34]); (refine lxF (by rfl) ?_; (refine IM.wp_putR _ _ _ rfl rfl rfl rfl HMX.out HID.out.1 HID.out.2 ?_; intro w5 hm5 hc5); simp only [Act.put])
  refine lxN (fun _ => wqD (by kernel_rfl) ?_ _)
  have h5 := (H4.out.1.below r4.drew).matT hm5 (by exact hc5)
  have hs5 : GS w w5 nb q q4 := (H4.out.2.2.trans (GS.stay r4.drew)).trans (GS.mxS hc5)
  have hf5 : fewI (upd G.m.mat G.id (some i)) := fewI.upd HI.out.2.mat (by have := HI.out.1; omega)
  have H5 := hide (And.intro h5 (And.intro hf5 hs5))
  clear h5 hs5 hf5 hm5 hc5 y19 y0 HMX
  go_wp2
  go_ret
  exact ⟨q4, V4, false, _, i, rfl, H5.out.1, H5.out.2.1, H4.out.2.1, H5.out.2.2⟩
end
end Go.Proofs.YteppdlkmjgladaaGreat

namespace Go.Proofs.YteppdlkmjgladaaGreat
open Go.RowKit Go.Proofs Go.Maps
set_option linter.unusedVariables false
set_option linter.unusedSimpArgs false

theorem GI.nxt {u : Nat} {G : Gd} (h : GI u G) {f : Int → Option Int} (hf : fewI f) {n : Nat} (hn : n ≤ G.m.on + 100) : GI (u + 1) (G.nxt f n) := by
 have k := h.up (Nat.le_succ u)
 exact ⟨k.id, k.bt, k.bv, k.com, k.told, k.quiet, k.beats, h.m.nxt hf hn⟩
theorem GI.pus {u : Nat} {G : Gd} (h : GI u G) {t k : Nat} {b : List Nat} (ht : t < 2 ^ 59) (hk : k < 2 ^ 59) (hb : b.length ≤ 50000) (hbb : ∀ x ∈ b, x < 256) {V : Vlt} {d : Bool} {f : Int → Option Int} (hf : fewI f) : GI (u + 1) (G.pus ((t : Int), (k : Int), bi b) V d f) := by
 have e := h.up (Nat.le_succ u)
 refine ⟨e.id, e.bt, e.bv, e.com, e.told, e.quiet, e.beats, ⟨e.m.si, e.m.st, e.m.li, e.m.lt, e.m.sm, e.m.sb, fun c hc => ?_, ?_, e.m.votes, e.m.next, hf, e.m.on⟩⟩
 ·rcases List.mem_append.1 hc with hc | hc
  ·exact h.m.L c hc
  ·exact ⟨t, k, b, List.mem_singleton.1 hc, ht, hk, hb, hbb⟩
 ·have := h.m.n
  show (G.m.L ++ [_]).length ≤ _
  rw [List.length_append, List.length_singleton]
  omega
theorem GI.coms {u : Nat} {G : Gd} (h : GI u G) {c r : Int} (hc : G.commit ≤ c) (hc2 : c ≤ 2199023255552) : GI u { G with commit := c, role := r } :=
 ⟨h.id, h.bt, h.bv, ⟨by have := h.com.1; simp only; omega, hc2⟩, h.told, h.quiet, h.beats, h.m⟩
theorem GI.vlt {u : Nat} {G : Gd} (h : GI u G) (V : Vlt) (d : Bool) : GI u (G.vlt V d) :=
 ⟨h.id, h.bt, h.bv, h.com, h.told, h.quiet, h.beats, ⟨h.m.si, h.m.st, h.m.li, h.m.lt, h.m.sm, h.m.sb, h.m.L, h.m.n, h.m.votes, h.m.next, h.m.mat, h.m.on⟩⟩
def GW (w w' : World) (nb : Nat) (q : Gl) (G : Gd) (u g : Nat) : Prop := ∃ q' G', GP w' nb q' G' ∧ GI u G' ∧ VltOk G'.m.V g ∧ G'.id = G.id ∧ G.bt ≤ G'.bt ∧ G.commit ≤ G'.commit ∧ GS w w' nb q q'
section
variable {w w' w1 w2 : World} {nb u j k g : Nat} {q q1 : Gl} {G G1 : Gd}
theorem GW.first {u' g' : Nat} (hs : GS w w1 nb q q1) (h : GW w1 w2 nb q1 G1 u g) (h1 : G1.id = G.id) (h2 : G.bt ≤ G1.bt) (h3 : G.commit ≤ G1.commit) (hu : u ≤ u') (hg : g ≤ g') : GW w w2 nb q G u' g' := by
 obtain ⟨q', G', k1, k2, k3, k4, k5, k6, k7⟩ := h
 exact ⟨q', G', k1, k2.up hu, k3.up hg, k4.trans h1, Int.le_trans h2 k5, Int.le_trans h3 k6, hs.trans k7⟩
theorem GW.stay (h : GP w nb q G) (hi : GI u G) (hV : VltOk G.m.V g) (hb : Below w.heap.size w w') : GW w w' nb q G u g := ⟨q, G, h.below hb, hi, hV, rfl, Int.le_refl _, Int.le_refl _, GS.stay hb⟩
theorem GP.remap (h : GP w nb q G) {b1 b2 : Nat} (hc : Chg [nb] w w') {role leader beats : Int} {f1 f2 : Int → Option Int} (i1 : IM w' b1 (cnt16 f1) f1) (i2 : IM w' b2 (cnt16 f2) f2) (hne : b1 ≠ b2) (h1 : w.heap.size ≤ b1) (h2 : w.heap.size ≤ b2)
  (hb : Blk w' nb 97 (Gd.cells { G with role := role, leader := leader, beats := beats, m := { G.m with next := f1, mat := f2 } } { q with nx := b1, mx := b2 })) :
  GP w' nb { q with nx := b1, mx := b2 } { G with role := role, leader := leader, beats := beats, m := { G.m with next := f1, mat := f2 } } ∧ GS w w' nb q { q with nx := b1, mx := b2 } := by
 have hK : ∀ x ∈ [nb], x ∈ gt nb q := fun x hx => gt_mem.2 (Or.inl (List.mem_singleton.1 hx))
 have s := h.sep
 have hlt : ∀ x, x ∈ gt nb q → x < w.heap.size := fun x hx => h.lt x (List.mem_append_left _ hx)
 have hnb := h.blk.lt
 have hgt : ∀ x ∈ gt nb { q with nx := b1, mx := b2 }, x ∈ gt nb q ∨ w.heap.size ≤ x := fun x hx => by
  rcases gt_mem.1 hx with h | h | h | h | h | h
  ·exact Or.inl (gt_mem.2 (Or.inl h))
  ·exact Or.inr (h ▸ h1)
  ·exact Or.inr (h ▸ h2)
  ·exact Or.inl (gt_mem.2 (Or.inr (Or.inr (Or.inr (Or.inl h)))))
  ·exact Or.inl (gt_mem.2 (Or.inr (Or.inr (Or.inr (Or.inr (Or.inl h))))))
  ·exact Or.inl (gt_mem.2 (Or.inr (Or.inr (Or.inr (Or.inr (Or.inr h))))))
 have ne : ∀ x, x ∈ gt nb q → x ≠ b1 ∧ x ≠ b2 := fun x hx => by have := hlt x hx; exact ⟨by omega, by omega⟩
 refine ⟨⟨hb, h.vltS hc hK (fun x hx hy => (s.v x hx).1 (List.mem_singleton.1 hy)), h.logS hc hK (fun x hx hy => (s.l x hx).1 (List.mem_singleton.1 hy)), h.smS hc hK, h.sbS hc hK (fun x hx => (List.mem_append.1 hx).elim (fun h => (hgt x h).imp (List.mem_append_left _) id) (fun h => Or.inl (List.mem_append_right _ h))), h.voS hc hK, i1, i2, h.outS hc (fun x hx hy => (s.o x hx).1 (List.mem_singleton.1 hy)), ⟨fun e => ?_, fun e => ?_, hne, fun x hx => ?_, fun x hx => ?_, fun x hx => ?_, s.vs⟩⟩, ⟨hc.mono (fun x hx => Or.inl (hK x hx)), hgt, fun x hx => Or.inl hx⟩⟩
 ·exact (ne nb (gt_mem.2 (Or.inl rfl))).1 e.symm
 ·exact (ne nb (gt_mem.2 (Or.inl rfl))).2 e.symm
 ·have := ne x (gt_mem.2 (Or.inr (Or.inr (Or.inr (Or.inl hx))))); exact ⟨(s.o x hx).1, this.1, this.2⟩
 ·have := ne x (gt_mem.2 (Or.inr (Or.inr (Or.inr (Or.inr (Or.inl hx)))))); exact ⟨(s.l x hx).1, this.1, this.2, (s.l x hx).2.2.2⟩
 ·have := ne x (gt_mem.2 (Or.inr (Or.inr (Or.inr (Or.inr (Or.inr hx)))))); exact ⟨(s.v x hx).1, this.1, this.2, (s.v x hx).2.2.2⟩
theorem GP.vsl (h : GP w nb q G) (hl : G.m.votes.length ≤ 1024) : Sl w [] q.Av q.cv G.m.votes := Sl.own (W := { w with heap := #[] }) h.vo rfl hl (fun g _ => Nat.zero_le _) (by simp)
set_option maxHeartbeats 4000000 in
set_option maxRecDepth 100000 in
theorem gcount_calls (h : GP w nb q G) (hi : GI u G) (hu : u ≤ 1000) (hV : VltOk G.m.V g) (hg : g < 2 ^ 60) :
  Calls Tryz.prog 98 #[.pointer (some ⟨nb, 0, none⟩)] w fun e w' => e = .returned (.tuple #[]) ∧ GW w w' nb q G (u + 2) (g + 1) := by
 have HM := hide (gmem_calls h hi.m (by omega))
 have H := hide (And.intro h (And.intro hi (And.intro hV hg)))
 clear h hi hV hg
 go_enter Tryz.func98, Tryz.ntmps98
 go_wp2_with fail
 with_reducible refine HM.out.mono ?_
 rintro e w1 ⟨A, c, l, _, rfl, hit, hml, _, _, hb1⟩
 have h1 := H.out.1.below hb1
 have y13 : w1.cell? ⟨nb, 13, none⟩ = some (.int .i64 G.role) := h1.blk.cell 13
 have y17 : w1.cell? ⟨nb, 17, none⟩ = some (.slice q.Av G.m.votes.length q.cv) := h1.blk.cell 17
 have HWO := hide (qwon_calls (no := []) hit.sl (h1.vsl (by have := H.out.2.1.m.votes.1; omega)))
 have H1 := hide (And.intro h1 hb1)
 clear h1 hb1 hit hml HM
 by_cases hr : G.role = 1
 ·have u1 : (G.role != 1) = false := by simp [hr]
  clear hr
  go_wp2_with fail
  with_reducible refine HWO.out.mono ?_
  rintro e w2 ⟨rfl, hb2⟩
  have h2 := H1.out.1.below hb2
  have hb02 := belowA hb2 H1.out.2
  by_cases hwn : wonP l G.m.votes
  ·rw [decide_eq_true hwn]
   have y0 : w2.cell? ⟨nb, 0, none⟩ = some (.int .i64 G.id) := h2.blk.cell 0
   have q13 := h2.blk.cell 13
   have q14 := h2.blk.cell 14
   have q16 := h2.blk.cell 16
   have q18 := h2.blk.cell 18
   have q19 := h2.blk.cell 19
   have f13 := h2.blk.frozen 13
   have f14 := h2.blk.frozen 14
   have f16 := h2.blk.frozen 16
   have f18 := h2.blk.frozen 18
   have f19 := h2.blk.frozen 19
   simp only [Gd.cells, List.getElem?_cons_succ, List.getElem?_cons_zero] at q13 q14 q16 q18 q19
   have hmm := @run_makeMap Tryz.prog
   have HB2 := hide (And.intro h2 hb02)
   have hlt := h2.blk.lt
   clear h2 hb02 hb2 HWO y13 y17 H1 hwn
   go_wp2_with fail
   obtain ⟨wS, hwS⟩ : ∃ wS, (((((w2.setCell ⟨nb, 13, none⟩ (.int .i64 2)).setCell ⟨nb, 14, none⟩ (.int .i64 G.id)).setCell ⟨nb, 16, none⟩ (.int .i64 0)).setCell ⟨nb, 18, none⟩ (.map (some w2.heap.size))).setCell ⟨nb, 19, none⟩ (.map (some (w2.heap.size + 1)))) = wS := ⟨_, rfl⟩
   have hsz : wS.heap.size = w2.heap.size := by rw [← hwS]; simp
   have bS := ((((HB2.out.1.blk.set 13 (.int .i64 2)).set 14 (.int .i64 G.id)).set 16 (.int .i64 0)).set 18 (.map (some w2.heap.size))).set 19 (.map (some (w2.heap.size + 1)))
   have cS : Chg [nb] w2 wS := by rw [← hwS]; exact (((((Chg.refl [nb] w2).setCell (p := ⟨nb, 13, none⟩) (Or.inl (by simp)) _).setCell (p := ⟨nb, 14, none⟩) (Or.inl (by simp)) _).setCell (p := ⟨nb, 16, none⟩) (Or.inl (by simp)) _).setCell (p := ⟨nb, 18, none⟩) (Or.inl (by simp)) _).setCell (p := ⟨nb, 19, none⟩) (Or.inl (by simp)) _
   rw [hwS] at bS
   have i1 := IM.made wS
   have i2 := IM.made (wS.alloc (.map #[] 0))
   have hsz2 : (wS.alloc (.map #[] 0)).heap.size = w2.heap.size + 1 := by rw [← hsz]; simp
   rw [hsz] at i1
   rw [hsz2] at i2
   have bl2 : Below (wS.alloc (.map #[] 0)).heap.size (wS.alloc (.map #[] 0)) ((wS.alloc (.map #[] 0)).alloc (.map #[] 0)) := belowL (Below.refl _ _) _
   have bl1 : Below wS.heap.size wS (wS.alloc (.map #[] 0)) := belowL (Below.refl _ _) _
   obtain ⟨w3, hw3⟩ : ∃ w3, (wS.alloc (.map #[] 0)).alloc (.map #[] 0) = w3 := ⟨_, rfl⟩
   have i1' := i1.chg (L := []) (Chg.of_below bl2) (by simp)
   rw [hw3] at i1' i2 bl2
   have hbS : Below wS.heap.size wS w3 := belowA bl2 bl1
   have c3 : Chg [nb] w2 w3 := cS.below hbS
   obtain ⟨h3, hs3⟩ := HB2.out.1.remap (b1 := w2.heap.size) (b2 := w2.heap.size + 1) c3 (role := 2) (leader := G.id) (beats := 0) (f1 := noF) (f2 := noF) (by rw [cnt16_no]; exact i1') (by rw [cnt16_no]; exact i2) (by omega) (Nat.le_refl _) (by omega) (bS.below hbS)
   obtain ⟨G1, hG1⟩ : ∃ G1, ({ G with role := 2, leader := G.id, beats := 0, m := { G.m with next := noF, mat := noF } } : Gd) = G1 := ⟨_, rfl⟩
   rw [hG1] at h3
   have fno : fewI noF := fun x => by simp [noF]
   have hi1 : GI u G1 := by
    rw [← hG1]
    have e := H.out.2.1
    exact ⟨e.id, e.bt, e.bv, e.com, e.told, e.quiet, ⟨Int.le_refl _, Int.natCast_nonneg u⟩, ⟨e.m.si, e.m.st, e.m.li, e.m.lt, e.m.sm, e.m.sb, e.m.L, e.m.n, e.m.votes, fno, fno, e.m.on⟩⟩
   have he1 : G1.id = G.id ∧ G1.bt = G.bt ∧ G1.commit = G.commit := by rw [← hG1]; exact ⟨rfl, rfl, rfl⟩
   have hV1 : VltOk G1.m.V g := by rw [← hG1]; exact H.out.2.2.1
   obtain ⟨q3, hq3⟩ : ∃ q3, ({ q with nx := w2.heap.size, mx := w2.heap.size + 1 } : Gl) = q3 := ⟨_, rfl⟩
   rw [hq3] at h3 hs3
   obtain ⟨bn, hbn⟩ : ∃ bn : Nat, G1.bt = bn := ⟨G1.bt.toNat, by have := hi1.bt; omega⟩
   have hpu := gpush_calls h3 hi1.m (by omega) hV1 H.out.2.2.2 hi1.bt hi1.id 0 (by omega) (Bt.nil w3) (by simp) (by simp) (Nat.zero_le _)
   rw [show ((0 : Nat) : Int) = 0 from rfl, List.length_nil] at hpu
   have HPU := hide hpu
   have H3 := hide (And.intro ((GS.stay HB2.out.2).trans hs3) (And.intro hi1 (And.intro he1 hbn)))
   have HWS := hide (And.intro hwS hw3)
   clear hwS hw3 hsz bS cS i1 i2 hsz2 bl1 bl2 i1' hbS c3 h3 hs3 hq3 hG1 fno hi1 he1 hV1 hbn hpu hmm y0 q13 q14 q16 q18 q19 f13 f14 f16 f18 f19
   (try rw [HWS.out.1])
   (try rw [HWS.out.2])
   with_reducible refine HPU.out.mono ?_
   rintro e w4 ⟨q4, V4, d4, f4, i4, rfl, h4, hf4, hok4, hs4⟩
   have hbb := H3.out.2.2.2
   have hi4 : GI (u + 1) (G1.pus (G1.bt, 0, bi []) V4 d4 f4) := by
    have := H3.out.2.1.pus (t := bn) (k := 0) (b := []) (by have := H3.out.2.1.bt; omega) (by omega) (by simp) (by simp) (V := V4) (d := d4) hf4
    rw [hbb]
    exact this
   obtain ⟨G4, hG4⟩ : ∃ G4, G1.pus (G1.bt, 0, bi []) V4 d4 f4 = G4 := ⟨_, rfl⟩
   have he4 : G4.id = G.id ∧ G4.bt = G.bt ∧ G4.commit = G.commit ∧ VltOk G4.m.V (g + 1) := by rw [← hG4]; exact ⟨H3.out.2.2.1.1, H3.out.2.2.1.2.1, H3.out.2.2.1.2.2, hok4⟩
   rw [hG4] at h4
   rw [hG4] at hi4
   have HSP := hide (gspread_calls h4 hi4.m (by omega) hi4.bt)
   have H4 := hide (And.intro hi4 (And.intro he4 (H3.out.1.trans hs4)))
   clear h4 hf4 hok4 hs4 hbb hi4 hG4 he4 HPU
   go_wp2_with fail
   with_reducible refine HSP.out.mono ?_
   rintro e w5 ⟨rfl, q5, f5, n5, h5, hf5, hn5, hs5⟩
   have hi5 := H4.out.1.nxt hf5 (n := n5) (by omega)
   have HSE := hide (gsettle_calls h5 hi5.m (by omega) hi5.com)
   have H5 := hide (And.intro hi5 (H4.out.2.2.trans hs5))
   clear h5 hf5 hn5 hs5 hi5 HSP
   go_wp2_with fail
   with_reducible refine HSE.out.mono ?_
   rintro e w6 ⟨rfl, c6, r6, h6, hc6, hc6', hs6⟩
   have HF : Hid (GW w w6 nb q G (u + 2) (g + 1)) := hide ⟨q5, _, h6, H5.out.1.coms hc6 hc6', H4.out.2.1.2.2.2, H4.out.2.1.1, by show G.bt ≤ G4.bt; rw [H4.out.2.1.2.1]; exact Int.le_refl _, by rw [← H4.out.2.1.2.2.1]; exact hc6, H5.out.2.trans hs6⟩
   clear h6 hc6 hc6' hs6 HSE
   go_wp2
   go_end0
   exact ⟨rfl, HF.out⟩
  ·rw [decide_eq_false hwn]
   have HF : Hid (GW w w2 nb q G (u + 2) (g + 1)) := hide (GW.stay H.out.1 (H.out.2.1.up (by omega)) (H.out.2.2.1.up (by omega)) hb02)
   clear h2 hb02 hb2 HWO y13 y17 H1 hwn
   go_wp2
   refine bodyPost_ret (results_none rfl _ _ _) rfl ?_
   exact ⟨rfl, HF.out⟩
 ·have u1 : (G.role != 1) = true := by simpa using hr
  have HF : Hid (GW w w1 nb q G (u + 2) (g + 1)) := hide (GW.stay H.out.1 (H.out.2.1.up (by omega)) (H.out.2.2.1.up (by omega)) H1.out.2)
  clear hr y17
  go_wp2
  refine bodyPost_ret (results_none rfl _ _ _) rfl ?_
  exact ⟨rfl, HF.out⟩
end
end Go.Proofs.YteppdlkmjgladaaGreat
