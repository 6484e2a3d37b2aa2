/- One text of: Byl Byz. -/
import Derived.Test.YtcahcjfgmdpdoaaGreatQBZ
import Derived.Test.YtcahcjfgmdpdoaaGreatQP0
import Derived.Test.YtcahcjfgmdpdoaaGreatQBY
set_option maxHeartbeats 16000000
set_option maxRecDepth 100000
namespace Go.Proofs.YtcahcjfgmdpdoaaGreat
open Go.RowKit Go.Proofs Go.Maps
set_option linter.unusedVariables false
set_option linter.unusedSimpArgs false

def ldN (b : List Nat) : Nat × Rdr := (⟨b, 0⟩ : Rdr).num maxN
def ldS (b : List Nat) : List (Int × Int) × Rdr := ldSv ((ldN b).2.num 16).2 [] ((ldN b).2.num 16).1
def LdOk (b : List Nat) : Prop := ∀ V r3 C r4, ldVo ((ldS b).2.num 64).2 [] ((ldS b).2.num 64).1 = some (V, r3) → ldCk (r3.num maxN).2 [] (r3.num maxN).1 = some (C, r4) → r4.fin = 0 → BytOk ⟨(ldS b).1, V, C, ((ldN b).1 : Nat)⟩
theorem loadP_eq (b : List Nat) : loadP b = ld2 b (ldN b).1 (ldS b).1 (ldS b).2 := rfl
structure LdSt (K : List Nat) (w wr : World) (no : List Nat) (rb sb m1 m2 m3 : Nat) (r : Rdr) (S : Vst) (V : List VoM) (C : List CkM) : Prop where
 vm : VM wr no sb m1 m2 m3 S V C
 ro : RO wr rb no r
 rn : rb ∈ no ∧ rb ≠ sb ∧ rb ≠ m1 ∧ rb ≠ m2 ∧ rb ≠ m3
 lo : w.heap.size ≤ rb ∧ w.heap.size ≤ sb ∧ w.heap.size ≤ m1 ∧ w.heap.size ≤ m2 ∧ w.heap.size ≤ m3
 kk : ∀ x ∈ K, x ∈ no
 bw : Below w.heap.size w wr
 ln : r.b.length ≤ 1000000
section
variable {K : List Nat} {w wr w' : World} {no : List Nat} {rb sb m1 m2 m3 : Nat} {r r' : Rdr} {S : Vst} {V : List VoM} {C : List CkM}
theorem LdSt.reads (h : LdSt K w wr no rb sb m1 m2 m3 r S V C) (hr : RO w' rb no r') (hc : Chg [rb] wr w') (hl : r'.b.length ≤ r.b.length) : LdSt K w w' no rb sb m1 m2 m3 r' S V C :=
 ⟨h.vm.other hc (fun x hx => by
  have e : x = rb := by simpa using hx
  subst e
  exact ⟨Or.inl h.rn.1, h.rn.2⟩), hr, h.rn, h.lo, h.kk, Chg.onto h.bw h.bw.size hc (fun x hx => by
  have e : x = rb := by simpa using hx
  subst e
  exact h.lo.1), Nat.le_trans hl h.ln⟩
theorem LdSt.below (h : LdSt K w wr no rb sb m1 m2 m3 r S V C) (hb : Below wr.heap.size wr w') : LdSt K w w' no rb sb m1 m2 m3 r S V C :=
 ⟨h.vm.below hb, h.ro.below hb, h.rn, h.lo, h.kk, h.bw.trans (hb.mono h.bw.size), h.ln⟩
theorem LdSt.puts (h : LdSt K w wr no rb sb m1 m2 m3 r S V C) {S' : Vst} {V' : List VoM} {C' : List CkM} {m : Nat} (hv : VM w' no sb m1 m2 m3 S' V' C') (hc : Chg [m] wr w') (hm : m ∈ no) (hn : m ≠ rb) (hlo : w.heap.size ≤ m) : LdSt K w w' no rb sb m1 m2 m3 r S' V' C' :=
 ⟨hv, h.ro.chg hc (by simpa using Ne.symm hn) (fun x hx => by
  have e : x = m := by simpa using hx
  subst e
  exact Or.inl hm), h.rn, h.lo, h.kk, Chg.onto h.bw h.bw.size hc (fun x hx => by
  have e : x = m := by simpa using hx
  subst e
  exact hlo), h.ln⟩
theorem LdSt.start {w1 : World} {no0 : List Nat} {L : List Nat} (hK : ∀ x ∈ K, x < w.heap.size) (hr : RO w1 rb K ⟨L, 0⟩) (hrl : w.heap.size ≤ rb) (hb1 : Below w.heap.size w w1) (hv : VM wr no0 sb m1 m2 m3 S [] []) (hb2 : Below w1.heap.size w1 wr) (hno : ∀ x ∈ no0, w1.heap.size ≤ x) (hl : L.length ≤ 1000000) : LdSt K w wr (rb :: (no0 ++ K)) rb sb m1 m2 m3 ⟨L, 0⟩ S [] [] := by
 have hrb := hr.lt; obtain ⟨A1, c1, hdz1, ha1⟩ := hr
 have hne : ∀ x ∈ no0, rb ≠ x := fun x hx => by have := hno x hx; omega
 have hlo : ∀ x ∈ no0, w.heap.size ≤ x := fun x hx => Nat.le_trans hb1.size (hno x hx)
 have hin : ∀ x ∈ no0, x ∈ rb :: (no0 ++ K) := fun x hx => List.mem_cons_of_mem _ (List.mem_append_left _ hx)
 refine ⟨⟨hv.blk, hv.t1, hv.t2, hv.t3, hv.eV, hv.eC, (fun x hx => by cases hx), (fun x hx => by cases hx), hin _ hv.ib, hin _ hv.i1, hin _ hv.i2, hin _ hv.i3, fun x hx => ?_, hv.ne⟩, ⟨A1, c1, ⟨hdz1.blk.below hb2, hdz1.rb.below hb2, hdz1.ok⟩, fun a h => ?_⟩, ⟨by simp, hne _ hv.ib, hne _ hv.i1, hne _ hv.i2, hne _ hv.i3⟩, ⟨hrl, hlo _ hv.ib, hlo _ hv.i1, hlo _ hv.i2, hlo _ hv.i3⟩, fun x hx => List.mem_cons_of_mem _ (List.mem_append_right _ hx), hb1.trans (hb2.mono hb1.size), hl⟩
 ·rcases List.mem_cons.1 hx with rfl | hx
  ·have := hb2.size; omega
  ·rcases List.mem_append.1 hx with hx | hx
   ·exact hv.lt x hx
   ·have := hK x hx; have := hb1.size; have := hb2.size; omega
 ·have k := hdz1.rb.ap a h
  intro hx
  rcases List.mem_cons.1 hx with e | hx
  ·exact k.2.1 (by simp [e])
  ·rcases List.mem_append.1 hx with hx | hx
   ·have := hno _ hx; have := k.2.2; omega
   ·exact ha1 a h hx
end
theorem ins_le1 {α : Type} {key : α → Int} {L : List α} {k : Nat} (h : Rise key L) (x : α) (hk : L.length ≤ k) : (ins key x L).length ≤ k + 1 := by
 rw [ins_length h]
 split <;> omega
def two1 (l : List Nat) (L : List (Int × Int)) : List (Int × Int) := match l with | [a, b] => ins Prod.fst ((a : Int), (b : Int)) L | _ => L
theorem two_of {l : List Nat} (h : l.length = 2) : ∃ x y, l = [x, y] := by
 match l, h with
 |[x, y], _ => exact ⟨x, y, rfl⟩
theorem two_not {l : List Nat} {L : List (Int × Int)} (h : ¬ l.length = 2) : two1 l L = L := by
 match l, h with
 |[], _ => rfl
 |[_], _ => rfl
 |[_, _], h => exact absurd rfl h
 |_ :: _ :: _ :: _, _ => rfl
theorem loadP_none2 {b : List Nat} (h : ldVo ((ldS b).2.num 64).2 [] ((ldS b).2.num 64).1 = none) : loadP b = none := by
 rw [loadP_eq]; unfold ld2; rw [h]
theorem loadP_some2 {b : List Nat} {V : List Vo} {r3 : Rdr} (h : ldVo ((ldS b).2.num 64).2 [] ((ldS b).2.num 64).1 = some (V, r3)) : loadP b = ld3 b (ldN b).1 (ldS b).1 V r3 := by
 rw [loadP_eq]; unfold ld2; rw [h]
theorem voOf_short {l : List Nat} (h : l.length ≤ 7) : voOf l = none := by
 match l, h with
 |[], _ => rfl
 |[_], _ => rfl
 |[_, _], _ => rfl
 |[_, _, _], _ => rfl
 |[_, _, _, _], _ => rfl
 |[_, _, _, _, _], _ => rfl
 |[_, _, _, _, _, _], _ => rfl
 |[_, _, _, _, _, _, _], _ => rfl
 |_ :: _ :: _ :: _ :: _ :: _ :: _ :: _ :: _, h => exact absurd h (by simp)
theorem eight_of {l : List Nat} (h : 8 ≤ l.length) : ∃ a b c p1 p2 p3 p4 x t, l = a :: b :: c :: p1 :: p2 :: p3 :: p4 :: x :: t := by
 match l, h with
 |a :: b :: c :: p1 :: p2 :: p3 :: p4 :: x :: t, _ => exact ⟨a, b, c, p1, p2, p3, p4, x, t, rfl⟩
theorem voOf_eight (a b c p1 p2 p3 p4 x : Nat) (t : List Nat) : voOf (a :: b :: c :: p1 :: p2 :: p3 :: p4 :: x :: t) = if right (p1 : Int) p2 p3 p4 then some ⟨a, b, ⟨p1, p2, p3, p4⟩, c, toI (x :: t)⟩ else none := rfl
theorem reads_from {w : World} {bA oA : Nat} {l : List Nat} {a b c p1 p2 p3 p4 x : Nat} {t : List Nat} (hcell : ∀ (j : Nat) (u : Value), ((toI l).map (Value.int .i64))[j]? = some u → w.cell? ⟨bA, oA + j, none⟩ = some u) (hb : bA < w.heap.size) (hl : l = a :: b :: c :: p1 :: p2 :: p3 :: p4 :: x :: t) :
  Reads w w.heap.size 1 (some ⟨bA, oA + 3, none⟩) 4 (intCells [(p1 : Int), p2, p3, p4]) := by
 refine ⟨rfl, fun _ => ⟨bA, oA + 3, rfl, hb, fun j u hu => ?_⟩⟩
 rw [Nat.add_assoc, Nat.add_comm 3 j]
 refine hcell (j + 3) u ?_
 rw [hl]
 rcases j with _ | _ | _ | _ | j
 ·exact hu
 ·exact hu
 ·exact hu
 ·exact hu
 ·simp [intCells] at hu
theorem ld3_none {b : List Nat} {nx : Nat} {sv : List (Int × Int)} {V : List Vo} {r : Rdr} (h : ldCk (r.num maxN).2 [] (r.num maxN).1 = none) : ld3 b nx sv V r = none := by
 unfold ld3; rw [h]
theorem ld3_some {b : List Nat} {nx : Nat} {sv : List (Int × Int)} {V : List Vo} {r r4 : Rdr} {C : List Ck} (h : ldCk (r.num maxN).2 [] (r.num maxN).1 = some (C, r4)) : ld3 b nx sv V r = if r4.fin = 0 ∧ (⟨sv, V, C, nx⟩ : Vst).bytes = b then some ⟨sv, V, C, nx⟩ else none := by
 unfold ld3; rw [h]
theorem three_of {l : List Nat} (h : l.length = 3) : ∃ x y z, l = [x, y, z] := by
 match l, h with
 |[x, y, z], _ => exact ⟨x, y, z, rfl⟩
theorem three_not {α : Type} {l : List Nat} {f : Nat → Nat → Nat → Option α} (h : ¬ l.length = 3) : (match l with | [a, b, c] => f a b c | _ => none) = none := by
 match l, h with
 |[], _ => rfl
 |[_], _ => rfl
 |[_, _], _ => rfl
 |[_, _, _], h => exact absurd rfl h
 |_ :: _ :: _ :: _ :: _, _ => rfl
theorem LdSt.readn {K : List Nat} {w wr : World} {no : List Nat} {rb sb m1 m2 m3 : Nat} {r : Rdr} {S : Vst} {V : List VoM} {C : List CkM} (h : LdSt K w wr no rb sb m1 m2 m3 r S V C) : ∀ w', Below wr.heap.size wr w' → Calls Tryz.prog 52 #[.pointer (some ⟨rb, 0, none⟩)] w' fun e w'' =>
  ∃ A c, e = .returned (.slice A (toI r.list.1).length c) ∧ OwnI wr w'' A c (toI r.list.1) ∧ LdSt K w w'' no rb sb m1 m2 m3 r.list.2 S V C ∧ Chg [rb] wr w'' := by
 intro w' hb
 refine (vreadn_calls w' rb no r (h.ro.below hb) h.ln).mono fun e w'' ⟨A, c, he, ho, hr, hc⟩ => ⟨A, c, ?_, ho.back hb, (h.below hb).reads hr hc (list_len _), (Chg.of_below hb).trans hc (fun x hx => Or.inl hx)⟩
 rw [he]; unfold toI; rw [List.length_map]
def LdOut (K : List Nat) (w w' : World) (e : Ending) (o : Option Vst) : Prop :=
 Below w.heap.size w w' ∧ match o with
  |some S => ∃ no sb m1 m2 m3 V C, e = .returned (.tuple #[.pointer (some ⟨sb, 0, none⟩), .bool true]) ∧ VM w' no sb m1 m2 m3 S V C ∧ (∀ x ∈ K, x ∈ no) ∧ w.heap.size ≤ sb
  |none => e = .returned (.tuple #[.pointer none, .bool false])
theorem vload_calls (K : List Nat) (w : World) (hK : ∀ x ∈ K, x < w.heap.size) (A : Option Addr) (c : Nat) (b : List Nat) (h : Reads w w.heap.size 1 A b.length (bys b)) (hl : b.length ≤ 1000000) (hb : ∀ x ∈ b, x < 256) (hB : LdOk b) :
    Calls Tryz.prog 24 #[.slice A b.length c] w fun e w' => LdOut K w w' e (loadP b) := by
  have H := hide (rread_calls w K hK A c b h hl hb); have HKK := hide hK; have HR := hide h; have HL := hd2 hl hB; clear h hl hb hB hK
  go_enter Tryz.func24, Tryz.ntmps24
  go_wp2_with fail; refine H.out.mono ?_; rintro e w1 ⟨rb, rfl, hro, hrl, hb1⟩; go_wp2_with fail
  refine (vnew_calls w1).mono ?_
  rintro e w2 ⟨no0, sb, m1, m2, m3, rfl, hv, hb2, hno⟩; have hst := LdSt.start HKK.out hro hrl hb1 hv hb2 hno HL.out.1; obtain ⟨no, hnoe⟩ : ∃ no, rb :: (no0 ++ K) = no := ⟨_, rfl⟩; rw [hnoe] at hst; have H0 := hide hst; have HN : Hid (Calls Tryz.prog 51 #[.pointer (some ⟨rb, 0, none⟩), .int .i64 4611686018427387904] w2 _) := hide (rnum_calls w2 rb no ⟨b, 0⟩ maxN hst.ro HL.out.1 (by decide)); clear hnoe hst hro hrl hb1 hv hb2 hno H; go_wp2_with fail; refine HN.out.mono ?_; rintro e w3 ⟨rfl, hro3, hc3⟩; have hst3 := H0.out.reads hro3 hc3 (Rdr.num_len _); obtain ⟨r1, hr1⟩ : ∃ r, ((⟨b, 0⟩ : Rdr).num maxN) = r := ⟨_, rfl⟩; rw [hr1] at hst3 ⊢; have HR1 := hide (show ldN b = r1 from hr1); obtain ⟨nx, r1⟩ := r1; have hb3 := hst3.vm.blk; have hst4 := hst3.puts (hst3.vm.next nx) ((Chg.refl [sb] w3).setCell (p := ⟨sb, 3, none⟩) (by simp) _) hst3.vm.ib (Ne.symm hst3.rn.2.1) hst3.lo.2.1; have c3 := hb3.cell 3; have f3 := hb3.frozen 3; simp only [List.getElem?_cons_succ, List.getElem?_cons_zero] at c3; have H4 := hide hst4; simp only [] at hst4; have hln := hst4.ln; have HN2 : Hid (Calls Tryz.prog 51 #[.pointer (some ⟨rb, 0, none⟩), .int .i64 16] (w3.setCell ⟨sb, 3, none⟩ (.int .i64 nx)) _) := hide (rnum_calls _ rb no r1 16 hst4.ro hst4.ln (by decide)); have hbs : sb < w3.heap.size := hb3.lt; clear hr1 hro3 hc3 hst3 hst4 hb3 H0 HN hln; go_wp2_with fail; refine HN2.out.mono ?_; rintro e w5 ⟨rfl, hro5, hc5⟩; have hst5 := H4.out.reads hro5 hc5 (Rdr.num_len _); obtain ⟨r2, hr2⟩ : ∃ r, (r1.num 16) = r := ⟨_, rfl⟩; rw [hr2] at hst5 ⊢
  have hn16 : r2.1 ≤ 16 := by rw [← hr2]; exact Rdr.num_le 16
  obtain ⟨n2, r2⟩ := r2; have HS : Hid (ldS b = ldSv r2 [] n2) := hide (by unfold ldS; rw [HR1.out]; simp only []; rw [hr2]); have H5 := hide hst5; have HN16 := hide hn16; clear hr2 hro5 hc5 hst5 HN2 H4 hn16 c3 f3 hbs; go_wp2_with fail
  go_loopw [6, 21, 22, 23, 24, 25, 26, 27, 28, 29, 30, 31, 32, 33, 34, 35, 36, 37, 38] (fun _ ix _ _ _ _ _ _ _ _ _ _ _ _ _ _ _ _ _ wr => ∃ (k : Nat) (rk : Rdr) (L : List (Int × Int)), k ≤ n2 ∧ ix = .int .i64 k ∧ ldSv rk L (n2 - k) = ldS b ∧ L.length ≤ k ∧ LdSt K w wr no rb sb m1 m2 m3 rk ⟨L, [], [], nx⟩ [] []) (fun _ ix _ _ _ _ _ _ _ _ _ _ _ _ _ _ _ _ _ _ => n2 - (intOf ix).toNat)
  case atStart => exact ⟨0, r2, [], by omega, rfl, HS.out.symm, by simp, H5.out⟩
  case round =>
    obtain ⟨k, rk, L, hk, rfl, hld, hLk, hst⟩ := hrel; have HK := hide hst; have h16 := HN16.out
    by_cases hlt : k < n2
    · have i1 : (k : Int) < n2 := by omega
      have hs : ldSv rk L (n2 - k) = ldSv rk.list.2 (two1 rk.list.1 L) (n2 - (k + 1)) := by
        rw [show n2 - k = (n2 - (k + 1)) + 1 by omega]; rfl
      rw [hs] at hld; have HC := hide (vreadn_calls wr rb no rk hst.ro hst.ln); clear hs hst; have hm := list_mem rk; have hl6 := list_le rk; obtain ⟨l, hle⟩ : ∃ l, rk.list.1 = l := ⟨_, rfl⟩; unfold NumsOut at HC; rw [hle] at HC hm hl6 hld; have HLD := hd4 hld hm hl6 hLk; clear hle hld hm hl6 hLk; go_wp2_with fail; refine HC.out.mono ?_; rintro e w6 ⟨A6, c6, rfl, ho6, hro6, hc6⟩; have HK6 := hide (HK.out.reads hro6 hc6 (list_len _)); have HO6 := hide ho6.made; clear ho6 hro6 hc6 HC
      by_cases h2 : l.length = 2
      · obtain ⟨x, y, rfl⟩ : ∃ x y, l = [x, y] := two_of h2
        obtain ⟨bA, oA, eA, hbA, hcell⟩ := HO6.out.rd.2 (by simp [toI]); subst eA
        have y0 : ∀ w', Below w6.heap.size w6 w' → w'.cell? ⟨bA, oA, none⟩ = some (.int .i64 x) := fun w' hb => (hb.cell (p := ⟨bA, oA, none⟩) hbA).trans (hcell 0 _ rfl)
        have y1 : ∀ w', Below w6.heap.size w6 w' → w'.cell? ⟨bA, oA + 1, none⟩ = some (.int .i64 y) := fun w' hb => (hb.cell (p := ⟨bA, oA + 1, none⟩) hbA).trans (hcell 1 _ rfl)
        have s0 := HK6.out.vm.blk.rule 0 _ rfl; have r0 := Below.refl w6.heap.size w6
        have hx : i64ok (x : Int) := by have := HLD.out.2.1 x (by simp); unfold maxN at this; unfold i64ok; omega
        have HT := hide (HK6.out.below r0.drew); clear hcell h2; go_wp2_with fail
        refine region_lx (fun w' => Below w6.heap.size w6 w') [10] [2, 2, 2, 0, 2, 2, 0, 2, 2, 0, 3] (by (exact r0.drew)) (fun hS0 => ?_)
        (iterate 10 (first | refine lxt ?_ | refine lxp ?_))
        (refine lxn ?_; (refine Tab.wp_put (key := Prod.fst) (val := svVal) _ _ _ (((x : Int), (y : Int)) : Int × Int) rfl Tryz.underlying72 rfl rfl rfl HT.out.vm.t1 hx (by have h7 : L.length ≤ k := HLD.out.2.2.2; show L.length < 1000000; omega) ?_; intro w7 ht7 hch7); (try simp only [Act.put]))
        refine lxN ?_
        have HK7 := hide (HT.out.puts (HT.out.vm.put1 ht7 hch7) hch7 HT.out.vm.i1 (Ne.symm HT.out.rn.2.2.1) HT.out.lo.2.2.1); clear ht7 hch7 y0 y1 s0; go_wp2
        go_roundw
        case rel => exact ⟨k + 1, _, _, by omega, by go_num, HLD.out.1, ins_le1 HT.out.vm.t1.rise _ HLD.out.2.2.2, HK7.out⟩
        case measure => simp [intOf]; omega
      · have i2 : ¬ ((l.length : Int) = 2) := by omega
        have e2 : two1 l L = L := two_not h2; rw [e2] at HLD; go_wp2
        go_roundw
        case rel => exact ⟨k + 1, _, _, by omega, by go_num, HLD.out.1, by have := HLD.out.2.2.2; omega, HK6.out⟩
        case measure => simp [intOf]; omega
    · have e : k = n2 := by omega
      subst e; rw [Nat.sub_self] at hld; have HLS := hide (show ldS b = (L, rk) from hld.symm); have HLK := hide hLk; clear hld hLk hst hk hlt; have HN3 : Hid (Calls Tryz.prog 51 #[.pointer (some ⟨rb, 0, none⟩), .int .i64 64] wr _) := hide (rnum_calls wr rb no rk 64 HK.out.ro HK.out.ln (by decide)); go_wp2_with fail; refine HN3.out.mono ?_; rintro e w8 ⟨rfl, hro8, hc8⟩; have hst8 := HK.out.reads hro8 hc8 (Rdr.num_len _); obtain ⟨r3, hr3⟩ : ∃ r, (rk.num 64) = r := ⟨_, rfl⟩; rw [hr3] at hst8 ⊢
      have hn64 : r3.1 ≤ 64 := by rw [← hr3]; exact Rdr.num_le 64
      obtain ⟨Q, hQ⟩ : ∃ Q, ldVo r3.2 [] r3.1 = Q := ⟨_, rfl⟩; have HQ : Hid (ldVo ((ldS b).2.num 64).2 [] ((ldS b).2.num 64).1 = Q) := hide (by rw [HLS.out]; simp only []; rw [hr3]; exact hQ); have HLQ := hide hQ; obtain ⟨n3, r3⟩ := r3; have H8 := hide hst8; have HN64 := hide hn64; clear hr3 hro8 hc8 hst8 HN3 hn64 hQ; go_wp2_with fail
      go_loopw [7, 8, 9, 41, 42, 43, 44, 45, 46, 47, 48, 49, 50, 51, 52, 53, 54, 55, 56, 57, 58, 59, 60, 61, 62, 63, 64, 65, 66, 67, 68, 69, 70, 71, 72, 73, 74, 75, 76] (fun _ _ _ ix _ _ _ _ _ _ _ _ _ _ _ _ _ _ _ _ _ _ _ _ _ _ _ _ _ _ _ _ _ _ _ _ _ _ _ wr => ∃ (j : Nat) (rj : Rdr) (M : List Vo) (V : List VoM), j ≤ n3 ∧ ix = .int .i64 j ∧ ldVo rj M (n3 - j) = Q ∧ M.length ≤ j ∧ LdSt K w wr no rb sb m1 m2 m3 rj ⟨L, M, [], nx⟩ V []) (fun _ _ _ ix _ _ _ _ _ _ _ _ _ _ _ _ _ _ _ _ _ _ _ _ _ _ _ _ _ _ _ _ _ _ _ _ _ _ _ _ => n3 - (intOf ix).toNat)
      case atStart => exact ⟨0, r3, [], [], by omega, rfl, HLQ.out, by simp, H8.out⟩
      case round =>
        obtain ⟨j, rj, M, V, hj, rfl, hld, hMj, hst⟩ := hrel; have HJ := hide hst; have h64 := HN64.out
        by_cases hlt : j < n3
        · have i1 : (j : Int) < n3 := by omega
          rw [show n3 - j = (n3 - (j + 1)) + 1 by omega] at hld; have HC := hide (vreadn_calls _ rb no rj hst.ro hst.ln); have hm := list_mem rj; have hl6 := list_le rj; unfold ldVo at hld; obtain ⟨l, hle⟩ : ∃ l, rj.list.1 = l := ⟨_, rfl⟩; unfold NumsOut at HC; rw [hle] at HC hm hl6 hld; have HLD := hd4 hld hm hl6 hMj; clear hle hld hm hl6 hMj hst; go_wp2_with fail; refine HC.out.mono ?_; rintro e w9 ⟨A7, c7, rfl, ho7, hro7, hc9⟩; have HJ9 := hide (HJ.out.reads hro7 hc9 (list_len _)); have HO7 := hide (ho7.sl (no := no) (by unfold toI; rw [List.length_map]; have := HLD.out.2.2.1; omega) HJ.out.vm.lt); clear ho7 hro7 hc9 HC
          by_cases h7 : l.length ≤ 7
          · have i2 : (l.length : Int) ≤ 7 := by omega
            have hq : Q = none := by
              have := HLD.out.1; rw [voOf_short h7] at this
              exact this.symm
            have HE := hide (loadP_none2 (HQ.out.trans hq)); clear hq; go_wp2
            go_ret2
            rw [HE.out]
            exact ⟨HJ9.out.bw, rfl⟩
          · have i2 : ¬ ((l.length : Int) ≤ 7) := by omega
            have i3 : 8 ≤ l.length := by omega
            have i4 : l.length ≤ c7 := by have := HO7.out.le; unfold toI at this; rw [List.length_map] at this; exact this
            have i5 : l.length ≤ 512 := HLD.out.2.2.1; obtain ⟨bA, oA, eA, hbA, hcell⟩ := HO7.out.rd.2 (by unfold toI; rw [List.length_map]; omega); subst eA; clear h7; obtain ⟨a, b2, c2, p1, p2, p3, p4, h0, tl, hl⟩ := eight_of i3; have hv := voOf_eight a b2 c2 p1 p2 p3 p4 h0 tl; rw [← hl] at hv
            have hdr : toI (l.drop 7) = toI (h0 :: tl) := by rw [hl]; rfl
            have HF := hide (fun ok hok => from_four (p1 : Int) p2 p3 p4 (some ⟨bA, oA + 3, none⟩) (c7 - 3) w9 (reads_from hcell hbA hl) ok hok); have z0 := (hcell 0 (.int .i64 (a : Int)) (by rw [hl]; rfl)); have z1 := (hcell 1 (.int .i64 (b2 : Int)) (by rw [hl]; rfl)); have z2 := (hcell 2 (.int .i64 (c2 : Int)) (by rw [hl]; rfl)); rw [Nat.add_zero] at z0; have HZ := hd3 z0 z1 z2
            have hxa : i64ok (a : Int) := by have := HLD.out.2.1 a (by rw [hl]; simp); unfold maxN at this; unfold i64ok; omega
            have HV := hd3 hv hdr hxa; clear hcell hl hv hdr z0 z1 z2 hxa; obtain ⟨ok, hok⟩ : ∃ ok, right (p1 : Int) p2 p3 p4 = ok := ⟨_, rfl⟩; have HOK := hide hok; have hF := HF.out ok hok; clear HF hok; go_wp2_with fail
            refine hF.mono ?_
            rintro e wf ⟨rfl, hbf⟩; have HBF := hide hbf; clear hF hbf
            cases ok with
            | false =>
              have hq : Q = none := by
                have := HLD.out.1; rw [HV.out.1, HOK.out] at this
                exact this.symm
              have HE := hide (loadP_none2 (HQ.out.trans hq)); have HD := hide (HJ9.out.below HBF.out); clear hq; go_wp2
              go_ret2
              rw [HE.out]
              exact ⟨(HD.out.bw.trans (((Below.refl _ _).alloc (Nat.le_refl _) _).mono HD.out.bw.size)), rfl⟩
            | true =>
              go_wp2_with fail; obtain ⟨w0, hw0⟩ : ∃ w0, wf.alloc (.cells #[.int .i64 (p1 : Int), .int .i64 (p2 : Int), .int .i64 (p3 : Int), .int .i64 (p4 : Int)] 33) = w0 := ⟨_, rfl⟩
              have hb0 : Below w9.heap.size w9 w0 := hw0 ▸ HBF.out.alloc HBF.out.size _
              have d0 : Blk w0 wf.heap.size 33 [.int .i64 (p1 : Int), .int .i64 (p2 : Int), .int .i64 (p3 : Int), .int .i64 (p4 : Int)] := hw0 ▸ Blk.new rfl
              have x0 := d0.rule 0 _ rfl; have x1 := d0.rule 1 _ rfl; have x2 := d0.rule 2 _ rfl; have x3 := d0.rule 3 _ rfl
              have y0 : ∀ w', Below w0.heap.size w0 w' → w'.cell? ⟨bA, oA, none⟩ = some (.int .i64 (a : Int)) := fun w' hb => ((hb0.trans (hb.mono hb0.size)).cell (p := ⟨bA, oA, none⟩) hbA).trans HZ.out.1
              have y1 : ∀ w', Below w0.heap.size w0 w' → w'.cell? ⟨bA, oA + 1, none⟩ = some (.int .i64 (b2 : Int)) := fun w' hb => ((hb0.trans (hb.mono hb0.size)).cell (p := ⟨bA, oA + 1, none⟩) hbA).trans HZ.out.2.1
              have y2 : ∀ w', Below w0.heap.size w0 w' → w'.cell? ⟨bA, oA + 2, none⟩ = some (.int .i64 (c2 : Int)) := fun w' hb => ((hb0.trans (hb.mono hb0.size)).cell (p := ⟨bA, oA + 2, none⟩) hbA).trans HZ.out.2.2
              have HT0 := hide (HJ9.out.below hb0); have s1 := HT0.out.vm.blk.rule 1 _ rfl; have r0 := Below.refl w0.heap.size w0; have HT := hide (HT0.out.below r0.drew)
              have hM : V.length < 1000000 := by
                have h1 := HT0.out.vm.lenV; have h2 : M.length ≤ j := HLD.out.2.2.2; simp only [] at h1
                omega
              have HB0 := hide hb0; have hxa := HV.out.2.2
              have k0 : 0 < l.length := by omega
              have k1 : 1 < l.length := by omega
              have k2 : 2 < l.length := by omega
              have k7 : 7 ≤ l.length := by omega
              have k1' : (1 : Int) < l.length := by omega
              have k2' : (2 : Int) < l.length := by omega
              have k7' : (7 : Int) ≤ l.length := by omega
              rw [hw0]; clear hw0 hb0 d0
              refine region_lx (fun w' => Below w0.heap.size w0 w') [20] [2, 2, 2, 0, 2, 2, 0, 2, 2, 0, 2, 2, 0, 2, 2, 0, 0, 2, 2, 2, 3] (by (exact r0.drew)) (fun hS0 => ?_)
              (iterate 20 (first | refine lxt ?_ | refine lxp ?_))
              (refine lxn ?_; (refine Tab.wp_put (key := VoM.key) (val := VoM.val) _ _ _ (⟨⟨a, b2, ⟨p1, p2, p3, p4⟩, c2, toI (l.drop 7)⟩, some ⟨bA, oA + 7, none⟩, c7 - 7⟩ : VoM) rfl Tryz.underlying73 rfl rfl ?ev HT.out.vm.t2 hxa hM ?_; (case ev => (unfold VoM.val VoM.cells; dsimp only; rw [show (toI (l.drop 7)).length = l.length - 7 from by simp [toI]]; simp [Act.eval]; omega)); intro wg htg hchg); (try simp only [Act.put]))
              refine lxN ?_
              have hsl : Sl w9 no (some ⟨bA, oA + 7, none⟩) (c7 - 7) (toI (l.drop 7)) := by
                have := HO7.out.drop (A2 := some ⟨bA, oA + 7, none⟩) (k := 7) (by unfold toI; rw [List.length_map]; omega) (by rw [if_neg (by omega)]; rfl); unfold toI at this ⊢
                rwa [List.map_drop]
              have HKg := hide (HT.out.puts (HT.out.vm.setV htg hchg ((hsl.below HB0.out).below r0.drew)) hchg HT.out.vm.i2 (Ne.symm HT.out.rn.2.2.2.1) HT.out.lo.2.2.2.1)
              have hnx : ldVo rj.list.2 (ins Vo.id ⟨a, b2, ⟨p1, p2, p3, p4⟩, c2, toI (l.drop 7)⟩ M) (n3 - (j + 1)) = Q := by
                have := HLD.out.1; rw [HV.out.1, HOK.out, ← HV.out.2.1] at this
                exact this
              have HNX := hide hnx; have HRI := hide (show Rise Vo.id M from HT.out.vm.riseV); clear htg hchg hsl hnx x0 x1 x2 x3 y0 y1 y2 s1 hM; go_wp2
              go_roundw
              case rel => exact ⟨j + 1, _, _, _, by omega, by go_num, HNX.out, ins_le1 HRI.out _ HLD.out.2.2.2, HKg.out⟩
              case measure => simp [intOf]; omega
        · have e : j = n3 := by omega
          subst e; rw [Nat.sub_self] at hld; have HQ2 := hide (loadP_some2 (HQ.out.trans hld.symm)); have HQ3 := hide (HQ.out.trans hld.symm); have HMj := hide hMj; clear hld hMj hst hj hlt; have HN4 : Hid (Calls Tryz.prog 51 #[.pointer (some ⟨rb, 0, none⟩), .int .i64 4611686018427387904] _ _) := hide (rnum_calls _ rb no rj maxN HJ.out.ro HJ.out.ln (by decide)); go_wp2_with fail; refine HN4.out.mono ?_; rintro e wh ⟨rfl, hroh, hch⟩; have hsth := HJ.out.reads hroh hch (Rdr.num_len _); have hn4 : (rj.num maxN).1 ≤ maxN := Rdr.num_le maxN; obtain ⟨r4, hr4⟩ : ∃ r, (rj.num maxN) = r := ⟨_, rfl⟩; rw [hr4] at hsth hn4 ⊢; obtain ⟨Q4, hQ4⟩ : ∃ Q, ldCk r4.2 [] r4.1 = Q := ⟨_, rfl⟩; have HQ4 : Hid (ldCk (rj.num maxN).2 [] (rj.num maxN).1 = Q4) := hide (by rw [hr4]; exact hQ4); have HLQ4 := hide hQ4; obtain ⟨n4, r4⟩ := r4; have Hh := hide hsth; have HN4b := hide hn4; clear hr4 hroh hch hsth HN4 hn4 hQ4; go_wp2_with fail
          go_loopw [10, 79, 80, 81, 82, 83, 84, 85, 86, 87, 88, 89, 90, 91, 92, 93, 94, 95, 96, 97, 98, 99, 100, 101, 102, 103, 104, 105, 106, 107, 108, 109, 110, 111, 112] (fun _ ix _ _ _ _ _ _ _ _ _ _ _ _ _ _ _ _ _ _ _ _ _ _ _ _ _ _ _ _ _ _ _ _ _ wr => ∃ (q : Nat) (rq : Rdr) (N : List Ck) (C : List CkM), q ≤ n4 ∧ ix = .int .i64 q ∧ ldCk rq N (n4 - q) = Q4 ∧ N.length + rq.b.length ≤ 1000000 ∧ LdSt K w wr no rb sb m1 m2 m3 rq ⟨L, M, N, nx⟩ V C) (fun _ ix _ _ _ _ _ _ _ _ _ _ _ _ _ _ _ _ _ _ _ _ _ _ _ _ _ _ _ _ _ _ _ _ _ _ => n4 - (intOf ix).toNat)
          case atStart => exact ⟨0, r4, [], [], by omega, rfl, HLQ4.out, by simpa using Hh.out.ln, Hh.out⟩
          case round =>
            obtain ⟨q, rq, N, C, hq, rfl, hld, hNl, hst⟩ := hrel; have HJ := hide hst; have h4 := HN4b.out; unfold maxN at h4
            by_cases hlt : q < n4
            · have i1 : (q : Int) < n4 := by omega
              rw [show n4 - q = (n4 - (q + 1)) + 1 by omega] at hld; have HC := hide (vreadn_calls _ rb no rq hst.ro hst.ln); have hm := list_mem rq; unfold ldCk at hld; obtain ⟨l, hle⟩ : ∃ l, rq.list.1 = l := ⟨_, rfl⟩; unfold NumsOut at HC
              have hless := fun he => list_less (r := rq) he hst.ro.ok
              rw [hle] at HC hm hld
              have h512 : l.length ≤ 512 := hle ▸ list_le rq
              have HLD := hd4 hld hm hNl hless; clear hle hld hm hNl hst hless; go_wp2_with fail; refine HC.out.mono ?_; rintro e wk ⟨A9, c9, rfl, ho9, hro9, hc9⟩; have hJ9 := HJ.out.reads hro9 hc9 (list_len _); have ho9sl := ho9.sl (no := no) (by unfold toI; rw [List.length_map]; omega) HJ.out.vm.lt; have HER := hide (rerr_calls wk rb no rq.list.2 hJ9.ro); have HJ9 := hide hJ9; clear ho9 hro9 hc9 HC hJ9; obtain ⟨rl, hrl⟩ : ∃ rl, rq.list.2 = rl := ⟨_, rfl⟩; rw [hrl] at HER HJ9 HLD
              by_cases he : rl.e = 0
              · have i2 : (rl.e : Int) = 0 := by omega
                go_wp2_with fail; refine HER.out.mono ?_; rintro e wl ⟨rfl, hbl⟩; have HJL := hide (HJ9.out.below hbl); have HSL9 := hide (ho9sl.below hbl)
                by_cases h3 : l.length = 3
                · obtain ⟨x, y, z, rfl⟩ := three_of h3
                  obtain ⟨bA, oA, eA, hbA, hcell⟩ := HSL9.out.rd.2 (by simp [toI])
                  have hnA : bA ∉ [rb] := by
                    intro hx
                    have e : bA = rb := by simpa using hx
                    exact (HSL9.out.ap _ eA).2.1 (by show bA ∈ no; rw [e]; exact HJL.out.rn.1)
                  subst eA
                  have y0 : ∀ w', Chg [rb] wl w' → w'.cell? ⟨bA, oA, none⟩ = some (.int .i64 (x : Int)) := fun w' hb => (hb.cell (p := ⟨bA, oA, none⟩) hbA hnA).trans (hcell 0 _ rfl)
                  have y1 : ∀ w', Chg [rb] wl w' → w'.cell? ⟨bA, oA + 1, none⟩ = some (.int .i64 (y : Int)) := fun w' hb => (hb.cell (p := ⟨bA, oA + 1, none⟩) hbA hnA).trans (hcell 1 _ rfl)
                  have y2 : ∀ w', Chg [rb] wl w' → w'.cell? ⟨bA, oA + 2, none⟩ = some (.int .i64 (z : Int)) := fun w' hb => (hb.cell (p := ⟨bA, oA + 2, none⟩) hbA hnA).trans (hcell 2 _ rfl)
                  have s2 := HJL.out.vm.blk.ruleC (no := [rb]) (by simpa using Ne.symm HJL.out.rn.2.1) 2 _ rfl; have r0 := Below.refl wl.heap.size wl
                  have hx : i64ok (x : Int) := by have := HLD.out.2.1 x (by simp); unfold maxN at this; unfold i64ok; omega
                  have HRN1 := hide (HJL.out.readn)
                  have hN : C.length < 1000000 := by
                    have h1 := HJL.out.vm.lenC; have h2 := HLD.out.2.2.1; have h3 := HLD.out.2.2.2 he; simp only [] at h1
                    omega
                  clear hcell hbA hnA h3; go_wp2_with fail
                  refine region_lxf (fun w' => Chg [rb] wl w') [21] 0 [(2,0),(2,1),(2,2),(0,3),(2,4),(2,5),(0,6),(2,7),(2,8),(0,9),(2,10),(2,11),(0,12),(2,13),(2,14),(0,15),(2,16),(2,18),(1,17),(1,19),(2,20),(3,21)] (bzA 22 4194303) (by (first | exact Chg.of_below r0.drew | assumption)) (fun hS0 => ?_)
                  (iterate 18 (first | refine lxt ?_ | refine lxp ?_))
                  (refine lxe ?_; go_simp; (first
                                            | (go_at_call 52; refine (HRN2.out _ (by first | exact Below.refl _ _ | exact (Below.refl _ _).drew)).mono ?_; rintro e wn ⟨A2, d2, rfl, ho2, hst2, hch2⟩; have HS2 := hide hst2; have HO2 := hide ho2; have HCH2 := hide hch2; have hcn : Chg [rb] wl wn := HCH1.out.trans hch2 (fun x hx => Or.inl hx); clear ho2 hst2 hch2)
                                            | (go_at_call 52; refine (HRN1.out _ (by first | exact r0 | exact r0.drew)).mono ?_; rintro e wm ⟨A1, d1, rfl, ho1, hst1, hch1⟩; have HS1 := hide hst1; have HO1 := hide ho1; have HCH1 := hide hch1; have HRN2 := hide hst1.readn; have hcm := hch1; clear ho1 hst1 hch1)); refine lxB (by (first | exact Chg.of_below r0.drew | assumption)) (fun hS1 => ?_))
                  (refine lxe ?_; go_simp; (first
                                            | (go_at_call 52; refine (HRN2.out _ (by first | exact Below.refl _ _ | exact (Below.refl _ _).drew)).mono ?_; rintro e wn ⟨A2, d2, rfl, ho2, hst2, hch2⟩; have HS2 := hide hst2; have HO2 := hide ho2; have HCH2 := hide hch2; have hcn : Chg [rb] wl wn := HCH1.out.trans hch2 (fun x hx => Or.inl hx); clear ho2 hst2 hch2)
                                            | (go_at_call 52; refine (HRN1.out _ (by first | exact r0 | exact r0.drew)).mono ?_; rintro e wm ⟨A1, d1, rfl, ho1, hst1, hch1⟩; have HS1 := hide hst1; have HO1 := hide ho1; have HCH1 := hide hch1; have HRN2 := hide hst1.readn; have hcm := hch1; clear ho1 hst1 hch1)); refine lxB (by (first | exact Chg.of_below r0.drew | assumption)) (fun hS1 => ?_))
                  refine lxp ?_
                  (refine lxn ?_; (refine Tab.wp_put (key := CkM.key) (val := CkM.val) _ _ _ (⟨⟨x, y, z, toI rl.list.1, toI rl.list.2.list.1⟩, A1, d1, A2, d2⟩ : CkM) rfl Tryz.underlying74 rfl rfl rfl HS2.out.vm.t3 hx hN ?_; intro wo hto hcho); (try simp only [Act.put]))
                  refine lxN (lxd ?_)
                  have hs1 : Sl wn no A1 d1 (toI rl.list.1) := (HO1.out.sl (by unfold toI; rw [List.length_map]; have := list_le rl; omega) HJL.out.vm.lt).chg HCH2.out (fun x hx => by
                    have e : x = rb := by simpa using hx
                    exact Or.inl (e ▸ HJL.out.rn.1))
                  have hs2 : Sl wn no A2 d2 (toI rl.list.2.list.1) := HO2.out.sl (by unfold toI; rw [List.length_map]; have := list_le rl.list.2; omega) HS1.out.vm.lt; have HKg := hide (HS2.out.puts (HS2.out.vm.setC hto hcho ⟨hs1, hs2⟩) hcho HS2.out.vm.i3 (Ne.symm HS2.out.rn.2.2.2.2) HS2.out.lo.2.2.2.2)
                  have hnx : ldCk rl.list.2.list.2 (ins Ck.id ⟨x, y, z, toI rl.list.1, toI rl.list.2.list.1⟩ N) (n4 - (q + 1)) = Q4 := by
                    have := HLD.out.1; rw [if_pos he] at this
                    exact this
                  have HNX := hide hnx
                  have HLE : Hid ((ins Ck.id (⟨x, y, z, toI rl.list.1, toI rl.list.2.list.1⟩ : Ck) N).length + rl.list.2.list.2.b.length ≤ 1000000) := hide (by
                    have h1 := ins_le1 (k := N.length) (show Rise Ck.id N from HS2.out.vm.riseC) (⟨x, y, z, toI rl.list.1, toI rl.list.2.list.1⟩ : Ck) (Nat.le_refl _); have h2 := HLD.out.2.2.1; have h3 := HLD.out.2.2.2 he; have h4 := list_len rl; have h5 := list_len rl.list.2
                    omega)
                  clear hto hcho hs1 hs2 hnx y0 y1 y2 s2 hN hcm hcn HRN1 HRN2 HO1 HO2 HCH1 HCH2 HS1 HS2; go_wp2
                  go_roundw
                  case rel => exact ⟨q + 1, _, _, _, by omega, by go_num, HNX.out, HLE.out, HKg.out⟩
                  case measure => simp [intOf]; omega
                · have i5 : ¬ ((l.length : Int) = 3) := by omega
                  have hqn : Q4 = none := by
                    have := HLD.out.1; rw [if_pos he] at this; rw [← this]
                    exact three_not h3
                  have HE := hide (HQ2.out.trans (ld3_none (HQ4.out.trans hqn))); clear hqn; go_wp2
                  go_ret2
                  rw [HE.out]
                  exact ⟨HJL.out.bw, rfl⟩
              · have i2 : ¬ ((rl.e : Int) = 0) := by omega
                have hqn : Q4 = none := by
                  have := HLD.out.1; rw [if_neg he] at this
                  exact this.symm
                have HE := hide (HQ2.out.trans (ld3_none (HQ4.out.trans hqn))); go_wp2_with fail; refine HER.out.mono ?_; rintro e wl ⟨rfl, hbl⟩; have HD := hide (HJ9.out.below hbl); clear hqn hbl; go_wp2
                go_ret2
                rw [HE.out]
                exact ⟨HD.out.bw, rfl⟩
            · have e : q = n4 := by omega
              subst e; rw [Nat.sub_self] at hld; have hE := HQ2.out.trans (ld3_some (HQ4.out.trans hld.symm)); have hBy := HL.out.2 _ _ _ _ HQ3.out (HQ4.out.trans hld.symm); rw [HLS.out, HR1.out] at hE hBy; simp only [] at hE hBy; have HE := hide hE; have HBy := hide hBy; have HEN := hide (rend_calls _ rb no rq hst.ro); clear hE hBy hld hNl hq hlt hst; obtain ⟨S, hS⟩ : ∃ S : Vst, (⟨L, M, N, (nx : Int)⟩ : Vst) = S := ⟨_, rfl⟩; rw [hS] at HE HBy HJ
              by_cases hf : rq.fin = 0
              · have i2 : (rq.fin : Int) = 0 := by omega
                go_wp2_with fail; refine HEN.out.mono ?_; rintro e wp ⟨rfl, hrop, hcp⟩; have HJp := hide (HJ.out.reads hrop hcp (Nat.le_refl _)); have HVB := hide (vbytes_calls wp no sb m1 m2 m3 S V C HJp.out.vm (HBy.out hf)); clear hrop hcp HEN; go_wp2_with fail; refine HVB.out.mono ?_; rintro e wq ⟨A5, d5, rfl, ho5, hb5⟩; have HJq := hide (HJp.out.below hb5); have hr5 := (ho5.rb (no := []) (by simp)).rd; have hEq := hide (equalBytes_calls S.bytes b A5 A d5 c wq hr5 ((HR.out.below HJq.out.bw).more HJq.out.bw.size) (by have := (HBy.out hf).len; omega) (by have := HL.out.1; omega)); clear ho5 hb5 hr5 HVB; go_wp2_with fail; refine hEq.out.mono ?_; rintro e ws ⟨rfl, nd, rfl⟩; have HJs := hide (HJq.out.below (below_drewN (Below.refl _ _) nd))
                by_cases hbs : S.bytes = b
                · have i3 : decide (S.bytes = b) = true := decide_eq_true hbs
                  rw [i3]; go_wp2
                  go_ret2
                  rw [HE.out, if_pos ⟨hf, hbs⟩]
                  exact ⟨HJs.out.bw, no, sb, m1, m2, m3, V, C, rfl, HJs.out.vm, HJs.out.kk, HJs.out.lo.2.1⟩
                · have i3 : decide (S.bytes = b) = false := decide_eq_false hbs
                  rw [i3]; go_wp2
                  go_ret2
                  rw [HE.out, if_neg (fun h => hbs h.2)]
                  exact ⟨HJs.out.bw, rfl⟩
              · have i2 : ¬ ((rq.fin : Int) = 0) := by omega
                go_wp2_with fail; refine HEN.out.mono ?_; rintro e wp ⟨rfl, hrop, hcp⟩; have HJp := hide (HJ.out.reads hrop hcp (Nat.le_refl _)); clear hrop hcp HEN; go_wp2
                go_ret2
                rw [HE.out, if_neg (fun h => hf h.1)]
                exact ⟨HJp.out.bw, rfl⟩

theorem cat_len {α : Type} {f : α → List Nat} {m : Nat} : ∀ {L : List α}, (∀ x ∈ L, (f x).length ≤ m) → (cat f L).length ≤ L.length * m
 |[], _ => by simp [cat]
 |x :: t, h => by
  have h1 := h x (by simp); have h2 := cat_len (L := t) (fun y hy => h y (List.mem_cons_of_mem _ hy)); unfold cat; rw [List.length_append, List.length_cons, Nat.add_mul]
  omega
def VoB (v : Vo) : Prop := (v.id < 2 ^ 63 ∧ v.bl < 2 ^ 63 ∧ v.ver < 2 ^ 63 ∧ v.p.r < 2 ^ 63 ∧ v.p.w < 2 ^ 63 ∧ v.p.l < 2 ^ 63 ∧ v.p.b < 2 ^ 63) ∧ v.ch ≠ [] ∧ v.ch.length ≤ 512 ∧ ∀ x ∈ v.ch, x < 2 ^ 63
def CkB (c : Ck) : Prop := (c.id < 2 ^ 63 ∧ c.vol < 2 ^ 63 ∧ c.ep < 2 ^ 63) ∧ ((∀ x ∈ c.me, x < 2 ^ 63) ∧ ∀ x ∈ c.jo, x < 2 ^ 63) ∧ c.me.length ≤ 512 ∧ c.jo.length ≤ 512
theorem bytes_le (S : Vst) (a b c : Nat) (ha : S.sv.length ≤ 16) (hb : S.vs.length ≤ a) (hc : S.cs.length ≤ b) (hv : ∀ v ∈ S.vs, v.ch.length ≤ c) (m : Nat) (hk : ∀ k ∈ S.cs, k.me.length + k.jo.length ≤ m) (hs : ∀ n ∈ S.ser, n < 2 ^ 63) : S.bytes.length ≤ 9 * (52 + a * (8 + c) + b * (6 + m)) := by
 have h1 := encs_len S.ser hs; have h2 : (cat svNums S.sv).length ≤ S.sv.length * 3 := cat_len (fun x _ => by simp [svNums, lst])
 have h3 : (cat (fun v => lst (Vo.nums v)) S.vs).length ≤ S.vs.length * (8 + c) := cat_len (fun x hx => by
  have := hv x hx
  simp [Vo.nums, lst, toN]; omega)
 have h4 : (cat Ck.nums S.cs).length ≤ S.cs.length * (6 + m) := cat_len (fun x hx => by
  have := hk x hx
  simp [Ck.nums, lst, toN]; omega)
 have h5 : S.ser.length = 2 + (cat svNums S.sv).length + 1 + (cat (fun v => lst (Vo.nums v)) S.vs).length + 1 + (cat Ck.nums S.cs).length := by
  unfold Vst.ser; simp only [List.length_append, List.length_cons, List.length_nil]
 have h6 := Nat.mul_le_mul_right (8 + c) hb; have h7 := Nat.mul_le_mul_right (6 + m) hc; unfold Vst.bytes
 omega
theorem cat_mem {α : Type} {f : α → List Nat} {n : Nat} : ∀ {L : List α}, n ∈ cat f L → ∃ x ∈ L, n ∈ f x
 |[], h => by simp [cat] at h
 |x :: t, h => by
  unfold cat at h
  rcases List.mem_append.1 h with h | h
  ·exact ⟨x, by simp, h⟩
  ·obtain ⟨y, hy, hn⟩ := cat_mem h
   exact ⟨y, List.mem_cons_of_mem _ hy, hn⟩
theorem toN_lt {l : List Int} (h : ∀ x ∈ l, x < 2 ^ 63) : ∀ n ∈ toN l, n < 2 ^ 63 := by
 intro n hn
 obtain ⟨x, hx, rfl⟩ := List.mem_map.1 hn; have := h x hx
 omega
theorem ser_lt {S : Vst} (nx : S.nx < 2 ^ 63) (ls : S.sv.length ≤ 1000) (lv : S.vs.length ≤ 1000) (lc : S.cs.length ≤ 1000000) (sv : ∀ x ∈ S.sv, x.1 < 2 ^ 63 ∧ x.2 < 2 ^ 63) (vs : ∀ v ∈ S.vs, VoB v) (cs : ∀ c ∈ S.cs, CkB c) : ∀ n ∈ S.ser, n < 2 ^ 63 := by
 intro n hn
 unfold Vst.ser at hn; simp only [List.mem_append, List.mem_cons, List.not_mem_nil, or_false] at hn
 rcases hn with (((((rfl | rfl) | hn) | rfl) | hn) | rfl) | hn
 ·omega
 ·omega
 ·obtain ⟨x, hx, h⟩ := cat_mem hn
  have := sv x hx
  simp [svNums, lst] at h
  omega
 ·omega
 ·obtain ⟨v, hv, h⟩ := cat_mem hn
  obtain ⟨h1, h2, h3, h4⟩ := vs v hv
  rcases List.mem_cons.1 h with rfl | h
  ·simp [Vo.nums, toN]; omega
  ·unfold Vo.nums at h
   rcases List.mem_append.1 h with h | h
   ·simp at h; omega
   ·exact toN_lt h4 n h
 ·omega
 ·obtain ⟨c, hc, h⟩ := cat_mem hn
  obtain ⟨h1, ⟨h2, h3⟩, h4, h5⟩ := cs c hc; unfold Ck.nums at h; simp only [List.mem_append] at h
  rcases h with (h | h) | h
  ·simp [lst] at h; omega
  ·rcases List.mem_cons.1 h with rfl | h
   ·simp [toN]; omega
   ·exact toN_lt h2 n h
  ·rcases List.mem_cons.1 h with rfl | h
   ·simp [toN]; omega
   ·exact toN_lt h3 n h
theorem bytOk_of {S : Vst} (nx : S.nx < 2 ^ 63) (ls : S.sv.length ≤ 16) (lv : S.vs.length ≤ 64) (lc : S.cs.length ≤ 1000000) (sv : ∀ x ∈ S.sv, x.1 < 2 ^ 63 ∧ x.2 < 2 ^ 63) (vs : ∀ v ∈ S.vs, VoB v) (cs : ∀ c ∈ S.cs, CkB c) (hl : S.bytes.length ≤ 800000) : BytOk S :=
 ⟨nx, by omega, by omega, lc, sv, fun v hv => ⟨(vs v hv).1, (vs v hv).2.1, by have := (vs v hv).2.2.1; omega, (vs v hv).2.2.2⟩, fun c hc => ⟨(cs c hc).1, (cs c hc).2.1.1, (cs c hc).2.1.2⟩, hl⟩
theorem ldOk_ser {S : Vst} (h : SerOk S) (hB : BytOk S) : LdOk S.bytes := by
 intro V r3 C r4 h1 h2 h3
 have e := loadP_ser h; rw [loadP_some2 h1, ld3_some h2] at e
 split at e
 ·injection e with e
  rw [e]; exact hB
 ·cases e
theorem VOk.byt {S : Vst} {n : Nat} (ok : VOk S n) (h : SerOk S) (hn : n ≤ 60) : BytOk S := by
 obtain ⟨l1, l2, l3, l4⟩ := ok.lens (by omega); have e : (maxN : Int) = 4611686018427387904 := rfl; have hx2 := ok.nx2; have hC := rise_len (a := 1) (b := S.nx) ok.csr (fun x hx => by have := ok.csa x hx; omega)
 have sv : ∀ x ∈ S.sv, x.1 < 2 ^ 63 ∧ x.2 < 2 ^ 63 := fun x hx => by have := h.sv x hx; omega
 have vs : ∀ v ∈ S.vs, VoB v := fun v hv => by
  obtain ⟨k1, k2, k3, k4, k5⟩ := h.vs v hv; have k6 := right_iff.1 k2
  exact ⟨by omega, k3, by omega, fun x hx => by have := k5 x hx; omega⟩
 have cs : ∀ c ∈ S.cs, CkB c := fun c hc => by
  obtain ⟨k1, k2, k3, k4, k5⟩ := h.cs c hc
  exact ⟨by omega, ⟨fun x hx => by have := k4 x hx; omega, fun x hx => by have := k5 x hx; omega⟩, k2, k3⟩
 have hnx : S.nx < 2 ^ 63 := by omega
 have hc2 : S.cs.length ≤ 3840 := by omega
 refine bytOk_of hnx l1 l2 (by omega) sv vs cs ?_
 have := bytes_le S 64 3840 64 l1 l2 hc2 (fun v hv => by have := ok.vsa v hv; omega) 4 (fun k hk => by have := ok.csa k hk; omega) (ser_lt hnx (by omega) (by omega) (by omega) sv vs cs)
 omega
end Go.Proofs.YtcahcjfgmdpdoaaGreat
