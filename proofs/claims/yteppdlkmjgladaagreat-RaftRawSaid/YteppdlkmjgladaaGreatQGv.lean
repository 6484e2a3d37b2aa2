/- One text of: Gv. -/
import Derived.Test.YteppdlkmjgladaaGreatQGu
namespace Go.Proofs.YteppdlkmjgladaaGreat
open Go.RowKit Go.Proofs Go.Maps
set_option linter.unusedVariables false
set_option linter.unusedSimpArgs false
theorem zA42 {α : Type} (l : List α) (i : Nat) (a : α) : l.toArray.setIfInBounds i a = (l.set i a).toArray := by simp
theorem zB42 {α : Type} (x a : α) (l : List α) : (x :: l).set 0 a = a :: l := rfl
theorem zC42 {α : Type} (x a : α) (l : List α) (n : Nat) : (x :: l).set (n + 1) a = x :: l.set n a := rfl

section
variable {W w w' w0 w1 w2 : World} {nb u j g p : Nat} {q q1 q' : Gl} {G G1 : Gd} {b o : Nat}
theorem lg_termX {p : Nat} {base term : Int} {L : List Con} {F : List Nat} (h : LG w p base term L F) (h0 : 0 ≤ base) (h1 : base ≤ 4611686018426339328) {i : Int} (hi : -1 ≤ i ∧ i ≤ 4611686018426339328) :
  Calls Tryz.prog 47 #[.pointer (some ⟨p, 0, none⟩), .int .i64 i] w fun e w' => ∃ t is, e = .returned (.tuple #[.int .i64 t, .bool is]) ∧ (is = true → ∃ k : Nat, k ≤ L.length ∧ i = base + k ∧ termC base term L k = (t, true)) ∧ ∃ n, w' = w.drewN n := by
 obtain ⟨A, cap, es, hl, rfl, rfl⟩ := h
 refine (term_calls p A cap base term es i w hl h0 (by omega) (by omega) (by omega)).mono ?_
 rintro e w' ⟨rfl, hd⟩
 refine ⟨_, _, rfl, fun hs => ?_, hd⟩
 have hk : ∃ k : Nat, k ≤ es.length ∧ i = base + k := by
  by_cases hb : i = base
  ·exact ⟨0, by omega, by omega⟩
  ·cases hh : hasL base es.length i with
   |true => have := hasL_iff.1 hh; exact ⟨(i - base).toNat, by omega, by omega⟩
   |false => rw [termL_out hb hh] at hs; cases hs
 obtain ⟨k, hk1, rfl⟩ := hk
 refine ⟨k, by rw [cons_length]; exact hk1, rfl, ?_⟩
 rw [← termC_eq]
 rw [← hs]
set_option maxHeartbeats 8000000 in
set_option maxRecDepth 100000 in
theorem ginstall_calls (h : GP w nb q G) (hA : GA W w nb q) (hi : GI u G) (hu : u ≤ 860) (hV : VltOk G.m.V g) (hg : g + 4398046511104 < 2 ^ 60) (fr : Int) (hfr : 0 ≤ fr ∧ fr ≤ 15) (k n0 : Int) (n1 n2 : Nat) (hn1 : n1 ≤ 549755813888) (hn2 : n2 ≤ 549755813888) (hn : NU W b o [n0, n1, n2]) (c1 : Nat) {A2 : Option Addr} {B : List Nat} {c2 : Nat} (hB : TB W A2 B) (hBc : B.length ≤ c2) (A3 : Option Addr) (m3 c3 : Nat) (hm3 : m3 ≤ 10) (hL : LB W A3 m3) :
  Calls Tryz.prog 55 #[.pointer (some ⟨nb, 0, none⟩), .int .i64 fr, .agg #[.int .i64 k, .slice (some ⟨b, o, none⟩) 3 c1, .slice A2 B.length c2, .slice A3 m3 c3]] w fun e w' => e = .returned (.tuple #[]) ∧ GW w w' nb q G (u + 3) (g + 2199023255552) := by
 obtain ⟨w0, hw0⟩ : ∃ w0, w.alloc (.cells #[.int .i64 k, .slice (some ⟨b, o, none⟩) 3 c1, .slice A2 B.length c2, .slice A3 m3 c3] 52) = w0 := ⟨_, rfl⟩
 obtain ⟨xb, hxb⟩ : ∃ xb, w.heap.size = xb := ⟨_, rfl⟩
 have hb0 : Below w.heap.size w w0 := hw0 ▸ belowL (Below.refl _ _) _
 have bX : Blk w0 xb 52 [.int .i64 k, .slice (some ⟨b, o, none⟩) 3 c1, .slice A2 B.length c2, .slice A3 m3 c3] := by rw [← hw0, ← hxb]; exact Blk.new rfl
 have h0 := h.below hb0
 have r0 := Below.refl w0.heap.size w0
 have x1 := bX.rule 1 _ rfl
 have x3 := bX.rule 3 _ rfl
 have y3 := h0.blk.rule 3 _ rfl
 have hA0 := hA.low hb0
 have p0 : ∀ w', Below w0.heap.size w0 w' → w'.cell? ⟨b, o, none⟩ = some (.int .i64 n0) := fun w' hb => hn.at_ hA0.be hb 0 rfl
 have HW := hide (And.intro hw0 hxb)
 have hxq : xb ∉ gt nb q := fun hx => by have := h.lt xb (List.mem_append_left _ hx); omega
 have HST : Hid (∀ w', Below w0.heap.size w0 w' → GW w w' nb q G (u + 3) (g + 2199023255552)) := hide (fun w' hb => GW.stay h (hi.up (show u ≤ u + 3 by omega)) (hV.up (by omega)) (belowA hb hb0))
 have H := hide (And.intro h0 (And.intro hb0 (And.intro hi (And.intro hV (And.intro hg (And.intro hfr (And.intro hn (And.intro hA0 (And.intro bX (And.intro hxq (And.intro hB (And.intro hBc hL))))))))))))
 clear h h0 hA hi hV hg hfr hn hb0 bX hA0 hw0 hxb hxq hB hBc hL
 rcases (show n0 < G.bt ∨ (¬ n0 < G.bt ∧ m3 ≠ 1) ∨ (¬ n0 < G.bt ∧ m3 = 1) by omega) with hc | hc | hc
 ·have u1 : decide (n0 < G.bt) = true := decide_eq_true hc
  clear hc
  go_enter Tryz.func55, Tryz.ntmps55
  go_upto_region 1 with fail
  (try rw [HW.out.1])
  (try rw [HW.out.2])
  refine lxR (fun w' => Below w0.heap.size w0 w') [] 0 [(2, 0), (0, 1), (2, 2), (0, 3), (2, 4), (2, 5), (2, 6), (2, 7), (0, 8), (2, 9), (2, 10), (2, 11), (0, 12), (2, 13), (2, 14), (2, 15)] #[true, true, true, true, true, true, true, true, true, true, true, true, true, true, true, true] (by kernel_rfl) (by kernel_rfl) (by decide) (by kernel_rfl) (by kernel_rfl) (fun _ _ _ _ _ h => h) (by (exact r0.drew)) (fun hS0 => ?_)
  simp only [List.map_cons, List.map_nil, List.getElem?_toArray, List.getElem?_cons_succ, List.getElem?_cons_zero]
  (apply lxP (by rfl); (focus (intro w; go_simp; (try with_reducible rfl); done)); simp only [Act.put, zA42, zB42, zC42]); (apply lxT (by rfl); (focus (intro w hw; (try dsimp only at hw); go_simp; (try with_reducible rfl); done)); simp only [Act.put, zA42, zB42, zC42]); (apply lxP (by rfl); (focus (intro w; go_simp; (try with_reducible rfl); done)); simp only [Act.put, zA42, zB42, zC42]); (apply lxT (by rfl); (focus (intro w hw; (try dsimp only at hw); go_simp; (try with_reducible rfl); done)); simp only [Act.put, zA42, zB42, zC42]); (iterate 4 ((apply lxP (by rfl); (focus (intro w; go_simp; (try with_reducible rfl); done)); simp only [Act.put, zA42, zB42, zC42]))); (apply lxT (by rfl); (focus (intro w hw; (try dsimp only at hw); go_simp; (try with_reducible rfl); done)); simp only [Act.put, zA42, zB42, zC42]); (iterate 2 ((apply lxP (by rfl); (focus (intro w; go_simp; (try with_reducible rfl); done)); simp only [Act.put, zA42, zB42, zC42]))); (first | (apply lxP (by rfl); (focus (intro w; go_simp; (try with_reducible rfl); done)); simp only [Act.put, zA42, zB42, zC42]) | (refine lxQ (by rfl) ?_; simp only [Act.put, zA42, zB42, zC42])); (first | (apply lxT (by rfl); (focus (intro w hw; (try dsimp only at hw); go_simp; (try with_reducible rfl); done)); simp only [Act.put, zA42, zB42, zC42]) | (refine lxS (by rfl) ?_; simp only [Act.put, zA42, zB42, zC42])); (iterate 2 (first | (apply lxP (by rfl); (focus (intro w; go_simp; (try with_reducible rfl); done)); simp only [Act.put, zA42, zB42, zC42]) | (refine lxQ (by rfl) ?_; simp only [Act.put, zA42, zB42, zC42]))); (apply lxP (by rfl); (focus (intro w; go_simp; (try with_reducible rfl); done)); simp only [Act.put, zA42, zB42, zC42])
  refine lxN (fun _ => wqD (by kernel_rfl) ?_ _)
  clear x1 x3 y3 p0 hS0
  go_wp2
  refine bodyPost_ret (results_none rfl _ _ _) rfl ?_
  exact ⟨rfl, HST.out _ r0.drew⟩
 ·have u1 : decide (n0 < G.bt) = false := decide_eq_false hc.1
  have u2 : ((m3 : Int) != 1) = true := by simp; omega
  clear hc
  go_enter Tryz.func55, Tryz.ntmps55
  go_upto_region 1 with fail
  (try rw [HW.out.1])
  (try rw [HW.out.2])
  refine lxR (fun w' => Below w0.heap.size w0 w') [] 0 [(2, 0), (0, 1), (2, 2), (0, 3), (2, 4), (2, 5), (2, 6), (2, 7), (0, 8), (2, 9), (2, 10), (2, 11), (0, 12), (2, 13), (2, 14), (2, 15)] #[true, true, true, true, true, true, true, true, true, true, true, true, true, true, true, true] (by kernel_rfl) (by kernel_rfl) (by decide) (by kernel_rfl) (by kernel_rfl) (fun _ _ _ _ _ h => h) (by (exact r0.drew)) (fun hS0 => ?_)
  simp only [List.map_cons, List.map_nil, List.getElem?_toArray, List.getElem?_cons_succ, List.getElem?_cons_zero]
  (apply lxP (by rfl); (focus (intro w; go_simp; (try with_reducible rfl); done)); simp only [Act.put, zA42, zB42, zC42]); (apply lxT (by rfl); (focus (intro w hw; (try dsimp only at hw); go_simp; (try with_reducible rfl); done)); simp only [Act.put, zA42, zB42, zC42]); (apply lxP (by rfl); (focus (intro w; go_simp; (try with_reducible rfl); done)); simp only [Act.put, zA42, zB42, zC42]); (apply lxT (by rfl); (focus (intro w hw; (try dsimp only at hw); go_simp; (try with_reducible rfl); done)); simp only [Act.put, zA42, zB42, zC42]); (iterate 4 ((apply lxP (by rfl); (focus (intro w; go_simp; (try with_reducible rfl); done)); simp only [Act.put, zA42, zB42, zC42]))); (apply lxT (by rfl); (focus (intro w hw; (try dsimp only at hw); go_simp; (try with_reducible rfl); done)); simp only [Act.put, zA42, zB42, zC42]); (iterate 2 ((apply lxP (by rfl); (focus (intro w; go_simp; (try with_reducible rfl); done)); simp only [Act.put, zA42, zB42, zC42]))); (first | (apply lxP (by rfl); (focus (intro w; go_simp; (try with_reducible rfl); done)); simp only [Act.put, zA42, zB42, zC42]) | (refine lxQ (by rfl) ?_; simp only [Act.put, zA42, zB42, zC42])); (first | (apply lxT (by rfl); (focus (intro w hw; (try dsimp only at hw); go_simp; (try with_reducible rfl); done)); simp only [Act.put, zA42, zB42, zC42]) | (refine lxS (by rfl) ?_; simp only [Act.put, zA42, zB42, zC42])); (iterate 2 (first | (apply lxP (by rfl); (focus (intro w; go_simp; (try with_reducible rfl); done)); simp only [Act.put, zA42, zB42, zC42]) | (refine lxQ (by rfl) ?_; simp only [Act.put, zA42, zB42, zC42]))); (apply lxP (by rfl); (focus (intro w; go_simp; (try with_reducible rfl); done)); simp only [Act.put, zA42, zB42, zC42])
  refine lxN (fun _ => wqD (by kernel_rfl) ?_ _)
  clear x1 x3 y3 p0 hS0
  go_wp2
  refine bodyPost_ret (results_none rfl _ _ _) rfl ?_
  exact ⟨rfl, HST.out _ r0.drew⟩
 ·have u1 : decide (n0 < G.bt) = false := decide_eq_false hc.1
  obtain rfl := hc.2
  have u2 : (((1 : Nat) : Int) != 1) = false := by simp
  have HHE := hide (gheard_calls (H.out.1.below r0.drew) fr)
  obtain ⟨b3, o3, rfl, hc3⟩ := H.out.2.2.2.2.2.2.2.2.2.2.2.2 (by omega)
  obtain ⟨A', c', bs, hce, htb⟩ := hc3 0 (by omega)
  rw [Nat.add_zero] at hce
  have HCE := hide (And.intro hce htb)
  clear hc hc3 hce htb
  go_enter Tryz.func55, Tryz.ntmps55
  go_upto_region 1 with fail
  (try rw [HW.out.1])
  (try rw [HW.out.2])
  refine lxR (fun w' => Below w0.heap.size w0 w') [] 0 [(2, 0), (0, 1), (2, 2), (0, 3), (2, 4), (2, 5), (2, 6), (2, 7), (0, 8), (2, 9), (2, 10), (2, 11), (0, 12), (2, 13), (2, 14), (2, 15)] #[true, true, true, true, true, true, true, true, true, true, true, true, true, true, true, true] (by kernel_rfl) (by kernel_rfl) (by decide) (by kernel_rfl) (by kernel_rfl) (fun _ _ _ _ _ h => h) (by (exact r0.drew)) (fun hS0 => ?_)
  simp only [List.map_cons, List.map_nil, List.getElem?_toArray, List.getElem?_cons_succ, List.getElem?_cons_zero]
  (apply lxP (by rfl); (focus (intro w; go_simp; (try with_reducible rfl); done)); simp only [Act.put, zA42, zB42, zC42]); (apply lxT (by rfl); (focus (intro w hw; (try dsimp only at hw); go_simp; (try with_reducible rfl); done)); simp only [Act.put, zA42, zB42, zC42]); (apply lxP (by rfl); (focus (intro w; go_simp; (try with_reducible rfl); done)); simp only [Act.put, zA42, zB42, zC42]); (apply lxT (by rfl); (focus (intro w hw; (try dsimp only at hw); go_simp; (try with_reducible rfl); done)); simp only [Act.put, zA42, zB42, zC42]); (iterate 4 ((apply lxP (by rfl); (focus (intro w; go_simp; (try with_reducible rfl); done)); simp only [Act.put, zA42, zB42, zC42]))); (apply lxT (by rfl); (focus (intro w hw; (try dsimp only at hw); go_simp; (try with_reducible rfl); done)); simp only [Act.put, zA42, zB42, zC42]); (iterate 2 ((apply lxP (by rfl); (focus (intro w; go_simp; (try with_reducible rfl); done)); simp only [Act.put, zA42, zB42, zC42]))); (first | (apply lxP (by rfl); (focus (intro w; go_simp; (try with_reducible rfl); done)); simp only [Act.put, zA42, zB42, zC42]) | (refine lxQ (by rfl) ?_; simp only [Act.put, zA42, zB42, zC42])); (first | (apply lxT (by rfl); (focus (intro w hw; (try dsimp only at hw); go_simp; (try with_reducible rfl); done)); simp only [Act.put, zA42, zB42, zC42]) | (refine lxS (by rfl) ?_; simp only [Act.put, zA42, zB42, zC42])); (iterate 2 (first | (apply lxP (by rfl); (focus (intro w; go_simp; (try with_reducible rfl); done)); simp only [Act.put, zA42, zB42, zC42]) | (refine lxQ (by rfl) ?_; simp only [Act.put, zA42, zB42, zC42]))); (apply lxP (by rfl); (focus (intro w; go_simp; (try with_reducible rfl); done)); simp only [Act.put, zA42, zB42, zC42])
  refine lxN (fun _ => wqD (by kernel_rfl) ?_ _)
  clear x1 x3 y3 p0 hS0
  go_wp2_with fail
  with_reducible refine HHE.out.mono ?_
  rintro e w2 ⟨rfl, h2, hs2⟩
  obtain ⟨_, hb0, hi, hV, hg, hfr, hn, hA0, bX, hxq, hB, hBc, hL⟩ := H.out
  have hi2 : GI u { G with quiet := 0, leader := fr, role := 0 } := ⟨hi.id, hi.bt, hi.bv, hi.com, hi.told, ⟨Int.le_refl _, Int.natCast_nonneg u⟩, hi.beats, hi.m⟩
  obtain ⟨G2, hG2⟩ : ∃ G2, ({ G with quiet := 0, leader := fr, role := 0 } : Gd) = G2 := ⟨_, rfl⟩
  have he2 : G2.id = G.id ∧ G2.bt = G.bt ∧ G2.commit = G.commit ∧ G2.m = G.m := by rw [← hG2]; exact ⟨rfl, rfl, rfl, rfl⟩
  rw [hG2] at h2 hi2
  have hs02 : GS w0 w2 nb q q := (GS.stay r0.drew).trans hs2
  have hA2 : GA W w2 nb q := hA0.step hs02
  have bX2 := bX.chg hs02.c hxq
  have x3 : w2.cell? ⟨xb, 3, none⟩ = some (.slice (some ⟨b3, o3, none⟩) 1 c3) := bX2.cell 3
  have z3 := HCE.out.1 w2 hA2.be
  have HQR := hide (qread_calls w2 A' c' bs (HCE.out.2.at_ hA2.be) HCE.out.2.le HCE.out.2.by_)
  have H2 := hide (And.intro h2 (And.intro hi2 (And.intro he2 (And.intro hs02 hA2))))
  clear h2 hi2 he2 hs2 hs02 hA2 bX2 hG2 hb0 hi hV hg hfr hn hA0 bX hxq hB hBc hL r0 HHE HW
  go_wp2_with fail
  with_reducible refine HQR.out.mono ?_
  rintro e w3 ⟨A4, c4, sm, ok, rfl, ho4, hmo, hb3⟩
  obtain ⟨_, hb0, hi, hV, hg, hfr, hn, hA0, bX, hxq, hB, hBc, hL⟩ := H.out
  have hA3 := H2.out.2.2.2.2.low hb3
  have hs03 := H2.out.2.2.2.1.trans (GS.stay hb3)
  have bX3 := bX.chg hs03.c hxq
  have x1 := bX3.rule 1 _ rfl
  have x2 := bX3.rule 2 _ rfl
  have p1 : ∀ w', Below w3.heap.size w3 w' → w'.cell? ⟨b, o + 1, none⟩ = some (.int .i64 n1) := fun w' hb => hn.at_ hA3.be hb 1 rfl
  have p2 : ∀ w', Below w3.heap.size w3 w' → w'.cell? ⟨b, o + 2, none⟩ = some (.int .i64 n2) := fun w' hb => hn.at_ hA3.be hb 2 rfl
  have r3 := Below.refl w3.heap.size w3
  obtain ⟨sl, hsl⟩ : ∃ sl, sm.length = sl := ⟨_, rfl⟩
  obtain ⟨bl, hbl⟩ : ∃ bl, B.length = bl := ⟨_, rfl⟩
  rw [hsl]
  rw [hbl] at x2
  have H3 := hide (And.intro ho4 (And.intro hmo (And.intro hb3 (And.intro hs03 (And.intro hsl hbl)))))
  clear hb0 hi hV hg hfr hn hA0 bX hxq hB hBc hL ho4 hmo hb3 hA3 hs03 bX3 hsl hbl x3 z3 HQR
  go_upto_region 4 with fail
  refine lxR (fun w' => Below w3.heap.size w3 w') [] 0 [(2, 0), (0, 1), (2, 2), (0, 3), (2, 4), (0, 5), (2, 6), (0, 7), (2, 8), (2, 9), (0, 10), (2, 11), (1, 12), (1, 13)] #[true, true, true, true, true, true, true, true, true, true, true, true, true, true] (by kernel_rfl) (by kernel_rfl) (by decide) (by kernel_rfl) (by kernel_rfl) (fun _ _ _ _ _ h => h) (by (first | exact r3.drew | exact belowL r3.drew _ | exact (belowL r3 _).drew)) (fun hS0 => ?_)
  simp only [List.map_cons, List.map_nil, List.getElem?_toArray, List.getElem?_cons_succ, List.getElem?_cons_zero]
  (apply lxP (by rfl); (focus (intro w; go_simp; (try with_reducible rfl); done)); simp only [Act.put, zA42, zB42, zC42]); (apply lxT (by rfl); (focus (intro w hw; (try dsimp only at hw); go_simp; (try with_reducible rfl); done)); simp only [Act.put, zA42, zB42, zC42]); (apply lxP (by rfl); (focus (intro w; go_simp; (try with_reducible rfl); done)); simp only [Act.put, zA42, zB42, zC42]); (apply lxT (by rfl); (focus (intro w hw; (try dsimp only at hw); go_simp; (try with_reducible rfl); done)); simp only [Act.put, zA42, zB42, zC42]); (apply lxP (by rfl); (focus (intro w; go_simp; (try with_reducible rfl); done)); simp only [Act.put, zA42, zB42, zC42]); (apply lxT (by rfl); (focus (intro w hw; (try dsimp only at hw); go_simp; (try with_reducible rfl); done)); simp only [Act.put, zA42, zB42, zC42]); (apply lxP (by rfl); (focus (intro w; go_simp; (try with_reducible rfl); done)); simp only [Act.put, zA42, zB42, zC42]); (apply lxT (by rfl); (focus (intro w hw; (try dsimp only at hw); go_simp; (try with_reducible rfl); done)); simp only [Act.put, zA42, zB42, zC42]); (iterate 2 ((apply lxP (by rfl); (focus (intro w; go_simp; (try with_reducible rfl); done)); simp only [Act.put, zA42, zB42, zC42]))); (apply lxT (by rfl); (focus (intro w hw; (try dsimp only at hw); go_simp; (try with_reducible rfl); done)); simp only [Act.put, zA42, zB42, zC42]); (apply lxP (by rfl); (focus (intro w; go_simp; (try with_reducible rfl); done)); simp only [Act.put, zA42, zB42, zC42]); (iterate 2 ((refine lxE (by rfl) ?_; go_simp; refine lxB (by (first | exact r3.drew | exact belowL r3.drew _ | exact (belowL r3 _).drew)) (fun hS1 => ?_))))
  refine lxN (fun _ => wqD (by kernel_rfl) ?_ _)
  obtain ⟨x8, hx8⟩ : ∃ x8, w3.heap.size = x8 := ⟨_, rfl⟩
  obtain ⟨w4, hw4⟩ : ∃ w4, (w3.alloc (.cells #[.int .i64 n1, .int .i64 n2, .slice A4 sl c4, .slice A2 bl c2] 93)).drew = w4 := ⟨_, rfl⟩
  have hb4 : Below w3.heap.size w3 w4 := hw4 ▸ (belowL r3 _).drew
  have b8 : Blk w4 x8 93 [.int .i64 n1, .int .i64 n2, .slice A4 sl c4, .slice A2 bl c2] := by rw [← hw4, ← hx8]; exact (Blk.new rfl).drewT
  rw [hw4, hx8]
  have hs04 := H3.out.2.2.2.1.trans (GS.stay hb4)
  have h4 := (H2.out.1.below H3.out.2.2.1).below hb4
  have hit4 : It w4 A4 c4 sm := (H3.out.1.it (by have := H3.out.2.1.1; omega)).below hb4
  have hxq8 : x8 ∉ gt nb q := fun hx => by have := H.out.1.lt x8 (List.mem_append_left _ hx); have := H3.out.2.2.2.1.c.size; omega
  have HR4 : Hid (∀ w', Below w4.heap.size w4 w' → GW w w' nb q G (u + 3) (g + 2199023255552)) := hide (fun w' hb => ⟨q, G2, h4.below hb, H2.out.2.1.up (by omega), by rw [H2.out.2.2.1.2.2.2]; exact H.out.2.2.2.1.up (by omega), H2.out.2.2.1.1, by rw [H2.out.2.2.1.2.1]; exact Int.le_refl _, by rw [H2.out.2.2.1.2.2.1]; exact Int.le_refl _, ((GS.stay H.out.2.1).trans hs04).trans (GS.stay hb)⟩)
  have r4 := Below.refl w4.heap.size w4
  have z0 := b8.rule 0 _ rfl
  have z3 : w4.cell? ⟨x8, 3, none⟩ = some (.slice A2 bl c2) := b8.cell 3
  have H4 := hide (And.intro h4 (And.intro hit4 (And.intro b8 (And.intro hs04 (And.intro hxq8 (Nat.le_of_eq hx8))))))
  clear x1 x2 p1 p2 hw4 hb4 b8 hs04 h4 hit4 hxq8 hx8 hS0 hS1 r3
  cases ok with
  |false =>
   go_wp2
   refine bodyPost_ret (results_none rfl _ _ _) rfl ?_
   exact ⟨rfl, HR4.out _ r4⟩
  |true =>
   by_cases hbl : 700 < bl
   ·have u3 : decide ((700 : Int) < bl) = true := decide_eq_true (by omega)
    clear hbl
    go_wp2
    refine bodyPost_ret (results_none rfl _ _ _) rfl ?_
    exact ⟨rfl, HR4.out _ r4⟩
   ·have u3 : decide ((700 : Int) < bl) = false := decide_eq_false (by omega)
    have HBL := hide (show bl ≤ 700 by omega)
    clear hbl
    go_upto_region 6 with fail
    clear z3 u3
    have y10 := H4.out.1.blk.rule 10 _ rfl
    by_cases hcm : (n1 : Int) ≤ G2.commit
    ·have u3 : decide ((n1 : Int) ≤ G2.commit) = true := decide_eq_true hcm
     clear hcm
     refine lxR (fun w' => Below w4.heap.size w4 w') [] 0 [(2, 0), (0, 1), (2, 2), (2, 3), (2, 4), (0, 5), (2, 6)] #[true, true, true, true, true, true, true] (by kernel_rfl) (by kernel_rfl) (by decide) (by kernel_rfl) (by kernel_rfl) (fun _ _ _ _ _ h => h) (by (exact r4.drew)) (fun hS0 => ?_)
     simp only [List.map_cons, List.map_nil, List.getElem?_toArray, List.getElem?_cons_succ, List.getElem?_cons_zero]
     (apply lxP (by rfl); (focus (intro w; go_simp; (try with_reducible rfl); done)); simp only [Act.put, zA42, zB42, zC42]); (apply lxT (by rfl); (focus (intro w hw; (try dsimp only at hw); go_simp; (try with_reducible rfl); done)); simp only [Act.put, zA42, zB42, zC42]); (iterate 3 ((apply lxP (by rfl); (focus (intro w; go_simp; (try with_reducible rfl); done)); simp only [Act.put, zA42, zB42, zC42]))); (apply lxT (by rfl); (focus (intro w hw; (try dsimp only at hw); go_simp; (try with_reducible rfl); done)); simp only [Act.put, zA42, zB42, zC42]); (apply lxP (by rfl); (focus (intro w; go_simp; (try with_reducible rfl); done)); simp only [Act.put, zA42, zB42, zC42])
     refine lxN (fun _ => wqD (by kernel_rfl) ?_ _)
     have HAN := hide (ganswer_calls (H4.out.1.below r4.drew) (by have := H2.out.2.1.m.on; omega) fr true n1)
     have z0' := z0 _ r4.drew
     clear z0 y10 hS0
     go_wp2_with fail
     with_reducible refine HAN.out.mono ?_
     rintro e wz ⟨rfl, qz, nz, hz, hsz, hnz⟩
     have HF : Hid (GW w wz nb q G (u + 3) (g + 2199023255552)) := hide ⟨qz, _, hz, (H2.out.2.1.nxt H2.out.2.1.m.next (n := nz) (by omega)).up (by omega), by show VltOk G2.m.V _; rw [H2.out.2.2.1.2.2.2]; exact H.out.2.2.2.1.up (by omega), H2.out.2.2.1.1, by show G.bt ≤ G2.bt; rw [H2.out.2.2.1.2.1]; exact Int.le_refl _, by show G.commit ≤ G2.commit; rw [H2.out.2.2.1.2.2.1]; exact Int.le_refl _, ((GS.stay H.out.2.1).trans (H4.out.2.2.2.1.trans (GS.stay r4.drew))).trans hsz⟩
     clear hz hsz hnz HAN
     go_wp2
     refine bodyPost_ret (results_none rfl _ _ _) rfl ?_
     exact ⟨rfl, HF.out⟩
    ·have u3 : decide ((n1 : Int) ≤ G2.commit) = false := decide_eq_false hcm
     have HCM := hide hcm
     clear hcm
     refine lxR (fun w' => Below w4.heap.size w4 w') [] 0 [(2, 0), (0, 1), (2, 2), (2, 3), (2, 4), (0, 5), (2, 6)] #[true, true, true, true, true, true, true] (by kernel_rfl) (by kernel_rfl) (by decide) (by kernel_rfl) (by kernel_rfl) (fun _ _ _ _ _ h => h) (by (exact r4.drew)) (fun hS0 => ?_)
     simp only [List.map_cons, List.map_nil, List.getElem?_toArray, List.getElem?_cons_succ, List.getElem?_cons_zero]
     (apply lxP (by rfl); (focus (intro w; go_simp; (try with_reducible rfl); done)); simp only [Act.put, zA42, zB42, zC42]); (apply lxT (by rfl); (focus (intro w hw; (try dsimp only at hw); go_simp; (try with_reducible rfl); done)); simp only [Act.put, zA42, zB42, zC42]); (iterate 3 ((apply lxP (by rfl); (focus (intro w; go_simp; (try with_reducible rfl); done)); simp only [Act.put, zA42, zB42, zC42]))); (apply lxT (by rfl); (focus (intro w hw; (try dsimp only at hw); go_simp; (try with_reducible rfl); done)); simp only [Act.put, zA42, zB42, zC42]); (apply lxP (by rfl); (focus (intro w; go_simp; (try with_reducible rfl); done)); simp only [Act.put, zA42, zB42, zC42])
     refine lxN (fun _ => wqD (by kernel_rfl) ?_ _)
     have h4d := H4.out.1.below r4.drew
     have hla := lg_last h4d.log (by rw [H2.out.2.1.m.li]; exact H2.out.2.1.m.si.1) (by rw [H2.out.2.1.m.li]; have := H2.out.2.1.m.si.2; omega) (by have := H2.out.2.1.m.n; omega)
     obtain ⟨la, hlae⟩ : ∃ la : Int, G2.m.li + (G2.m.L.length : Int) = la := ⟨_, rfl⟩
     obtain ⟨lt, hlte⟩ : ∃ lt : Int, (G2.m.L.getLast?.map (·.1)).getD G2.m.lt = lt := ⟨_, rfl⟩
     rw [hlae, hlte] at hla
     have HLA := hide hla
     have HLE := hide hlae
     have y9 : w4.drew.cell? ⟨nb, 9, none⟩ = some (.pointer (some ⟨q.lb, 0, none⟩)) := h4d.blk.cell 9
     clear h4d hla hlae hlte y10 hS0 z0
     go_wp2_with fail
     with_reducible refine HLA.out.mono ?_
     rintro e w5 ⟨rfl, q5, rfl⟩
     obtain ⟨w5, hw5⟩ : ∃ w5, w4.drew.drewN q5 = w5 := ⟨_, rfl⟩
     have hb5 : Below w4.heap.size w4 w5 := hw5 ▸ below_drewN r4.drew q5
     rw [hw5]
     have h5 := H4.out.1.below hb5
     have b8 := H4.out.2.2.1.below hb5
     have z0 := b8.rule 0 _ rfl
     have y9' := h5.blk.rule 9 _ rfl
     have r5 := Below.refl w5.heap.size w5
     have HTE := hide (lg_termX (i := (n1 : Int)) (h5.below r5.drew).log (by rw [H2.out.2.1.m.li]; exact H2.out.2.1.m.si.1) (by rw [H2.out.2.1.m.li]; have := H2.out.2.1.m.si.2; omega) (by omega))
     have HB5 := hide hb5
     clear hw5 hb5 h5 b8 y9 HLA
     go_upto_region 9 with fail
     refine lxR (fun w' => Below w5.heap.size w5 w') [] 0 [(2, 0), (2, 1), (2, 2), (0, 3), (2, 4), (0, 5), (1, 6), (2, 7), (2, 8), (2, 9), (2, 10), (2, 11)] #[true, true, true, true, true, true, true, true, true, true, true, true] (by kernel_rfl) (by kernel_rfl) (by decide) (by kernel_rfl) (by kernel_rfl) (fun _ _ _ _ _ h => h) (by (first | exact r5.drew | exact hbt)) (fun hS0 => ?_)
     simp only [List.map_cons, List.map_nil, List.getElem?_toArray, List.getElem?_cons_succ, List.getElem?_cons_zero]
     (iterate 3 ((apply lxP (by rfl); (focus (intro w; go_simp; (try with_reducible rfl); done)); simp only [Act.put, zA42, zB42, zC42]))); (apply lxT (by rfl); (focus (intro w hw; (try dsimp only at hw); go_simp; (try with_reducible rfl); done)); simp only [Act.put, zA42, zB42, zC42]); (apply lxP (by rfl); (focus (intro w; go_simp; (try with_reducible rfl); done)); simp only [Act.put, zA42, zB42, zC42]); (apply lxT (by rfl); (focus (intro w hw; (try dsimp only at hw); go_simp; (try with_reducible rfl); done)); simp only [Act.put, zA42, zB42, zC42]); (refine lxE (by rfl) ?_; go_simp; ((go_at_call 47; refine HTE.out.mono ?_; rintro e w6 ⟨tt, is, rfl, htt, q6, rfl⟩; have hbt : Below w5.heap.size w5 (w5.drew.drewN q6) := below_drewN r5.drew q6)); refine lxB (by (first | exact r5.drew | exact hbt)) (fun hS1 => ?_)); (iterate 5 ((apply lxP (by rfl); (focus (intro w; go_simp; (try with_reducible rfl); done)); simp only [Act.put, zA42, zB42, zC42])))
     refine lxN (fun _ => wqD (by kernel_rfl) ?_ _)
     obtain ⟨w6, hw6⟩ : ∃ w6, w5.drew.drewN q6 = w6 := ⟨_, rfl⟩
     rw [hw6] at hbt ⊢
     have HB6 := hide (belowA hbt HB5.out)
     have HTT := hide htt
     have z1 : w6.cell? ⟨x8, 1, none⟩ = some (.int .i64 n2) := (H4.out.2.2.1.below HB6.out).cell 1
     clear hw6 hbt htt hS0 hS1 z0 y9' r5 HTE
     go_upto_region 10 with fail
     go_cut [13] from 92 to 98 (fun v wx => ∃ same : Bool, v = .bool same ∧ wx = w6 ∧ Hid (same = true → ∃ kk : Nat, kk ≤ G2.m.L.length ∧ (n1 : Int) = G2.m.li + kk ∧ termC G2.m.li G2.m.lt G2.m.L kk = ((n2 : Int), true)))
     case first =>
      cases is with
      |false =>
       go_wp2
       go_meet
       exact ⟨false, rfl, rfl, hide (fun h => by cases h)⟩
      |true =>
       by_cases ht : tt = n2
       ·have u4 : (tt == (n2 : Int)) = true := by simp [ht]
        have HS := hide (show ∃ kk : Nat, kk ≤ G2.m.L.length ∧ (n1 : Int) = G2.m.li + kk ∧ termC G2.m.li G2.m.lt G2.m.L kk = ((n2 : Int), true) by rw [← ht]; exact HTT.out rfl)
        clear ht
        go_wp2
        go_meet
        exact ⟨true, rfl, rfl, hide (fun _ => HS.out)⟩
       ·have u4 : (tt == (n2 : Int)) = false := by simpa using ht
        clear ht
        go_wp2
        go_meet
        exact ⟨false, rfl, rfl, hide (fun h => by cases h)⟩
     case rest =>
      obtain ⟨same, rfl, rfl, hsame⟩ := hcut
      have hst : Hid (∃ q3 V3 d3, GP wc nb q3 (G2.vlt V3 d3) ∧ VltOk V3 (g + 0) ∧ GS w4 wc nb q q3) := hide ⟨q, G2.m.V, G2.dead, H4.out.1.below HB6.out, by rw [H2.out.2.2.1.2.2.2]; exact H.out.2.2.2.1, GS.stay HB6.out⟩
      clear z1
      go_wp2
      go_loopw [14, 100, 101, 102, 103, 104, 105, 106, 107, 108, 109, 110, 111, 112, 113] (fun iv _ _ _ _ _ _ _ _ _ _ _ _ _ _ wr => ∃ (j : Nat) (z : Int), iv = .int .i64 z ∧ Hid (z = la - j ∧ (j = 0 ∨ (n1 : Int) ≤ z)) ∧ Hid (∃ q3 V3 d3, GP wr nb q3 (G2.vlt V3 d3) ∧ VltOk V3 (g + j) ∧ GS w4 wr nb q q3)) (fun iv _ _ _ _ _ _ _ _ _ _ _ _ _ _ _ => (Go.RowKit.intOf iv - n1).toNat)
      case atStart => exact ⟨0, la, rfl, hide ⟨by omega, Or.inl rfl⟩, hst⟩
      case round =>
       obtain ⟨j, z, rfl, hz, hK⟩ := hrel
       obtain ⟨q3, V3, d3, h3, hok3, hs3⟩ := hK.out
       have b8 := H4.out.2.2.1.chg hs3.c H4.out.2.2.2.2.1
       have z0 : wr.cell? ⟨x8, 0, none⟩ = some (.int .i64 n1) := b8.cell 0
       have hjb : 0 ≤ la ∧ la ≤ 549756000000 ∧ j ≤ 549756000000 := by have := hz.out; have := HLE.out; have := H2.out.2.1.m.si; have := H2.out.2.1.m.li; have := H2.out.2.1.m.n; omega
       rcases (show (same = false ∧ (n1 : Int) < z) ∨ (same = true ∧ (n1 : Int) < z) ∨ ¬ (n1 : Int) < z by cases same <;> simp <;> omega) with ⟨hsm, hgt⟩ | hex
       ·subst hsm
        have i1 : decide ((n1 : Int) < z) = true := decide_eq_true hgt
        obtain ⟨z2, hz2⟩ : ∃ z2, z - 1 = z2 := ⟨_, rfl⟩
        have hzb : 1 ≤ z ∧ z ≤ la := by have := hz.out; omega
        have c1 : IntKind.i64.wrap (z - 1) = z2 := by rw [IntWalk.i64_in _ (by omega)]; exact hz2
        have c2 : IntKind.i64.wrap (1000 + z) = 1000 + z := IntWalk.i64_in _ (by omega)
        have HDR := hide (gdrop_calls h3 hok3 (by have := H.out.2.2.2.2.1; omega) (1000 + z) (by unfold i64ok; omega))
        have HI := hide (And.intro hz2 (And.intro hgt (And.intro hzb hs3)))
        clear h3 hok3 hs3 hz2 hgt hzb hK b8 hjb
        go_wp2_with fail
        with_reducible refine HDR.out.mono ?_
        rintro e w7 ⟨q7, V7, d7, rfl, h7, hok7, hs7, _⟩
        have H7 : Hid (∃ q3 V3 d3, GP w7 nb q3 (G2.vlt V3 d3) ∧ VltOk V3 (g + (j + 1)) ∧ GS w4 w7 nb q q3) := hide ⟨q7, V7, d7, h7, hok7, HI.out.2.2.2.trans hs7⟩
        clear h7 hok7 hs7 HDR z0
        go_wp2
        go_roundw
        case rel => exact ⟨j + 1, z2, rfl, hide (by have := HI.out; have := hz.out; omega), H7⟩
        case measure => have := HI.out; simp [Go.RowKit.intOf]; omega
       ·have z1 : wr.cell? ⟨x8, 1, none⟩ = some (.int .i64 n2) := b8.cell 1
        have z2 : wr.cell? ⟨x8, 2, none⟩ = some (.slice A4 sl c4) := b8.cell 2
        have z3 : wr.cell? ⟨x8, 3, none⟩ = some (.slice A2 bl c2) := b8.cell 3
        have hA4 := H.out.2.2.2.2.2.2.2.1.step H4.out.2.2.2.1
        have hAr := hA4.step hs3
        have hmv : ∀ x ∈ q3.vb, ∀ a, A4 = some a → a.block ≠ x := fun x hx a ha e => by
         have k1 := H3.out.1.2 a.block (by rw [ha]; rfl)
         have k2 := (H4.out.2.1.sl.ap a ha).2.2
         rcases hs3.v x hx with h | h
         ·have := H.out.1.lt x (List.mem_append_right _ h)
          have := H2.out.2.2.2.1.c.size
          omega
         ·omega
        have hBZ : B = [] ∨ Rb wr [] A2 c2 B := by
         rcases Nat.eq_zero_or_pos B.length with h | h
         ·exact Or.inl (List.eq_nil_of_length_eq_zero h)
         ·refine Or.inr ⟨H.out.2.2.2.2.2.2.2.2.2.2.2.1, H.out.2.2.2.2.2.2.2.2.2.2.1.at_ hAr.be, fun a ha => ?_⟩
          obtain ⟨b5, o5, e5, hb5, _⟩ := H.out.2.2.2.2.2.2.2.2.2.2.1.rd.2 h
          rw [e5] at ha
          cases ha
          exact ⟨rfl, by simp, Nat.lt_of_lt_of_le hb5 hAr.be.size⟩
        have hRB := grebase_calls h3 (H2.out.2.1.vlt V3 d3) (by omega) (show VltOk V3 (g + j) from hok3) (by have := H.out.2.2.2.2.1; omega) n1 n2 hn1 hn2 (H4.out.2.1.chg hs3.c H4.out.1.hard) H3.out.2.1 hmv hBZ (by have := HBL.out; have := H3.out.2.2.2.2.2; omega) H.out.2.2.2.2.2.2.2.2.2.2.1.by_ la (by show la ≤ G2.m.si + _ ∧ _; have := HLE.out; have := H2.out.2.1.m.li; have := H2.out.2.1.m.n; omega) same (fun hs => hsame.out hs)
        rw [H3.out.2.2.2.2.1, H3.out.2.2.2.2.2] at hRB
        have HRB := hide hRB
        have HS3 := hide (And.intro hs3 (And.intro b8 hjb))
        clear hA4 hAr hmv hBZ hRB h3 hok3 hs3 hK b8 hjb
        have hx2 : ∀ c : Bool, ((decide ((n1 : Int) < z)) = true → same = true) := fun _ h => by
         rcases hex with h1 | h1
         ·exact h1.1
         ·exact absurd (of_decide_eq_true h) h1
        rcases hex with ⟨hsm, hgt⟩ | hgt
        ·subst hsm
         have i1 : decide ((n1 : Int) < z) = true := decide_eq_true hgt
         clear hgt hx2
         go_wp2_with fail
         with_reducible refine HRB.out.mono ?_
         rintro e w7 ⟨rfl, q7, G7, h7, hi7, hok7, hid7, hbt7, hco7, hs7⟩
         have hs47 := HS3.out.1.trans hs7
         have b87 := H4.out.2.2.1.chg hs47.c H4.out.2.2.2.2.1
         have he2 := H2.out.2.2.1
         have hs07 := ((GS.stay (nb := nb) (q := q) H.out.2.1).trans H4.out.2.2.2.1).trans hs47
         have hbt8 : G.bt ≤ G7.bt := by rw [← he2.2.1]; exact hbt7
         have hok8 := hok7.up (show g + j + 30000 ≤ g + 2199023255552 by have := HS3.out.2.2; omega)
         have H7 := hide (And.intro h7 (And.intro hi7 (And.intro hok8 (And.intro (hid7.trans he2.1) (And.intro hbt8 (And.intro hs07 b87))))))
         have hx8n : x8 ≠ nb := fun e => H4.out.2.2.2.2.1 (e ▸ gt_mem.2 (Or.inl rfl))
         obtain ⟨dd, hdd⟩ : ∃ dd, G7.dead = dd := ⟨_, rfl⟩
         have y2 : w7.cell? ⟨nb, 2, none⟩ = some (.bool dd) := by rw [← hdd]; exact h7.blk.cell 2
         have hcg : G.commit ≤ G7.commit := by rw [← he2.2.2.1]; exact hco7
         have HCG := hide hcg
         clear h7 hi7 hok7 hid7 hbt7 hco7 hs7 hs47 b87 he2 hs07 hbt8 hok8 hcg hdd z0 z1 z2 z3 HRB
         cases dd with
         |true =>
          go_wp2
          refine bodyPost_ret (results_none rfl _ _ _) rfl ?_
          exact ⟨rfl, q7, G7, H7.out.1, H7.out.2.1.up (by omega), H7.out.2.2.1, H7.out.2.2.2.1, H7.out.2.2.2.2.1, HCG.out, H7.out.2.2.2.2.2.1⟩
         |false =>
          have r7 := Chg.refl [nb] w7
          have z0 : ∀ w', Chg [nb] w7 w' → w'.cell? ⟨x8, 0, none⟩ = some (.int .i64 n1) := fun w' hc => (H7.out.2.2.2.2.2.2.chg hc (by simpa using hx8n)).cell 0
          have h7d := H7.out.1.below (Below.refl w7.heap.size w7).drew
          have q10 := h7d.blk.cell 10
          have q11 := h7d.blk.cell 11
          have q12 := h7d.blk.cell 12
          have f10 := h7d.blk.frozen 10
          have f11 := h7d.blk.frozen 11
          have f12 := h7d.blk.frozen 12
          simp only [Gd.cells, List.getElem?_cons_succ, List.getElem?_cons_zero] at q10 q11 q12
          have q10' : w7.cell? ⟨nb, 10, none⟩ = _ := q10
          have q11' : w7.cell? ⟨nb, 11, none⟩ = _ := q11
          have q12' : w7.cell? ⟨nb, 12, none⟩ = _ := q12
          have f10' : w7.frozen? ⟨nb, 10, none⟩ = false := f10
          have f11' : w7.frozen? ⟨nb, 11, none⟩ = false := f11
          have f12' : w7.frozen? ⟨nb, 12, none⟩ = false := f12
          clear h7d
          go_upto_region 17 with fail
          clear y2
          refine lxR (fun w' => Chg [nb] w7 w') [] 0 [(2, 0), (2, 1), (2, 2), (2, 3), (0, 4), (2, 5), (0, 6), (2, 7), (2, 8), (1, 9), (2, 10), (2, 11), (1, 12), (2, 13), (2, 14), (1, 15)] #[true, true, true, true, true, true, true, true, true, true, true, true, true, true, true, true] (by kernel_rfl) (by kernel_rfl) (by decide) (by kernel_rfl) (by kernel_rfl) (fun _ _ _ _ _ h => h) (by (repeat (first | exact r7 | with_reducible refine Chg.drew ?_ | with_reducible refine Chg.setCell ?_ (Or.inl (by simp)) _))) (fun hS0 => ?_)
          simp only [List.map_cons, List.map_nil, List.getElem?_toArray, List.getElem?_cons_succ, List.getElem?_cons_zero]
          (iterate 4 ((apply lxP (by rfl); (focus (intro w; go_simp; (try with_reducible rfl); done)); simp only [Act.put, zA42, zB42, zC42]))); (apply lxT (by rfl); (focus (intro w hw; (try dsimp only at hw); go_simp; (try with_reducible rfl); done)); simp only [Act.put, zA42, zB42, zC42]); (apply lxP (by rfl); (focus (intro w; go_simp; (try with_reducible rfl); done)); simp only [Act.put, zA42, zB42, zC42]); (apply lxT (by rfl); (focus (intro w hw; (try dsimp only at hw); go_simp; (try with_reducible rfl); done)); simp only [Act.put, zA42, zB42, zC42]); (iterate 2 ((apply lxP (by rfl); (focus (intro w; go_simp; (try with_reducible rfl); done)); simp only [Act.put, zA42, zB42, zC42]))); (refine lxE (by rfl) ?_; go_simp; refine lxB (by (repeat (first | exact r7 | with_reducible refine Chg.drew ?_ | with_reducible refine Chg.setCell ?_ (Or.inl (by simp)) _))) (fun hS1 => ?_)); (iterate 2 ((apply lxP (by rfl); (focus (intro w; go_simp; (try with_reducible rfl); done)); simp only [Act.put, zA42, zB42, zC42]))); (refine lxE (by rfl) ?_; go_simp; refine lxB (by (repeat (first | exact r7 | with_reducible refine Chg.drew ?_ | with_reducible refine Chg.setCell ?_ (Or.inl (by simp)) _))) (fun hS1 => ?_)); (iterate 2 ((apply lxP (by rfl); (focus (intro w; go_simp; (try with_reducible rfl); done)); simp only [Act.put, zA42, zB42, zC42]))); (refine lxE (by rfl) ?_; go_simp; refine lxB (by (repeat (first | exact r7 | with_reducible refine Chg.drew ?_ | with_reducible refine Chg.setCell ?_ (Or.inl (by simp)) _))) (fun hS1 => ?_))
          refine lxN (fun _ => wqD (by kernel_rfl) ?_ _)
          obtain ⟨a1, s1⟩ := H7.out.1.set1 10 (.int .i64 n1) { G7 with commit := n1 } rfl rfl
          obtain ⟨a2, s2⟩ := a1.set1 11 (.int .i64 n1) { G7 with commit := n1, told := n1 } rfl rfl
          obtain ⟨a3, s3⟩ := a2.set1 12 (.bool true) { G7 with commit := n1, told := n1, fresh := true } rfl rfl
          have e := H7.out.2.1
          have hi9 : GI u { G7 with commit := n1, told := n1, fresh := true } := ⟨e.id, e.bt, e.bv, ⟨by show (0 : Int) ≤ n1; omega, by show (n1 : Int) ≤ _; omega⟩, ⟨by show (0 : Int) ≤ n1; omega, by show (n1 : Int) ≤ _; omega⟩, e.quiet, e.beats, e.m⟩
          obtain ⟨w9, hw9⟩ : ∃ w9, (((w7.setCell ⟨nb, 10, none⟩ (.int .i64 n1)).setCell ⟨nb, 11, none⟩ (.int .i64 n1)).setCell ⟨nb, 12, none⟩ (.bool true)).drew = w9 := ⟨_, rfl⟩
          have a4 := a3.below ((Below.refl _ _).drew)
          have s4 := ((s1.trans s2).trans s3).trans (GS.stay ((Below.refl _ _).drew))
          have z9 := z0 _ hS1
          rw [hw9] at a4 s4 z9
          rw [hw9]
          have HAN := hide (ganswer_calls a4 (by have := e.m.on; show G7.m.on ≤ _; omega) fr true n1)
          have H9 := hide (And.intro hi9 (H7.out.2.2.2.2.2.1.trans s4))
          clear a1 s1 a2 s2 a3 s3 e hi9 hw9 a4 s4 q10 q11 q12 f10 f11 f12 q10' q11' q12' f10' f11' f12' z0 hS0 hS1 r7 hx8n
          go_wp2_with fail
          with_reducible refine HAN.out.mono ?_
          rintro e wz ⟨rfl, qz, nz, hz, hsz, hnz⟩
          have HF : Hid (GW w wz nb q G (u + 3) (g + 2199023255552)) := hide ⟨qz, _, hz, (H9.out.1.nxt H9.out.1.m.next (n := nz) (by have : nz ≤ G7.m.on + 1 := hnz; show nz ≤ G7.m.on + 100; omega)).up (by omega), H7.out.2.2.1, H7.out.2.2.2.1, H7.out.2.2.2.2.1, by show G.commit ≤ (n1 : Int); have := HCM.out; have := H2.out.2.2.1.2.2.1; omega, H9.out.2.trans hsz⟩
          clear hz hsz hnz HAN
          go_wp2
          go_end0
          exact ⟨rfl, HF.out⟩
        ·have i1 : decide ((n1 : Int) < z) = false := decide_eq_false hgt
         clear hgt hx2
         go_wp2_with fail
         with_reducible refine HRB.out.mono ?_
         rintro e w7 ⟨rfl, q7, G7, h7, hi7, hok7, hid7, hbt7, hco7, hs7⟩
         have hs47 := HS3.out.1.trans hs7
         have b87 := H4.out.2.2.1.chg hs47.c H4.out.2.2.2.2.1
         have he2 := H2.out.2.2.1
         have hs07 := ((GS.stay (nb := nb) (q := q) H.out.2.1).trans H4.out.2.2.2.1).trans hs47
         have hbt8 : G.bt ≤ G7.bt := by rw [← he2.2.1]; exact hbt7
         have hok8 := hok7.up (show g + j + 30000 ≤ g + 2199023255552 by have := HS3.out.2.2; omega)
         have H7 := hide (And.intro h7 (And.intro hi7 (And.intro hok8 (And.intro (hid7.trans he2.1) (And.intro hbt8 (And.intro hs07 b87))))))
         have hx8n : x8 ≠ nb := fun e => H4.out.2.2.2.2.1 (e ▸ gt_mem.2 (Or.inl rfl))
         obtain ⟨dd, hdd⟩ : ∃ dd, G7.dead = dd := ⟨_, rfl⟩
         have y2 : w7.cell? ⟨nb, 2, none⟩ = some (.bool dd) := by rw [← hdd]; exact h7.blk.cell 2
         have hcg : G.commit ≤ G7.commit := by rw [← he2.2.2.1]; exact hco7
         have HCG := hide hcg
         clear h7 hi7 hok7 hid7 hbt7 hco7 hs7 hs47 b87 he2 hs07 hbt8 hok8 hcg hdd z0 z1 z2 z3 HRB
         cases dd with
         |true =>
          go_wp2
          refine bodyPost_ret (results_none rfl _ _ _) rfl ?_
          exact ⟨rfl, q7, G7, H7.out.1, H7.out.2.1.up (by omega), H7.out.2.2.1, H7.out.2.2.2.1, H7.out.2.2.2.2.1, HCG.out, H7.out.2.2.2.2.2.1⟩
         |false =>
          have r7 := Chg.refl [nb] w7
          have z0 : ∀ w', Chg [nb] w7 w' → w'.cell? ⟨x8, 0, none⟩ = some (.int .i64 n1) := fun w' hc => (H7.out.2.2.2.2.2.2.chg hc (by simpa using hx8n)).cell 0
          have h7d := H7.out.1.below (Below.refl w7.heap.size w7).drew
          have q10 := h7d.blk.cell 10
          have q11 := h7d.blk.cell 11
          have q12 := h7d.blk.cell 12
          have f10 := h7d.blk.frozen 10
          have f11 := h7d.blk.frozen 11
          have f12 := h7d.blk.frozen 12
          simp only [Gd.cells, List.getElem?_cons_succ, List.getElem?_cons_zero] at q10 q11 q12
          have q10' : w7.cell? ⟨nb, 10, none⟩ = _ := q10
          have q11' : w7.cell? ⟨nb, 11, none⟩ = _ := q11
          have q12' : w7.cell? ⟨nb, 12, none⟩ = _ := q12
          have f10' : w7.frozen? ⟨nb, 10, none⟩ = false := f10
          have f11' : w7.frozen? ⟨nb, 11, none⟩ = false := f11
          have f12' : w7.frozen? ⟨nb, 12, none⟩ = false := f12
          clear h7d
          go_upto_region 17 with fail
          clear y2
          refine lxR (fun w' => Chg [nb] w7 w') [] 0 [(2, 0), (2, 1), (2, 2), (2, 3), (0, 4), (2, 5), (0, 6), (2, 7), (2, 8), (1, 9), (2, 10), (2, 11), (1, 12), (2, 13), (2, 14), (1, 15)] #[true, true, true, true, true, true, true, true, true, true, true, true, true, true, true, true] (by kernel_rfl) (by kernel_rfl) (by decide) (by kernel_rfl) (by kernel_rfl) (fun _ _ _ _ _ h => h) (by (repeat (first | exact r7 | with_reducible refine Chg.drew ?_ | with_reducible refine Chg.setCell ?_ (Or.inl (by simp)) _))) (fun hS0 => ?_)
          simp only [List.map_cons, List.map_nil, List.getElem?_toArray, List.getElem?_cons_succ, List.getElem?_cons_zero]
          (iterate 4 ((apply lxP (by rfl); (focus (intro w; go_simp; (try with_reducible rfl); done)); simp only [Act.put, zA42, zB42, zC42]))); (apply lxT (by rfl); (focus (intro w hw; (try dsimp only at hw); go_simp; (try with_reducible rfl); done)); simp only [Act.put, zA42, zB42, zC42]); (apply lxP (by rfl); (focus (intro w; go_simp; (try with_reducible rfl); done)); simp only [Act.put, zA42, zB42, zC42]); (apply lxT (by rfl); (focus (intro w hw; (try dsimp only at hw); go_simp; (try with_reducible rfl); done)); simp only [Act.put, zA42, zB42, zC42]); (iterate 2 ((apply lxP (by rfl); (focus (intro w; go_simp; (try with_reducible rfl); done)); simp only [Act.put, zA42, zB42, zC42]))); (refine lxE (by rfl) ?_; go_simp; refine lxB (by (repeat (first | exact r7 | with_reducible refine Chg.drew ?_ | with_reducible refine Chg.setCell ?_ (Or.inl (by simp)) _))) (fun hS1 => ?_)); (iterate 2 ((apply lxP (by rfl); (focus (intro w; go_simp; (try with_reducible rfl); done)); simp only [Act.put, zA42, zB42, zC42]))); (refine lxE (by rfl) ?_; go_simp; refine lxB (by (repeat (first | exact r7 | with_reducible refine Chg.drew ?_ | with_reducible refine Chg.setCell ?_ (Or.inl (by simp)) _))) (fun hS1 => ?_)); (iterate 2 ((apply lxP (by rfl); (focus (intro w; go_simp; (try with_reducible rfl); done)); simp only [Act.put, zA42, zB42, zC42]))); (refine lxE (by rfl) ?_; go_simp; refine lxB (by (repeat (first | exact r7 | with_reducible refine Chg.drew ?_ | with_reducible refine Chg.setCell ?_ (Or.inl (by simp)) _))) (fun hS1 => ?_))
          refine lxN (fun _ => wqD (by kernel_rfl) ?_ _)
          obtain ⟨a1, s1⟩ := H7.out.1.set1 10 (.int .i64 n1) { G7 with commit := n1 } rfl rfl
          obtain ⟨a2, s2⟩ := a1.set1 11 (.int .i64 n1) { G7 with commit := n1, told := n1 } rfl rfl
          obtain ⟨a3, s3⟩ := a2.set1 12 (.bool true) { G7 with commit := n1, told := n1, fresh := true } rfl rfl
          have e := H7.out.2.1
          have hi9 : GI u { G7 with commit := n1, told := n1, fresh := true } := ⟨e.id, e.bt, e.bv, ⟨by show (0 : Int) ≤ n1; omega, by show (n1 : Int) ≤ _; omega⟩, ⟨by show (0 : Int) ≤ n1; omega, by show (n1 : Int) ≤ _; omega⟩, e.quiet, e.beats, e.m⟩
          obtain ⟨w9, hw9⟩ : ∃ w9, (((w7.setCell ⟨nb, 10, none⟩ (.int .i64 n1)).setCell ⟨nb, 11, none⟩ (.int .i64 n1)).setCell ⟨nb, 12, none⟩ (.bool true)).drew = w9 := ⟨_, rfl⟩
          have a4 := a3.below ((Below.refl _ _).drew)
          have s4 := ((s1.trans s2).trans s3).trans (GS.stay ((Below.refl _ _).drew))
          have z9 := z0 _ hS1
          rw [hw9] at a4 s4 z9
          rw [hw9]
          have HAN := hide (ganswer_calls a4 (by have := e.m.on; show G7.m.on ≤ _; omega) fr true n1)
          have H9 := hide (And.intro hi9 (H7.out.2.2.2.2.2.1.trans s4))
          clear a1 s1 a2 s2 a3 s3 e hi9 hw9 a4 s4 q10 q11 q12 f10 f11 f12 q10' q11' q12' f10' f11' f12' z0 hS0 hS1 r7 hx8n
          go_wp2_with fail
          with_reducible refine HAN.out.mono ?_
          rintro e wz ⟨rfl, qz, nz, hz, hsz, hnz⟩
          have HF : Hid (GW w wz nb q G (u + 3) (g + 2199023255552)) := hide ⟨qz, _, hz, (H9.out.1.nxt H9.out.1.m.next (n := nz) (by have : nz ≤ G7.m.on + 1 := hnz; show nz ≤ G7.m.on + 100; omega)).up (by omega), H7.out.2.2.1, H7.out.2.2.2.1, H7.out.2.2.2.2.1, by show G.commit ≤ (n1 : Int); have := HCM.out; have := H2.out.2.2.1.2.2.1; omega, H9.out.2.trans hsz⟩
          clear hz hsz hnz HAN
          go_wp2
          go_end0
          exact ⟨rfl, HF.out⟩
end
end Go.Proofs.YteppdlkmjgladaaGreat
