/- One text of: Ng Nh. -/
import Derived.Test.YteppdlkmjgladaaGreatQNA
namespace Go.Proofs.YteppdlkmjgladaaGreat
open Go.RowKit Go.Proofs Go.Maps
set_option linter.unusedVariables false
set_option linter.unusedSimpArgs false
theorem zA24 {α : Type} (l : List α) (i : Nat) (a : α) : l.toArray.setIfInBounds i a = (l.set i a).toArray := by simp
theorem zB24 {α : Type} (x a : α) (l : List α) : (x :: l).set 0 a = a :: l := rfl
theorem zC24 {α : Type} (x a : α) (l : List α) (n : Nat) : (x :: l).set (n + 1) a = x :: l.set n a := rfl

theorem run_eqI2 (n : Nat) (x y : Int) (w : World) : (Op.equalIn (n + 1) 3 (.int .i64 x) (.int .i64 y)).run Tryz.prog w = .ok (x == y) w := by
 simp [Op.equalIn, run_underlying Tryz.underlying3]
theorem balStood : Tryz.prog.stoodInHeld 90 = false := by kernel_rfl
theorem run_eqBalIn (n : Nat) (a b a' b' : Int) (w : World) : (Op.equalIn (n + 2) 90 (.agg #[.int .i64 a, .int .i64 b]) (.agg #[.int .i64 a', .int .i64 b'])).run Tryz.prog w = .ok (a == a' && b == b') w := by
 have h := run_eqI2 n
 have hp := balStood
 unfold Op.equalIn
 simp [run_underlying Tryz.underlying90, part, go_sem, Tryz.isAgg3, h]
 by_cases e1 : a = a' <;> by_cases e2 : b = b' <;> simp [e1, e2]
theorem run_eqBal (a b a' b' : Int) (w : World) : (binOp .eql 90 (.agg #[.int .i64 a, .int .i64 b]) (.agg #[.int .i64 a', .int .i64 b'])).run Tryz.prog w = .ok (.bool (a == a' && b == b')) w := by
 simp only [binOp]
 simp [Op.equal, Op.maxDepth, run_eqBalIn 9998]
def Nd.seeB (N : Nd) (t v : Int) : Nd := { N with bt := t, bv := v, role := if N.bt < t then 0 else N.role, leader := if N.bt < t then -1 else N.leader }
def Nd.keepB (N : Nd) (t v : Int) : Nd := if t = N.bt ∧ v = N.bv then N else (N.seeB t v).put 0 (bbytes t v)
section
variable {w w' : World} {nb : Nat} {p : Pl} {Fl Fv : List Nat} {N : Nd}
set_option maxHeartbeats 4000000 in
set_option maxRecDepth 100000 in
theorem nkeep_calls (h : NP w nb p Fl Fv N) {g : Nat} (hV : VltOk N.V g) (hg : g < 2 ^ 60) (t v : Int) (ht : 0 ≤ t ∧ t < 2 ^ 59) (hv : -1 ≤ v ∧ v < 2 ^ 59) :
  Calls Tryz.prog 58 #[.pointer (some ⟨nb, 0, none⟩), .agg #[.int .i64 t, .int .i64 v]] w fun e w' => e = .returned (.bool (!(N.keepB t v).dead)) ∧ PutT w w' nb p Fl Fv (N.keepB t v) ∧ VltOk (N.keepB t v).V (g + 1) := by
 obtain ⟨R, hR⟩ : ∃ R, N.keepB t v = R := ⟨_, rfl⟩
 rw [hR]
 unfold Nd.keepB at hR
 obtain ⟨w0, hw0⟩ : ∃ w0, w.alloc (.cells #[.int .i64 t, .int .i64 v] 90) = w0 := ⟨_, rfl⟩
 obtain ⟨xb, hxb⟩ : ∃ xb, w.heap.size = xb := ⟨_, rfl⟩
 have hb0 : Below w.heap.size w w0 := hw0 ▸ belowL (Below.refl _ _) _
 have bX : Blk w0 xb 90 [.int .i64 t, .int .i64 v] := by rw [← hw0, ← hxb]; exact Blk.new rfl
 have h0 := h.below hb0
 have r0 := Below.refl w0.heap.size w0
 have x0 := bX.rule 0 _ rfl
 have x1 := bX.rule 1 _ rfl
 have y3 := h0.blk.rule 3 _ rfl
 have y4 := h0.blk.rule 4 _ rfl
 have HW := hide (And.intro hw0 hxb)
 have heq := run_eqBal t v N.bt N.bv
 by_cases he : t = N.bt ∧ v = N.bv
 ·rw [if_pos he] at hR
  subst hR
  have hbq : (t == N.bt && v == N.bv) = true := by simp [he]
  rw [hbq] at heq
  have y2 := h0.blk.rule 2 _ rfl
  have HF := hide (And.intro (fun w' hb => PutT.stay (w' := w') h hb) (And.intro (hV.up (Nat.le_succ _)) hb0))
  clear h h0 hV bX hb0 hw0 hxb he hbq
  go_enter Tryz.func58, Tryz.ntmps58
  go_upto_region 1 with fail
  (try rw [HW.out.1])
  (try rw [HW.out.2])
  refine lxR (fun w' => Below w0.heap.size w0 w') [] 0 [(0, 0), (2, 1), (2, 2), (2, 3), (0, 4), (2, 5)] #[true, true, true, true, true, true] (by kernel_rfl) (by kernel_rfl) (by decide) (by kernel_rfl) (by kernel_rfl) (fun _ _ _ _ _ h => h) (by (exact r0.drew)) (fun hS0 => ?_)
  simp only [List.map_cons, List.map_nil, List.getElem?_toArray, List.getElem?_cons_succ, List.getElem?_cons_zero]
  (apply lxT (by rfl); (focus (intro w hw; (try dsimp only at hw); go_simp; (try with_reducible rfl); done)); simp only [Act.put, zA24, zB24, zC24]); (iterate 3 ((apply lxP (by rfl); (focus (intro w; go_simp; (try with_reducible rfl); done)); simp only [Act.put, zA24, zB24, zC24]))); (apply lxT (by rfl); (focus (intro w hw; (try dsimp only at hw); go_simp; (try with_reducible rfl); done)); simp only [Act.put, zA24, zB24, zC24]); (apply lxP (by rfl); (focus (intro w; go_simp; (try with_reducible rfl); done)); simp only [Act.put, zA24, zB24, zC24])
  refine lxN (fun _ => wqD (by kernel_rfl) ?_ _)
  have y2' := y2 _ r0.drew
  have HB := hide (belowA r0.drew HF.out.2.2)
  clear y2 y3 y4 x0 x1
  go_wp2
  go_ret
  exact ⟨rfl, HF.out.1 _ HB.out, HF.out.2.1⟩
 ·rw [if_neg he] at hR
  have hbq : (t == N.bt && v == N.bv) = false := by
   rw [Bool.and_eq_false_iff]
   simp only [beq_eq_false_iff_ne]
   by_cases h1 : t = N.bt
   ·exact Or.inr (fun h2 => he ⟨h1, h2⟩)
   ·exact Or.inl h1
  rw [hbq] at heq
  have H := hide (And.intro h0 (And.intro hV (And.intro hg (And.intro ht hv))))
  have HB0 := hide (And.intro hb0 bX)
  have HR := hide hR
  clear h h0 hV bX hb0 hw0 hxb he hbq ht hv hg hR
  by_cases htb : N.bt < t
  ·have u1 : decide (N.bt < t) = true := decide_eq_true htb
   go_enter Tryz.func58, Tryz.ntmps58
   go_upto_region 1 with fail
   (try rw [HW.out.1])
   (try rw [HW.out.2])
   refine lxR (fun w' => Below w0.heap.size w0 w') [] 0 [(0, 0), (2, 1), (2, 2), (2, 3), (0, 4), (2, 5)] #[true, true, true, true, true, true] (by kernel_rfl) (by kernel_rfl) (by decide) (by kernel_rfl) (by kernel_rfl) (fun _ _ _ _ _ h => h) (by (exact r0.drew)) (fun hS0 => ?_)
   simp only [List.map_cons, List.map_nil, List.getElem?_toArray, List.getElem?_cons_succ, List.getElem?_cons_zero]
   (apply lxT (by rfl); (focus (intro w hw; (try dsimp only at hw); go_simp; (try with_reducible rfl); done)); simp only [Act.put, zA24, zB24, zC24]); (iterate 3 ((apply lxP (by rfl); (focus (intro w; go_simp; (try with_reducible rfl); done)); simp only [Act.put, zA24, zB24, zC24]))); (apply lxT (by rfl); (focus (intro w hw; (try dsimp only at hw); go_simp; (try with_reducible rfl); done)); simp only [Act.put, zA24, zB24, zC24]); (apply lxP (by rfl); (focus (intro w; go_simp; (try with_reducible rfl); done)); simp only [Act.put, zA24, zB24, zC24])
   refine lxN (fun _ => wqD (by kernel_rfl) ?_ _)
   have r2 : Below w0.heap.size w0 w0.drew.drew := r0.drew.drew
   clear heq
   go_upto_region 3 with fail
   refine lxR (fun w' => Below w0.heap.size w0 w') [] 0 [(2, 0), (0, 1), (2, 2), (2, 3), (2, 4), (2, 5), (0, 6), (2, 7)] #[true, true, true, true, true, true, true, true] (by kernel_rfl) (by kernel_rfl) (by decide) (by kernel_rfl) (by kernel_rfl) (fun _ _ _ _ _ h => h) (by (exact r2)) (fun hS0 => ?_)
   simp only [List.map_cons, List.map_nil, List.getElem?_toArray, List.getElem?_cons_succ, List.getElem?_cons_zero]
   (apply lxP (by rfl); (focus (intro w; go_simp; (try with_reducible rfl); done)); simp only [Act.put, zA24, zB24, zC24]); (apply lxT (by rfl); (focus (intro w hw; (try dsimp only at hw); go_simp; (try with_reducible rfl); done)); simp only [Act.put, zA24, zB24, zC24]); (iterate 4 ((apply lxP (by rfl); (focus (intro w; go_simp; (try with_reducible rfl); done)); simp only [Act.put, zA24, zB24, zC24]))); (apply lxT (by rfl); (focus (intro w hw; (try dsimp only at hw); go_simp; (try with_reducible rfl); done)); simp only [Act.put, zA24, zB24, zC24]); (apply lxP (by rfl); (focus (intro w; go_simp; (try with_reducible rfl); done)); simp only [Act.put, zA24, zB24, zC24])
   refine lxN (fun _ => wqD (by kernel_rfl) ?_ _)
   have x0' := x0 _ r2
   have x1' := x1 _ r2
   have hn2 := H.out.1.below r2
   obtain ⟨w2, hw2⟩ : ∃ w2, w0.drew.drew = w2 := ⟨_, rfl⟩
   rw [hw2] at x0' x1' hn2 r2
   rw [hw2]
   clear y3 y4 x0 x1 hS0 hw2
   have q3 := hn2.blk.cell 3
   have q4 := hn2.blk.cell 4
   have q13 := hn2.blk.cell 13
   have q14 := hn2.blk.cell 14
   have f3 := hn2.blk.frozen 3
   have f4 := hn2.blk.frozen 4
   have f13 := hn2.blk.frozen 13
   have f14 := hn2.blk.frozen 14
   simp only [Nd.cells, List.getElem?_cons_succ, List.getElem?_cons_zero] at q3 q4 q13 q14
   have hne : xb ≠ nb := fun e => by
    have h1 := HB0.out.2
    rw [e] at h1
    exact absurd (h1.one H.out.1.blk).2 (by decide)
   have hne' : nb ≠ xb := fun e => hne e.symm
   have b3 := (((hn2.blk.set 13 (.int .i64 0)).set 14 (.int .i64 (-1))).set 3 (.int .i64 t)).set 4 (.int .i64 v)
   obtain ⟨w3, hw3⟩ : ∃ w3, (((w2.setCell ⟨nb, 13, none⟩ (.int .i64 0)).setCell ⟨nb, 14, none⟩ (.int .i64 (-1))).setCell ⟨nb, 3, none⟩ (.int .i64 t)).setCell ⟨nb, 4, none⟩ (.int .i64 v) = w3 := ⟨_, rfl⟩
   have c3 : Chg [nb] w2 w3 := by rw [← hw3]; exact ((((Chg.refl [nb] w2).setCell (p := ⟨nb, 13, none⟩) (Or.inl (by simp)) _).setCell (p := ⟨nb, 14, none⟩) (Or.inl (by simp)) _).setCell (p := ⟨nb, 3, none⟩) (Or.inl (by simp)) _).setCell (p := ⟨nb, 4, none⟩) (Or.inl (by simp)) _
   rw [hw3] at b3
   have h3 := hn2.own c3 (dead := N.dead) (bt := t) (bv := v) (commit := N.commit) (told := N.told) (role := 0) (leader := -1) (quiet := N.quiet) (beats := N.beats) b3
   have hse : N.seeB t v = { N with bt := t, bv := v, role := 0, leader := -1 } := by unfold Nd.seeB; rw [if_pos htb, if_pos htb]
   have hbo := bbytes_ok (t := t) (v := v) (by have := H.out; omega) (by have := H.out; omega)
   have HBB := hide (ballb_calls (w := w3) t v ⟨by have := H.out; omega, by have := H.out; omega⟩ ⟨by have := H.out; omega, by have := H.out; omega⟩)
   have H3 := hide (And.intro (hse ▸ h3) (And.intro (((Chg.of_below (L := nb :: Fv) (belowA r2 HB0.out.1)).trans c3 (fun z hz => Or.inl (by rw [List.mem_singleton.1 hz]; simp)))) hbo))
   have HW3 := hide hw3
   clear b3 c3 h3 hse hn2 hw3 hbo
   go_wp2_with fail
   (try rw [HW3.out])
   with_reducible refine HBB.out.mono ?_
   rintro e w4 ⟨A4, c4, rfl, ho4, hb4⟩
   have hpu := nput_calls (H3.out.1.below hb4) (show VltOk (N.seeB t v).V g from H.out.2.1) H.out.2.2.1 0 ho4.bt H3.out.2.2.2 (by have := H3.out.2.2.1; omega)
   rw [HR.out] at hpu
   have HPU := hide hpu
   have HC4 := hide (H3.out.2.1.below hb4)
   clear hpu ho4 hb4 HBB
   go_wp2_with fail
   with_reducible refine HPU.out.mono ?_
   rintro e w5 ⟨rfl, hp5, hok5⟩
   have H5 := hide (And.intro (PutT.step HC4.out (fun x hx => Or.inl hx) hp5) hok5)
   clear hp5 hok5 HPU
   go_wp2
   go_ret
   exact ⟨rfl, H5.out⟩
  ·have u1 : decide (N.bt < t) = false := decide_eq_false htb
   go_enter Tryz.func58, Tryz.ntmps58
   go_upto_region 1 with fail
   (try rw [HW.out.1])
   (try rw [HW.out.2])
   refine lxR (fun w' => Below w0.heap.size w0 w') [] 0 [(0, 0), (2, 1), (2, 2), (2, 3), (0, 4), (2, 5)] #[true, true, true, true, true, true] (by kernel_rfl) (by kernel_rfl) (by decide) (by kernel_rfl) (by kernel_rfl) (fun _ _ _ _ _ h => h) (by (exact r0.drew)) (fun hS0 => ?_)
   simp only [List.map_cons, List.map_nil, List.getElem?_toArray, List.getElem?_cons_succ, List.getElem?_cons_zero]
   (apply lxT (by rfl); (focus (intro w hw; (try dsimp only at hw); go_simp; (try with_reducible rfl); done)); simp only [Act.put, zA24, zB24, zC24]); (iterate 3 ((apply lxP (by rfl); (focus (intro w; go_simp; (try with_reducible rfl); done)); simp only [Act.put, zA24, zB24, zC24]))); (apply lxT (by rfl); (focus (intro w hw; (try dsimp only at hw); go_simp; (try with_reducible rfl); done)); simp only [Act.put, zA24, zB24, zC24]); (apply lxP (by rfl); (focus (intro w; go_simp; (try with_reducible rfl); done)); simp only [Act.put, zA24, zB24, zC24])
   refine lxN (fun _ => wqD (by kernel_rfl) ?_ _)
   have r2 : Below w0.heap.size w0 w0.drew.drew := r0.drew.drew
   clear heq
   go_upto_region 3 with fail
   refine lxR (fun w' => Below w0.heap.size w0 w') [] 0 [(2, 0), (0, 1), (2, 2), (2, 3), (2, 4), (2, 5), (0, 6), (2, 7)] #[true, true, true, true, true, true, true, true] (by kernel_rfl) (by kernel_rfl) (by decide) (by kernel_rfl) (by kernel_rfl) (fun _ _ _ _ _ h => h) (by (exact r2)) (fun hS0 => ?_)
   simp only [List.map_cons, List.map_nil, List.getElem?_toArray, List.getElem?_cons_succ, List.getElem?_cons_zero]
   (apply lxP (by rfl); (focus (intro w; go_simp; (try with_reducible rfl); done)); simp only [Act.put, zA24, zB24, zC24]); (apply lxT (by rfl); (focus (intro w hw; (try dsimp only at hw); go_simp; (try with_reducible rfl); done)); simp only [Act.put, zA24, zB24, zC24]); (iterate 4 ((apply lxP (by rfl); (focus (intro w; go_simp; (try with_reducible rfl); done)); simp only [Act.put, zA24, zB24, zC24]))); (apply lxT (by rfl); (focus (intro w hw; (try dsimp only at hw); go_simp; (try with_reducible rfl); done)); simp only [Act.put, zA24, zB24, zC24]); (apply lxP (by rfl); (focus (intro w; go_simp; (try with_reducible rfl); done)); simp only [Act.put, zA24, zB24, zC24])
   refine lxN (fun _ => wqD (by kernel_rfl) ?_ _)
   have x0' := x0 _ r2
   have x1' := x1 _ r2
   have hn2 := H.out.1.below r2
   obtain ⟨w2, hw2⟩ : ∃ w2, w0.drew.drew = w2 := ⟨_, rfl⟩
   rw [hw2] at x0' x1' hn2 r2
   rw [hw2]
   clear y3 y4 x0 x1 hS0 hw2
   have q3 := hn2.blk.cell 3
   have q4 := hn2.blk.cell 4
   have f3 := hn2.blk.frozen 3
   have f4 := hn2.blk.frozen 4
   simp only [Nd.cells, List.getElem?_cons_succ, List.getElem?_cons_zero] at q3 q4
   have hne : xb ≠ nb := fun e => by
    have h1 := HB0.out.2
    rw [e] at h1
    exact absurd (h1.one H.out.1.blk).2 (by decide)
   have hne' : nb ≠ xb := fun e => hne e.symm
   have b3 := (hn2.blk.set 3 (.int .i64 t)).set 4 (.int .i64 v)
   obtain ⟨w3, hw3⟩ : ∃ w3, (w2.setCell ⟨nb, 3, none⟩ (.int .i64 t)).setCell ⟨nb, 4, none⟩ (.int .i64 v) = w3 := ⟨_, rfl⟩
   have c3 : Chg [nb] w2 w3 := by rw [← hw3]; exact ((Chg.refl [nb] w2).setCell (p := ⟨nb, 3, none⟩) (Or.inl (by simp)) _).setCell (p := ⟨nb, 4, none⟩) (Or.inl (by simp)) _
   rw [hw3] at b3
   have h3 := hn2.own c3 (dead := N.dead) (bt := t) (bv := v) (commit := N.commit) (told := N.told) (role := N.role) (leader := N.leader) (quiet := N.quiet) (beats := N.beats) b3
   have hse : N.seeB t v = { N with bt := t, bv := v, role := N.role, leader := N.leader } := by unfold Nd.seeB; rw [if_neg htb, if_neg htb]
   have hbo := bbytes_ok (t := t) (v := v) (by have := H.out; omega) (by have := H.out; omega)
   have HBB := hide (ballb_calls (w := w3) t v ⟨by have := H.out; omega, by have := H.out; omega⟩ ⟨by have := H.out; omega, by have := H.out; omega⟩)
   have H3 := hide (And.intro (hse ▸ h3) (And.intro (((Chg.of_below (L := nb :: Fv) (belowA r2 HB0.out.1)).trans c3 (fun z hz => Or.inl (by rw [List.mem_singleton.1 hz]; simp)))) hbo))
   have HW3 := hide hw3
   clear b3 c3 h3 hse hn2 hw3 hbo
   go_wp2_with fail
   (try rw [HW3.out])
   with_reducible refine HBB.out.mono ?_
   rintro e w4 ⟨A4, c4, rfl, ho4, hb4⟩
   have hpu := nput_calls (H3.out.1.below hb4) (show VltOk (N.seeB t v).V g from H.out.2.1) H.out.2.2.1 0 ho4.bt H3.out.2.2.2 (by have := H3.out.2.2.1; omega)
   rw [HR.out] at hpu
   have HPU := hide hpu
   have HC4 := hide (H3.out.2.1.below hb4)
   clear hpu ho4 hb4 HBB
   go_wp2_with fail
   with_reducible refine HPU.out.mono ?_
   rintro e w5 ⟨rfl, hp5, hok5⟩
   have H5 := hide (And.intro (PutT.step HC4.out (fun x hx => Or.inl hx) hp5) hok5)
   clear hp5 hok5 HPU
   go_wp2
   go_ret
   exact ⟨rfl, H5.out⟩
end
end Go.Proofs.YteppdlkmjgladaaGreat

namespace Go.Proofs.YteppdlkmjgladaaGreat
open Go.RowKit Go.Proofs Go.Maps
set_option linter.unusedVariables false
set_option linter.unusedSimpArgs false

def bi (b : List Nat) : List Int := b.map fun (x : Nat) => (x : Int)
theorem bi_len (b : List Nat) : (bi b).length = b.length := List.length_map ..
def NodeP (w w' : World) (nb : Nat) (p : Pl) (Fl Fv : List Nat) (N : Nd) : Prop := ∃ Fl' Fv', NP w' nb p Fl' Fv' N ∧ Chg (ft nb p Fl Fv) w w' ∧ (∀ x ∈ Fl', x ∈ Fl ∨ w.heap.size ≤ x) ∧ ∀ x ∈ Fv', x ∈ Fv ∨ w.heap.size ≤ x
def Nd.pushE (N : Nd) (kind : Nat) (b : List Nat) : Nd :=
 let N1 := ({ N with L := N.L ++ [(N.bt, (kind : Int), bi b)] } : Nd).put (1000 + (N.L.length + 1 : Nat)) (ebytes N.bt.toNat kind b)
 if N1.dead then N1 else { N1 with mat := upd N1.mat N.id (some (N.L.length + 1 : Nat)) }
section
variable {w w' : World} {nb : Nat} {p : Pl} {Fl Fv : List Nat} {N : Nd}
theorem ft_mem {x : Nat} : x ∈ ft nb p Fl Fv ↔ x = nb ∨ x = p.nx ∨ x = p.mx ∨ x ∈ Fl ∨ x ∈ Fv := by
 unfold ft
 simp only [List.mem_cons, List.mem_append]
theorem PutT.nodeP (h : PutT w w' nb p Fl Fv N) : NodeP w w' nb p Fl Fv N := by
 obtain ⟨Fv', h1, h2, h3⟩ := h
 exact ⟨Fl, Fv', h1, h2.mono (fun z hz => Or.inl (ft_mem.2 ((List.mem_cons.1 hz).imp id (fun h => Or.inr (Or.inr (Or.inr h)))))), fun x hx => Or.inl hx, h3⟩
theorem ft_step {s : Nat} {Fl' Fv' : List Nat} (hl : ∀ x ∈ Fl', x ∈ Fl ∨ s ≤ x) (hv : ∀ x ∈ Fv', x ∈ Fv ∨ s ≤ x) : ∀ x ∈ ft nb p Fl' Fv', x ∈ ft nb p Fl Fv ∨ s ≤ x := fun x hx => by
 rcases ft_mem.1 hx with h | h | h | h | h
 ·exact Or.inl (ft_mem.2 (Or.inl h))
 ·exact Or.inl (ft_mem.2 (Or.inr (Or.inl h)))
 ·exact Or.inl (ft_mem.2 (Or.inr (Or.inr (Or.inl h))))
 ·exact (hl x h).imp (fun h => ft_mem.2 (Or.inr (Or.inr (Or.inr (Or.inl h))))) id
 ·exact (hv x h).imp (fun h => ft_mem.2 (Or.inr (Or.inr (Or.inr (Or.inr h))))) id
theorem NodeP.step {w1 w2 : World} {Fl1 Fv1 : List Nat} (hc : Chg (ft nb p Fl Fv) w w1) (hl : ∀ x ∈ Fl1, x ∈ Fl ∨ w.heap.size ≤ x) (hv : ∀ x ∈ Fv1, x ∈ Fv ∨ w.heap.size ≤ x) (h : NodeP w1 w2 nb p Fl1 Fv1 N) : NodeP w w2 nb p Fl Fv N := by
 obtain ⟨Fl', Fv', h1, h2, h3, h4⟩ := h
 exact ⟨Fl', Fv', h1, hc.trans h2 (ft_step hl hv), fun x hx => (h3 x hx).elim (hl x) (fun h => Or.inr (Nat.le_trans hc.size h)), fun x hx => (h4 x hx).elim (hv x) (fun h => Or.inr (Nat.le_trans hc.size h))⟩
theorem NodeP.node (h : NodeP w w' nb p Fl Fv N) : NodeT w w' nb (ft nb p Fl Fv) N := by
 obtain ⟨Fl', Fv', h1, h2, h3, h4⟩ := h
 exact ⟨_, ⟨p, Fl', Fv', h1, rfl⟩, h2, ft_step h3 h4⟩
theorem NodeP.stay (h : NP w nb p Fl Fv N) (hb : Below w.heap.size w w') : NodeP w w' nb p Fl Fv N := ⟨Fl, Fv, h.below hb, Chg.of_below hb, fun x hx => Or.inl hx, fun x hx => Or.inl hx⟩
theorem Bt.ent {A : Option Addr} {c : Nat} {b : List Nat} (h : Bt w A c b) (hb : ∀ x ∈ b, x < 256) (hc : c ≤ maxLen) (t k : Int) : EntOk w ⟨t, k, A, c, bi b⟩ := by
 refine ⟨by rw [bi_len]; exact h.rb.le, hc, fun x hx => ?_, fun a ha => (h.rb.ap a ha).1, fun a ha => ?_, fun h0 => ?_⟩
 ·obtain ⟨y, hy, rfl⟩ := List.mem_map.1 hx
  have := hb y hy
  omega
 ·obtain ⟨cs, hbk⟩ := h.ty a ha
  exact ⟨cs.toArray, (0, 0), hbk⟩
 ·rw [bi_len] at h0
  obtain ⟨g, o, e, _, _, hc⟩ := h.rb.at_ h0
  obtain ⟨cs, hbk⟩ := h.ty _ e
  refine ⟨g, o, e, ⟨cs.toArray, (0, 0), hbk⟩, fun j x hx => ?_⟩
  have hj : j < b.length := by have := (List.getElem?_eq_some_iff.1 hx).1; rw [bi_len] at this; exact this
  rw [show (bi b)[j]? = some ((b[j] : Nat) : Int) by unfold bi; rw [List.getElem?_map, List.getElem?_eq_getElem hj]; rfl] at hx
  cases hx
  exact hc j hj
theorem EntOk.rb {t k : Int} {A : Option Addr} {c : Nat} {b : List Nat} (h : EntOk w ⟨t, k, A, c, bi b⟩) : Rb w [] A c b := by
 obtain ⟨h1, h2, h3, h4, h5, h6⟩ := h
 rw [bi_len] at h1
 simp only [bi_len] at h6
 refine ⟨h1, ⟨by simp [bys], fun h0 => ?_⟩, fun a ha => ⟨h4 a ha, by simp, (h5 a ha).lt⟩⟩
 obtain ⟨g, o, e, hb, hc⟩ := h6 h0
 refine ⟨g, o, e, hb.lt, fun j u hu => ?_⟩
 have hj : j < b.length := by have := (List.getElem?_eq_some_iff.1 hu).1; simpa [bys] using this
 have hu2 : u = .int .u8 ((b[j] : Nat) : Int) := by
  unfold bys at hu
  rw [List.getElem?_map, List.getElem?_eq_getElem hj] at hu
  simpa using hu.symm
 rw [hu2]
 exact hc j _ (by unfold bi; rw [List.getElem?_map, List.getElem?_eq_getElem hj]; rfl)
set_option maxHeartbeats 4000000 in
set_option maxRecDepth 100000 in
theorem npush_calls (h : NP w nb p Fl Fv N) {g : Nat} (hV : VltOk N.V g) (hg : g < 2 ^ 60) (ht : 0 ≤ N.bt ∧ N.bt < 2 ^ 59) (hid : 0 ≤ N.id ∧ N.id ≤ 15) (hln : N.L.length ≤ 100000) (kind : Nat) (hk : kind < 2 ^ 59) {A : Option Addr} {c : Nat} {b : List Nat} (hb : Bt w A c b) (hbb : ∀ x ∈ b, x < 256) (hbl : b.length ≤ 50000) (hcm : c ≤ maxLen) :
  Calls Tryz.prog 43 #[.pointer (some ⟨nb, 0, none⟩), .int .i64 kind, .slice A b.length c] w fun e w' => e = .returned (.int .i64 (N.L.length + 1 : Nat)) ∧ NodeP w w' nb p Fl Fv (N.pushE kind b) ∧ VltOk (N.pushE kind b).V (g + 1) := by
 obtain ⟨R, hR⟩ : ∃ R, N.pushE kind b = R := ⟨_, rfl⟩
 rw [hR]
 unfold Nd.pushE at hR
 obtain ⟨NL, hNL⟩ : ∃ NL, ({ N with L := N.L ++ [(N.bt, (kind : Int), bi b)] } : Nd) = NL := ⟨_, rfl⟩
 simp only [hNL] at hR
 have hNLV : NL.V = N.V ∧ NL.id = N.id := by rw [← hNL]; exact ⟨rfl, rfl⟩
 have HNL := hide (And.intro hNL hNLV)
 clear hNL hNLV
 obtain ⟨t, htn⟩ : ∃ t : Nat, N.bt = t := ⟨N.bt.toNat, by omega⟩
 have y3 : w.cell? ⟨nb, 3, none⟩ = some (.int .i64 t) := by have := h.blk.cell 3; simp only [Nd.cells, List.getElem?_cons_succ, List.getElem?_cons_zero, htn] at this; exact this
 rw [show N.bt.toNat = t by omega] at hR
 obtain ⟨w0, hw0⟩ : ∃ w0, w.alloc (.cells #[.int .i64 t, .int .i64 kind, .slice A b.length c] 73) = w0 := ⟨_, rfl⟩
 obtain ⟨xb, hxb⟩ : ∃ xb, w.heap.size = xb := ⟨_, rfl⟩
 have hb0 : Below w.heap.size w w0 := hw0 ▸ belowL (Below.refl _ _) _
 have bX : Blk w0 xb 73 [.int .i64 t, .int .i64 kind, .slice A b.length c] := by rw [← hw0, ← hxb]; exact Blk.new rfl
 have h0 := h.below hb0
 have r0 := Below.refl w0.heap.size w0
 have x0 := bX.rule 0 _ rfl
 have x1 := bX.rule 1 _ rfl
 have x2 := bX.rule 2 _ rfl
 have y9 := h0.blk.rule 9 _ rfl
 have HLP := lg_push (w := w0.drew) (p := p.lb) ⟨(t : Int), (kind : Int), A, c, bi b⟩ (h0.log.below r0.drew) ((hb.below (belowA r0.drew hb0)).ent hbb hcm t kind) (Int.le_refl _) (by omega) (by omega) (by rw [bi_len]; omega)
 simp only [bi_len, Int.zero_add, Ent.con] at HLP
 obtain ⟨i, hi⟩ : ∃ i, N.L.length + 1 = i := ⟨_, rfl⟩
 have hii : ((N.L.length : Nat) : Int) + 1 = (i : Int) := by omega
 rw [hi] at hR ⊢
 rw [hii] at HLP
 have q1 : IntKind.i64.wrap (1000 + (i : Int)) = 1000 + (i : Int) := IntWalk.i64_in _ (by omega)
 have hil : (i : Int) ≤ 100001 := by omega
 have hFl : ∀ x ∈ Fl, x < xb := fun x hx => by rw [← hxb]; exact h.log.lt x hx
 have HFL := hide hFl
 have HW := hide (And.intro hw0 hxb)
 have HLP := hide HLP
 have H := hide (And.intro h0 (And.intro hV (And.intro hg (And.intro hb0 (And.intro bX (And.intro hid htn))))))
 have HB := hide (And.intro hb (And.intro hbb (And.intro hbl (show t < 2 ^ 60 by omega))))
 have HR := hide hR
 clear hFl h h0 hV hb hbb hb0 bX hw0 hxb hR hi hii ht htn hid
 go_enter Tryz.func43, Tryz.ntmps43
 go_upto_region 2 with fail
 (try rw [HW.out.1])
 (try rw [HW.out.2])
 refine lxR (fun w' => Below w0.heap.size w0 w') [5] 0 [(2, 0), (2, 1), (2, 2), (0, 3), (0, 4), (3, 5), (2, 6)] #[true, true, true, true, true, true, true] (by kernel_rfl) (by kernel_rfl) (by decide) (by kernel_rfl) (by kernel_rfl) (fun _ _ _ _ _ h => h) (by (exact r0.drew)) (fun hS0 => ?_)
 simp only [List.map_cons, List.map_nil, List.getElem?_toArray, List.getElem?_cons_succ, List.getElem?_cons_zero]
 (iterate 3 ((apply lxP (by rfl); (focus (intro w; go_simp; (try with_reducible rfl); done)); simp only [Act.put, zA24, zB24, zC24]))); (iterate 2 ((apply lxT (by rfl); (focus (intro w hw; (try dsimp only at hw); go_simp; (try with_reducible rfl); done)); simp only [Act.put, zA24, zB24, zC24]))); (refine lxF (by rfl) ?_; go_simp; ((go_at_call 40; with_reducible refine HLP.out.mono ?_; rintro e w2 ⟨Fl2, rfl, hl2, hc2, hf2⟩))); (apply lxP (by rfl); (focus (intro w; go_simp; (try with_reducible rfl); done)); simp only [Act.put, zA24, zB24, zC24])
 refine lxN (fun _ => wqD (by kernel_rfl) ?_ _)
 have hl0 : Below w.heap.size w w0.drew := belowA r0.drew H.out.2.2.2.1
 rw [← H.out.2.2.2.2.2.2] at hl2
 have hn2 := (H.out.1.below r0.drew).logT hl2 hc2 (fun x hx => hf2 x hx)
 rw [HNL.out.1] at hn2
 have hxF : xb ∉ Fl := fun hx => by have := HFL.out xb hx; omega
 have bX2 := (H.out.2.2.2.2.1.below r0.drew).chg hc2 hxF
 have hh := (H.out.1.log.below r0.drew).hard
 have hb2 : Bt w2 A c b := (HB.out.1.below hl0).chg hc2 hh.nob
 have x0' : w2.cell? ⟨xb, 0, none⟩ = some (.int .i64 t) := bX2.cell 0
 have x1' : w2.cell? ⟨xb, 1, none⟩ = some (.int .i64 kind) := bX2.cell 1
 have x2' : w2.cell? ⟨xb, 2, none⟩ = some (.slice A b.length c) := bX2.cell 2
 have heb := ebytes_ok (t := t) (k := kind) HB.out.2.2.2 (by omega) HB.out.2.1 (by have := HB.out.2.2.1; omega)
 have HEB := hide (entb_calls (w := w2) t kind hb2.rb HB.out.2.2.2 (by omega) (by have := HB.out.2.2.1; omega))
 have hcF : Chg (ft nb p Fl Fv) w w2 := (Chg.of_below hl0).trans hc2 (fun z hz => Or.inl (ft_mem.2 (Or.inr (Or.inr (Or.inr (Or.inl hz))))))
 have hfF : ∀ x ∈ Fl2, x ∈ Fl ∨ w.heap.size ≤ x := fun x hx => (hf2 x hx).imp id (fun h => Nat.le_trans hl0.size h)
 have H2 := hide (And.intro hn2 (And.intro hcF (And.intro hfF heb)))
 clear hl2 hc2 hf2 hl0 hn2 hxF bX2 hh hb2 hcF hfF heb x0 x1 x2 y9 hS0 HLP
 go_wp2_with fail
 with_reducible refine HEB.out.mono ?_
 rintro e w3 ⟨A3, c3, rfl, ho3, hb3⟩
 obtain ⟨EB, hEB⟩ : ∃ EB, ebytes t kind b = EB := ⟨_, rfl⟩
 have H2' := H2.out
 rw [hEB] at ho3 HR H2' ⊢
 have hpu := nput_calls (H2'.1.below hb3) (show VltOk NL.V g by rw [HNL.out.2.1]; exact H.out.2.1) H.out.2.2.1 (1000 + (i : Int)) ho3.bt H2'.2.2.2.2 (by have := H2'.2.2.2.1; have := HB.out.2.2.1; omega)
 have HC3 := hide (And.intro (H2'.2.1.below hb3) H2'.2.2.1)
 have hR := HR.out
 have hide1 : (NL.put (1000 + (i : Int)) EB).id = N.id := by
  unfold Nd.put
  split <;> exact HNL.out.2.2
 obtain ⟨N1, hN1⟩ : ∃ N1, NL.put (1000 + (i : Int)) EB = N1 := ⟨_, rfl⟩
 simp only [hN1] at hR hpu hide1
 have HPU := hide hpu
 have HI := hide hide1
 clear hN1 hpu ho3 hb3 H2' HEB x0' x1' x2' hide1 HR H2
 go_wp2_with fail
 with_reducible refine HPU.out.mono ?_
 rintro e w4 ⟨rfl, ⟨Fv4, h4, hc4, hF4⟩, hok4⟩
 have hcc : Chg (ft nb p Fl Fv) w w4 := HC3.out.1.trans hc4 (fun z hz => Or.inl (ft_mem.2 ((List.mem_cons.1 hz).imp id (fun h => Or.inr (Or.inr (Or.inr h))))))
 have hF4' : ∀ x ∈ Fv4, x ∈ Fv ∨ w.heap.size ≤ x := fun x hx => (hF4 x hx).imp id (fun h => Nat.le_trans HC3.out.1.size h)
 have H4 := hide (And.intro h4 (And.intro hcc (And.intro hF4' hok4)))
 clear h4 hc4 hF4 hcc hF4' hok4 HPU
 by_cases hd : N1.dead = true
 ·rw [if_pos hd] at hR
  subst hR
  have hd2 : (!N1.dead) = false := by rw [hd]; rfl
  rw [hd2]
  go_wp2
  go_ret
  exact ⟨rfl, ⟨Fl2, Fv4, H4.out.1, H4.out.2.1, HC3.out.2, H4.out.2.2.1⟩, H4.out.2.2.2⟩
 ·rw [if_neg hd] at hR
  have hd2 : (!N1.dead) = true := by simpa using hd
  rw [hd2]
  have r4 := Below.refl w4.heap.size w4
  have y19 := H4.out.1.blk.rule 19 _ rfl
  have y0 := H4.out.1.blk.rule 0 _ rfl
  rw [HI.out] at y0
  have HMX := hide (H4.out.1.mx.chg (L := []) (Chg.of_below r4.drew) (by simp))
  have HID := hide (And.intro H.out.2.2.2.2.2.1 (show i64ok (i : Int) by unfold i64ok; omega))
  go_upto_region 4 with fail
  refine lxR (fun w' => Below w4.heap.size w4 w') [9] 0 [(2, 0), (2, 1), (2, 2), (0, 3), (2, 4), (2, 5), (2, 6), (0, 7), (2, 8), (3, 9)] #[true, true, true, true, true, true, true, true, true, true] (by kernel_rfl) (by kernel_rfl) (by decide) (by kernel_rfl) (by kernel_rfl) (fun _ _ _ _ _ h => h) (by (exact r4.drew)) (fun hS0 => ?_)
  simp only [List.map_cons, List.map_nil, List.getElem?_toArray, List.getElem?_cons_succ, List.getElem?_cons_zero]
  (iterate 3 ((apply lxP (by rfl); (focus (intro w; go_simp; (try with_reducible rfl); done)); simp only [Act.put, zA24, zB24, zC24]))); (apply lxT (by rfl); (focus (intro w hw; (try dsimp only at hw); go_simp; (try with_reducible rfl); done)); simp only [Act.put, zA24, zB24, zC24]); (iterate 3 ((apply lxP (by rfl); (focus (intro w; go_simp; (try with_reducible rfl); done)); simp only [Act.put, zA24, zB24, zC24]))); (apply lxT (by rfl); (focus (intro w hw; (try dsimp only at hw); go_simp; (try with_reducible rfl); done)); simp only [Act.put, zA24, zB24, zC24]); (apply lxP (by rfl); (focus (intro w; go_simp; (try with_reducible rfl); done)); simp only [Act.put, zA24, zB24, zC24]); (refine lxF (by rfl) ?_; (refine IM.wp_putR _ _ _ rfl rfl rfl rfl HMX.out HID.out.1 HID.out.2 ?_; intro w5 hm5 hc5); simp only [Act.put])
  refine lxN (fun _ => wqD (by kernel_rfl) ?_ _)
  have h5 := (H4.out.1.below r4.drew).matT hm5 (by exact hc5)
  have hc05 : Chg (ft nb p Fl Fv) w w5 := (H4.out.2.1.below r4.drew).trans hc5 (fun z hz => Or.inl (ft_mem.2 (Or.inr (Or.inr (Or.inl (List.mem_singleton.1 hz))))))
  have H5 := hide (And.intro h5 hc05)
  have HR := hide hR
  clear h5 hc05 hm5 hc5 y19 y0 HMX hR hd hd2
  go_wp2
  go_ret
  obtain rfl := HR.out
  exact ⟨rfl, ⟨Fl2, Fv4, H5.out.1, H5.out.2, HC3.out.2, H4.out.2.2.1⟩, H4.out.2.2.2⟩
end
end Go.Proofs.YteppdlkmjgladaaGreat
