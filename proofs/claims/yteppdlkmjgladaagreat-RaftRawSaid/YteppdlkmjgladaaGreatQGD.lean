/- One text of: Gn Go. -/
import Derived.Test.YteppdlkmjgladaaGreatQGC
namespace Go.Proofs.YteppdlkmjgladaaGreat
open Go.RowKit Go.Proofs Go.Maps
set_option linter.unusedVariables false
set_option linter.unusedSimpArgs false
theorem zA36 {α : Type} (l : List α) (i : Nat) (a : α) : l.toArray.setIfInBounds i a = (l.set i a).toArray := by simp
theorem zB36 {α : Type} (x a : α) (l : List α) : (x :: l).set 0 a = a :: l := rfl
theorem zC36 {α : Type} (x a : α) (l : List α) (n : Nat) : (x :: l).set (n + 1) a = x :: l.set n a := rfl

def RB (e : Ending) : Prop := ∃ r : Bool, e = .returned (.bool r)
def GRT (t tm : Int) (e : Ending) : Prop := ∃ t' v' r, e = .returned (.tuple #[.agg #[.int .i64 t', .int .i64 v'], .bool r]) ∧ (t ≤ t' ∧ (t' = t ∨ t' = tm)) ∧ -1 ≤ v' ∧ v' ≤ 15
section
variable {w : World}
set_option maxHeartbeats 400000 in
theorem bsee_calls (t v tm : Int) : Calls Tryz.prog 59 #[.agg #[.int .i64 t, .int .i64 v], .int .i64 tm] w fun e w' => e = .returned (.agg #[.int .i64 (if t < tm then tm else t), .int .i64 (if t < tm then -1 else v)]) ∧ Below w.heap.size w w' := by
 have r0 := Below.refl w.heap.size w
 by_cases h : t < tm
 ·rw [if_pos h, if_pos h]
  go_enter Tryz.func59, Tryz.ntmps59
  go_wp2
  exact bodyPost_ret (v := .agg #[.int .i64 tm, .int .i64 (-1)]) (by simp [results, Tryz.results59, go_sem, *]) rfl ⟨rfl, by repeat (first | exact r0 | refine Below.setCell ?_ (by simp <;> omega) _ | refine belowL ?_ _)⟩
 ·rw [if_neg h, if_neg h]
  go_enter Tryz.func59, Tryz.ntmps59
  go_wp2
  exact bodyPost_ret (v := .agg #[.int .i64 t, .int .i64 v]) (by simp [results, Tryz.results59, go_sem, *]) rfl ⟨rfl, by repeat (first | exact r0 | refine Below.setCell ?_ (by simp <;> omega) _ | refine belowL ?_ _)⟩
set_option maxHeartbeats 400000 in
theorem basnew_calls (a b c d : Int) : Calls Tryz.prog 96 #[.int .i64 a, .int .i64 b, .int .i64 c, .int .i64 d] w fun e w' => RB e ∧ w' = w := by
 by_cases h1 : c < a
 ·go_enter Tryz.func96, Tryz.ntmps96
  go_wp2
  go_ret
  exact ⟨⟨_, rfl⟩, rfl⟩
 ·by_cases h2 : a = c
  ·subst h2
   go_enter Tryz.func96, Tryz.ntmps96
   go_wp2
   go_ret
   exact ⟨⟨_, rfl⟩, rfl⟩
  ·go_enter Tryz.func96, Tryz.ntmps96
   go_wp2
   go_ret
   exact ⟨⟨_, rfl⟩, rfl⟩
set_option maxHeartbeats 400000 in
theorem bisid_calls (x : Int) (h : 0 ≤ x ∧ x ≤ 15) : Calls Tryz.prog 126 #[.int .i64 x] w fun e w' => e = .returned (.bool true) ∧ w' = w := by
 have h1 := h.1
 have h2 := h.2
 go_enter Tryz.func126, Tryz.ntmps126
 go_wp2
 go_ret
 exact ⟨rfl, rfl⟩
set_option maxHeartbeats 2000000 in
theorem bgrant_calls (t v tm x : Int) (n : Bool) (hv : -1 ≤ v ∧ v ≤ 15) (hx : 0 ≤ x ∧ x ≤ 15) : Calls Tryz.prog 95 #[.agg #[.int .i64 t, .int .i64 v], .int .i64 tm, .int .i64 x, .bool n] w fun e w' => GRT t tm e ∧ Below w.heap.size w w' := by
 have r0 := Below.refl w.heap.size w
 obtain ⟨T, hT⟩ : ∃ T, (if t < tm then tm else t) = T := ⟨_, rfl⟩
 obtain ⟨Z, hZ⟩ : ∃ Z, (if t < tm then -1 else v) = Z := ⟨_, rfl⟩
 have HT := hide (show t ≤ T ∧ (T = t ∨ T = tm) by split at hT <;> omega)
 have HZ := hide (show -1 ≤ Z ∧ Z ≤ 15 by split at hZ <;> omega)
 have HX := hide hx
 have HSE := hide (fun (w' : World) => bsee_calls (w := w') t v tm)
 rw [hT, hZ] at HSE
 have HID := hide (fun (w' : World) => bisid_calls (w := w') x hx)
 clear hT hZ hv hx
 obtain ⟨xb, hxb⟩ : ∃ xb, w.heap.size = xb := ⟨_, rfl⟩
 obtain ⟨w0, hw0⟩ : ∃ w0, (w.alloc (.cells #[.int .i64 t, .int .i64 v] 90)).alloc (.cells #[.int .i64 0, .int .i64 0] 90) = w0 := ⟨_, rfl⟩
 have hb0 : Below w.heap.size w w0 := hw0 ▸ belowL (belowL r0 _) _
 have bX : Blk w0 xb 90 [.int .i64 t, .int .i64 v] := by rw [← hw0, ← hxb]; exact (Blk.new rfl).alloc _
 have bY : Blk w0 (xb + 1) 90 [.int .i64 0, .int .i64 0] := by rw [← hw0, ← hxb]; exact Blk.new (by simp)
 have HW0 := hide (And.intro hw0 hxb)
 have H0 := hide (And.intro hb0 (And.intro bX bY))
 clear hw0 hxb hb0 bX bY r0
 have x0 := H0.out.2.1.cell 0
 have x1 := H0.out.2.1.cell 1
 simp only [List.getElem?_cons_succ, List.getElem?_cons_zero] at x0 x1
 go_enter Tryz.func95, Tryz.ntmps95
 go_upto_region 1 with fail
 (try rw [HW0.out.1])
 (try rw [HW0.out.2])
 go_wp2_with fail
 with_reducible refine (HSE.out _).mono ?_
 rintro e w1 ⟨rfl, hb1⟩
 have bX0 := H0.out.2.1.below hb1
 have bY0 := H0.out.2.2.below hb1
 have x0 := bX0.cell 0
 have x1 := bX0.cell 1
 have g0 := bX0.frozen 0
 have g1 := bX0.frozen 1
 simp only [List.getElem?_cons_succ, List.getElem?_cons_zero] at x0 x1
 go_upto_region 2 with fail
 have hge : w.heap.size ≤ xb := by rw [HW0.out.2]; exact Nat.le_refl _
 have hb3 : Below w.heap.size w ((w1.setCell ⟨xb, 0, none⟩ (.int .i64 T)).setCell ⟨xb, 1, none⟩ (.int .i64 Z)) := ((belowA hb1 H0.out.1).setCell hge _).setCell hge _
 have bX1 := (bX0.set 0 (.int .i64 T)).set 1 (.int .i64 Z)
 have bY1 := bY0.chg (((Chg.refl [xb] w1).setCell (p := ⟨xb, 0, none⟩) (Or.inl (by simp)) (.int .i64 T)).setCell (p := ⟨xb, 1, none⟩) (Or.inl (by simp)) (.int .i64 Z)) (by simp)
 obtain ⟨w3, hw3⟩ : ∃ w3, (w1.setCell ⟨xb, 0, none⟩ (.int .i64 T)).setCell ⟨xb, 1, none⟩ (.int .i64 Z) = w3 := ⟨_, rfl⟩
 rw [hw3] at bX1 bY1 hb3 ⊢
 clear hw3 bX0 bY0 hb1 x0 x1 g0 g1
 have lX := bX1.lt
 have lY := bY1.lt
 have x0 := bX1.cell 0
 have x1 := bX1.cell 1
 have g0 := bX1.frozen 0
 have g1 := bX1.frozen 1
 have z0 := bY1.cell 0
 have z1 := bY1.cell 1
 have k0 := bY1.frozen 0
 have k1 := bY1.frozen 1
 simp only [List.getElem?_cons_succ, List.set_cons_zero, List.set_cons_succ, List.getElem?_cons_zero] at x0 x1 z0 z1
 have HB1 := hide hb3
 clear hb3 bX1 bY1
 by_cases hT : T = tm
 ·have u1 : (T != tm) = false := by simp [hT]
  clear hT
  cases n with
  |false =>
   go_wp2_with fail
   exact bodyPost_ret (v := .tuple #[.agg #[.int .i64 T, .int .i64 Z], .bool false]) (by simp [results, Tryz.results95, go_sem, *]) rfl ⟨⟨T, Z, false, rfl, HT.out, HZ.out⟩, by repeat (first | exact HB1.out | refine Below.setCell ?_ (by simp <;> omega) _)⟩
  |true =>
   go_wp2_with fail
   with_reducible refine (HID.out _).mono ?_
   rintro e w2 ⟨rfl, rfl⟩
   by_cases h1 : Z = -1
   ·have u2 : (Z != -1) = false := by simp [h1]
    clear h1
    go_wp2_with fail
    exact bodyPost_ret (v := .tuple #[.agg #[.int .i64 T, .int .i64 x], .bool true]) (by simp [results, Tryz.results95, go_sem, *]) rfl ⟨⟨T, x, true, rfl, HT.out, by have := HX.out; omega, HX.out.2⟩, by repeat (first | exact HB1.out | refine Below.setCell ?_ (by simp <;> omega) _)⟩
   ·have u2 : (Z != -1) = true := by simpa using h1
    clear h1
    by_cases h2 : Z = x
    ·have u3 : (Z != x) = false := by simp [h2]
     clear h2
     go_wp2_with fail
     exact bodyPost_ret (v := .tuple #[.agg #[.int .i64 T, .int .i64 x], .bool true]) (by simp [results, Tryz.results95, go_sem, *]) rfl ⟨⟨T, x, true, rfl, HT.out, by have := HX.out; omega, HX.out.2⟩, by repeat (first | exact HB1.out | refine Below.setCell ?_ (by simp <;> omega) _)⟩
    ·have u3 : (Z != x) = true := by simpa using h2
     clear h2
     go_wp2_with fail
     exact bodyPost_ret (v := .tuple #[.agg #[.int .i64 T, .int .i64 Z], .bool false]) (by simp [results, Tryz.results95, go_sem, *]) rfl ⟨⟨T, Z, false, rfl, HT.out, HZ.out⟩, by repeat (first | exact HB1.out | refine Below.setCell ?_ (by simp <;> omega) _)⟩
 ·have u1 : (T != tm) = true := by simpa using hT
  clear hT
  go_wp2_with fail
  exact bodyPost_ret (v := .tuple #[.agg #[.int .i64 T, .int .i64 Z], .bool false]) (by simp [results, Tryz.results95, go_sem, *]) rfl ⟨⟨T, Z, false, rfl, HT.out, HZ.out⟩, by repeat (first | exact HB1.out | refine Below.setCell ?_ (by simp <;> omega) _)⟩
end
end Go.Proofs.YteppdlkmjgladaaGreat

namespace Go.Proofs.YteppdlkmjgladaaGreat
open Go.RowKit Go.Proofs Go.Maps
set_option linter.unusedVariables false
set_option linter.unusedSimpArgs false

section
variable {W w w' w1 w2 : World} {nb u j g : Nat} {q q1 q' : Gl} {G G1 : Gd} {b o : Nat} {N : List Int}
set_option maxHeartbeats 4000000 in
set_option maxRecDepth 100000 in
theorem gvote_calls (h : GP w nb q G) (hA : GA W w nb q) (hi : GI u G) (hu : u ≤ 880) (hV : VltOk G.m.V g) (hg : g + 2 < 2 ^ 60) (fr : Int) (hfr : 0 ≤ fr ∧ fr ≤ 15) (k n0 n1 n2 : Int) (hn0 : 0 ≤ n0 ∧ n0 ≤ 549755813888) (hn : NU W b o [n0, n1, n2]) (c1 : Nat) (A2 A3 : Option Addr) (m2 m3 c2 c3 : Nat) :
  Calls Tryz.prog 51 #[.pointer (some ⟨nb, 0, none⟩), .int .i64 fr, .agg #[.int .i64 k, .slice (some ⟨b, o, none⟩) 3 c1, .slice A2 m2 c2, .slice A3 m3 c3]] w fun e w' => e = .returned (.tuple #[]) ∧ GW w w' nb q G (u + 2) (g + 1) := by
 obtain ⟨w0, hw0⟩ : ∃ w0, w.alloc (.cells #[.int .i64 k, .slice (some ⟨b, o, none⟩) 3 c1, .slice A2 m2 c2, .slice A3 m3 c3] 52) = w0 := ⟨_, rfl⟩
 obtain ⟨xb, hxb⟩ : ∃ xb, w.heap.size = xb := ⟨_, rfl⟩
 have hb0 : Below w.heap.size w w0 := hw0 ▸ belowL (Below.refl _ _) _
 have bX : Blk w0 xb 52 [.int .i64 k, .slice (some ⟨b, o, none⟩) 3 c1, .slice A2 m2 c2, .slice A3 m3 c3] := by rw [← hw0, ← hxb]; exact Blk.new rfl
 have h0 := h.below hb0
 have hla := lg_last h0.log (by rw [hi.m.li]; exact hi.m.si.1) (by rw [hi.m.li]; have := hi.m.si.2; omega) (by have := hi.m.n; omega)
 obtain ⟨la, hlae⟩ : ∃ la : Int, G.m.li + (G.m.L.length : Int) = la := ⟨_, rfl⟩
 obtain ⟨lt, hlte⟩ : ∃ lt : Int, (G.m.L.getLast?.map (·.1)).getD G.m.lt = lt := ⟨_, rfl⟩
 rw [hlae, hlte] at hla
 have HLA := hide hla
 have y9 : w0.cell? ⟨nb, 9, none⟩ = some (.pointer (some ⟨q.lb, 0, none⟩)) := h0.blk.cell 9
 have HW := hide (And.intro hw0 hxb)
 have H := hide (And.intro h (And.intro hA (And.intro hi (And.intro hV (And.intro hg (And.intro hfr (And.intro hn0 (And.intro hn (And.intro hb0 bX)))))))))
 clear h hA hi hV hg hfr hn0 hn hb0 bX h0 hla hlae hlte hw0 hxb
 go_enter Tryz.func51, Tryz.ntmps51
 go_upto_region 1 with fail
 (try rw [HW.out.1])
 (try rw [HW.out.2])
 go_wp2_with fail
 with_reducible refine HLA.out.mono ?_
 rintro e w1 ⟨rfl, q1, rfl⟩
 have hb1 := below_drewN (Below.refl w0.heap.size w0) q1
 obtain ⟨w1, hw1⟩ : ∃ w1, w0.drewN q1 = w1 := ⟨_, rfl⟩
 rw [hw1] at hb1 ⊢
 obtain ⟨h, hA, hi, hV, hg, hfr, hn0, hn, hb0, bX⟩ := H.out
 have hb01 := belowA hb1 hb0
 have h1 := h.below hb01
 have r1 := Below.refl w1.heap.size w1
 have bX1 := bX.below hb1
 have x1 := bX1.rule 1 _ rfl
 have y3 := h1.blk.rule 3 _ rfl
 have y4 := h1.blk.rule 4 _ rfl
 have hA1 := (hA.low hb01).be
 have p0 : ∀ w', Below w1.heap.size w1 w' → w'.cell? ⟨b, o, none⟩ = some (.int .i64 n0) := fun w' hb => hn.at_ hA1 hb 0 rfl
 have p1 : ∀ w', Below w1.heap.size w1 w' → w'.cell? ⟨b, o + 1, none⟩ = some (.int .i64 n1) := fun w' hb => hn.at_ hA1 hb 1 rfl
 have p2 : ∀ w', Below w1.heap.size w1 w' → w'.cell? ⟨b, o + 2, none⟩ = some (.int .i64 n2) := fun w' hb => hn.at_ hA1 hb 2 rfl
 have HGR := hide (fun (wz : World) (z : Bool) => bgrant_calls (w := wz) G.bt G.bv n0 fr z hi.bv hfr)
 have HB01 := hide hb01
 have H1 := hide h1
 clear h hA hi hV hg hfr hn0 hn hb0 bX hb1 hb01 h1 bX1 hA1 hw1 y9 HLA
 go_upto_region 2 with fail
 go_cut [8, 9] from 8 to 42 (fun bv rv wx => ∃ t' v' r bb, bv = .pointer (some ⟨bb, 0, none⟩) ∧ rv = .bool r ∧ Blk wx bb 90 [.int .i64 t', .int .i64 v'] ∧ ((G.bt ≤ t' ∧ (t' = G.bt ∨ t' = n0)) ∧ -1 ≤ v' ∧ v' ≤ 15) ∧ Below w1.heap.size w1 wx)
 case first =>
  refine lxR (fun w' => Below w1.heap.size w1 w') [25] 8 [(2, 0), (2, 1), (2, 2), (0, 3), (2, 4), (0, 5), (2, 6), (0, 7), (2, 8), (2, 9), (0, 10), (2, 11), (0, 12), (2, 13), (0, 14), (2, 15), (0, 16), (2, 17), (2, 18)] #[true, true, true, true, true, true, true, true, true, true, true, true, true, true, true, true, true, true, true, false, false, false, false, false, false, false, false] (by kernel_rfl) (by kernel_rfl) (by decide) (by kernel_rfl) (by kernel_rfl) (fun _ _ _ _ _ h => h) (by (repeat (first | assumption | with_reducible refine Below.drew ?_ | with_reducible refine belowL ?_ _))) (fun hS0 => ?_)
  simp only [List.map_cons, List.map_nil, List.getElem?_toArray, List.getElem?_cons_succ, List.getElem?_cons_zero]
  (iterate 3 ((apply lxP (by rfl); (focus (intro w; go_simp; (try with_reducible rfl); done)); simp only [Act.put, zA36, zB36, zC36]))); (apply lxT (by rfl); (focus (intro w hw; (try dsimp only at hw); go_simp; (try with_reducible rfl); done)); simp only [Act.put, zA36, zB36, zC36]); (apply lxP (by rfl); (focus (intro w; go_simp; (try with_reducible rfl); done)); simp only [Act.put, zA36, zB36, zC36]); (apply lxT (by rfl); (focus (intro w hw; (try dsimp only at hw); go_simp; (try with_reducible rfl); done)); simp only [Act.put, zA36, zB36, zC36]); (apply lxP (by rfl); (focus (intro w; go_simp; (try with_reducible rfl); done)); simp only [Act.put, zA36, zB36, zC36]); (apply lxT (by rfl); (focus (intro w hw; (try dsimp only at hw); go_simp; (try with_reducible rfl); done)); simp only [Act.put, zA36, zB36, zC36]); (iterate 2 ((apply lxP (by rfl); (focus (intro w; go_simp; (try with_reducible rfl); done)); simp only [Act.put, zA36, zB36, zC36]))); (apply lxT (by rfl); (focus (intro w hw; (try dsimp only at hw); go_simp; (try with_reducible rfl); done)); simp only [Act.put, zA36, zB36, zC36]); (apply lxP (by rfl); (focus (intro w; go_simp; (try with_reducible rfl); done)); simp only [Act.put, zA36, zB36, zC36]); (apply lxT (by rfl); (focus (intro w hw; (try dsimp only at hw); go_simp; (try with_reducible rfl); done)); simp only [Act.put, zA36, zB36, zC36]); (apply lxP (by rfl); (focus (intro w; go_simp; (try with_reducible rfl); done)); simp only [Act.put, zA36, zB36, zC36]); (apply lxT (by rfl); (focus (intro w hw; (try dsimp only at hw); go_simp; (try with_reducible rfl); done)); simp only [Act.put, zA36, zB36, zC36]); (apply lxP (by rfl); (focus (intro w; go_simp; (try with_reducible rfl); done)); simp only [Act.put, zA36, zB36, zC36]); (apply lxT (by rfl); (focus (intro w hw; (try dsimp only at hw); go_simp; (try with_reducible rfl); done)); simp only [Act.put, zA36, zB36, zC36]); (iterate 2 ((apply lxP (by rfl); (focus (intro w; go_simp; (try with_reducible rfl); done)); simp only [Act.put, zA36, zB36, zC36])))
  refine lxN (fun hS2 => ?_)
  refine lexg_fork2 (i := 19) (j := 24) (by kernel_rfl) (by kernel_rfl : _ = #[true, true, true, true, true, true, true, true, true, true, true, true, true, true, true, true, true, true, true, true, false, false, false, false, false, false, false]) (by kernel_rfl : _ = #[true, true, true, true, true, true, true, true, true, true, true, true, true, true, true, true, true, true, true, false, false, false, false, false, true, false, false]) ?_ ?_
  focus
   apply lxA (by simp only [List.getElem?_toArray, List.getElem?_cons_succ, List.getElem?_cons_zero]; rfl) (by rfl)
   go_simp
   (first | (go_at_call 96; (with_reducible refine (basnew_calls _ _ _ _).mono ?_); rintro e wn ⟨⟨rn, rfl⟩, rfl⟩) | (go_at_call 95; (with_reducible refine (HGR.out _ _).mono ?_); rintro e wg ⟨⟨t', v', r, rfl, hT', hV'⟩, hbg⟩; have hbg' : Below w1.heap.size w1 wg := belowA hbg (by repeat (first | assumption | with_reducible refine Below.drew ?_ | with_reducible refine belowL ?_ _))))
   refine lxB (by (repeat (first | assumption | with_reducible refine Below.drew ?_ | with_reducible refine belowL ?_ _))) (fun hS1 => ?_)
   refine lxM 7 [] #[true, true, true, true, true, true, true, true, true, true, true, true, true, true, true, true, true, true, true, true, false, false, false, false, false, false, false] (by kernel_rfl) (by decide) (by kernel_rfl) (by kernel_rfl) (fun _ _ _ _ _ h => h) (fun _ => by assumption) ?_
   simp only [List.map_nil]
   refine lxN (fun hS2 => ?_)
   refine lexg_fork2 (i := 20) (j := 24) (by kernel_rfl) (by kernel_rfl : _ = #[true, true, true, true, true, true, true, true, true, true, true, true, true, true, true, true, true, true, true, true, true, false, false, false, false, false, false]) (by kernel_rfl : _ = #[true, true, true, true, true, true, true, true, true, true, true, true, true, true, true, true, true, true, true, true, false, false, false, false, true, false, false]) ?_ ?_
   focus
    apply lxA (by simp only [List.getElem?_toArray, List.getElem?_cons_succ, List.getElem?_cons_zero]; rfl) (by rfl)
    go_simp
    (first | (go_at_call 96; (with_reducible refine (basnew_calls _ _ _ _).mono ?_); rintro e wn ⟨⟨rn, rfl⟩, rfl⟩) | (go_at_call 95; (with_reducible refine (HGR.out _ _).mono ?_); rintro e wg ⟨⟨t', v', r, rfl, hT', hV'⟩, hbg⟩; have hbg' : Below w1.heap.size w1 wg := belowA hbg (by repeat (first | assumption | with_reducible refine Below.drew ?_ | with_reducible refine belowL ?_ _))))
    refine lxB (by (repeat (first | assumption | with_reducible refine Below.drew ?_ | with_reducible refine belowL ?_ _))) (fun hS1 => ?_)
    refine lxM 0 [(2, 21), (2, 22), (2, 23), (1, 24), (3, 25), (2, 26)] #[true, true, true, true, true, true, true, true, true, true, true, true, true, true, true, true, true, true, true, true, true, true, true, true, true, true, true] (by kernel_rfl) (by decide) (by kernel_rfl) (by kernel_rfl) (fun _ _ _ _ _ h => h) (fun _ => by assumption) ?_
    simp only [List.map_cons, List.map_nil, List.getElem?_toArray, List.getElem?_cons_succ, List.getElem?_cons_zero]
    (iterate 3 ((apply lxP (by rfl); (focus (intro w; go_simp; (try with_reducible rfl); done)); simp only [Act.put, zA36, zB36, zC36]))); (refine lxE (by rfl) ?_; go_simp; refine lxB (by (repeat (first | assumption | with_reducible refine Below.drew ?_ | with_reducible refine belowL ?_ _))) (fun hS1 => ?_)); (refine lxF (by rfl) ?_; (first | (refine wp_store_mid 90 _ _ rfl wg.heap.size 0 #[.int .i64 t', .int .i64 v'] rfl rfl (by exact (Blk.new (w := wg) (b := wg.heap.size) (cs := [.int .i64 0, .int .i64 0]) (t := 90) rfl).there (n := 2) (by decide)) (by kernel_rfl) (by simp [Value.oneCell']) ?_) | (refine wp_store_mid 90 _ _ rfl w1.heap.size 0 #[.int .i64 t', .int .i64 v'] rfl rfl (by exact ((Blk.new (w := w1) (b := w1.heap.size) (cs := [.int .i64 0, .int .i64 0]) (t := 90) rfl).drewT.below hbg).there (n := 2) (by decide)) (by kernel_rfl) (by simp [Value.oneCell']) ?_) | (refine wp_store_mid 90 _ _ rfl w1.heap.size 0 #[.int .i64 t', .int .i64 v'] rfl rfl (by exact ((Blk.new (w := w1.drew) (b := w1.heap.size) (cs := [.int .i64 0, .int .i64 0]) (t := 90) rfl).below hbg).there (n := 2) (by decide)) (by kernel_rfl) (by simp [Value.oneCell']) ?_)); simp only [Act.put]); (apply lxP (by rfl); (focus (intro w; go_simp; (try with_reducible rfl); done)); simp only [Act.put, zA36, zB36, zC36])
    refine lxN (fun _ => wqD (by kernel_rfl) ?_ _)
   rotate_left
   focus
    apply lxA (by simp only [List.getElem?_toArray, List.getElem?_cons_succ, List.getElem?_cons_zero]; rfl) (by rfl)
    go_simp
    refine lxB (by (repeat (first | assumption | with_reducible refine Below.drew ?_ | with_reducible refine belowL ?_ _))) (fun hS1 => ?_)
    refine lxM 0 [(1, 20), (2, 21), (2, 22), (2, 23), (3, 25), (2, 26)] #[true, true, true, true, true, true, true, true, true, true, true, true, true, true, true, true, true, true, true, true, true, true, true, true, true, true, true] (by kernel_rfl) (by decide) (by kernel_rfl) (by kernel_rfl) (fun _ _ _ _ _ h => h) (fun _ => by assumption) ?_
    simp only [List.map_cons, List.map_nil, List.getElem?_toArray, List.getElem?_cons_succ, List.getElem?_cons_zero]
    (refine lxE (by rfl) ?_; go_simp; (first | (go_at_call 96; (with_reducible refine (basnew_calls _ _ _ _).mono ?_); rintro e wn ⟨⟨rn, rfl⟩, rfl⟩) | (go_at_call 95; (with_reducible refine (HGR.out _ _).mono ?_); rintro e wg ⟨⟨t', v', r, rfl, hT', hV'⟩, hbg⟩; have hbg' : Below w1.heap.size w1 wg := belowA hbg (by repeat (first | assumption | with_reducible refine Below.drew ?_ | with_reducible refine belowL ?_ _)))); refine lxB (by (repeat (first | assumption | with_reducible refine Below.drew ?_ | with_reducible refine belowL ?_ _))) (fun hS1 => ?_)); (iterate 3 ((apply lxP (by rfl); (focus (intro w; go_simp; (try with_reducible rfl); done)); simp only [Act.put, zA36, zB36, zC36]))); (refine lxF (by rfl) ?_; (first | (refine wp_store_mid 90 _ _ rfl wg.heap.size 0 #[.int .i64 t', .int .i64 v'] rfl rfl (by exact (Blk.new (w := wg) (b := wg.heap.size) (cs := [.int .i64 0, .int .i64 0]) (t := 90) rfl).there (n := 2) (by decide)) (by kernel_rfl) (by simp [Value.oneCell']) ?_) | (refine wp_store_mid 90 _ _ rfl w1.heap.size 0 #[.int .i64 t', .int .i64 v'] rfl rfl (by exact ((Blk.new (w := w1) (b := w1.heap.size) (cs := [.int .i64 0, .int .i64 0]) (t := 90) rfl).drewT.below hbg).there (n := 2) (by decide)) (by kernel_rfl) (by simp [Value.oneCell']) ?_) | (refine wp_store_mid 90 _ _ rfl w1.heap.size 0 #[.int .i64 t', .int .i64 v'] rfl rfl (by exact ((Blk.new (w := w1.drew) (b := w1.heap.size) (cs := [.int .i64 0, .int .i64 0]) (t := 90) rfl).below hbg).there (n := 2) (by decide)) (by kernel_rfl) (by simp [Value.oneCell']) ?_)); simp only [Act.put]); (apply lxP (by rfl); (focus (intro w; go_simp; (try with_reducible rfl); done)); simp only [Act.put, zA36, zB36, zC36])
    refine lxN (fun _ => wqD (by kernel_rfl) ?_ _)
   rotate_left
  rotate_left 2
  focus
   apply lxA (by simp only [List.getElem?_toArray, List.getElem?_cons_succ, List.getElem?_cons_zero]; rfl) (by rfl)
   go_simp
   refine lxB (by (repeat (first | assumption | with_reducible refine Below.drew ?_ | with_reducible refine belowL ?_ _))) (fun hS1 => ?_)
   refine lxM 0 [(1, 19), (1, 20), (2, 21), (2, 22), (2, 23), (3, 25), (2, 26)] #[true, true, true, true, true, true, true, true, true, true, true, true, true, true, true, true, true, true, true, true, true, true, true, true, true, true, true] (by kernel_rfl) (by decide) (by kernel_rfl) (by kernel_rfl) (fun _ _ _ _ _ h => h) (fun _ => by assumption) ?_
   simp only [List.map_cons, List.map_nil, List.getElem?_toArray, List.getElem?_cons_succ, List.getElem?_cons_zero]
   (iterate 2 ((refine lxE (by rfl) ?_; go_simp; (first | (go_at_call 96; (with_reducible refine (basnew_calls _ _ _ _).mono ?_); rintro e wn ⟨⟨rn, rfl⟩, rfl⟩) | (go_at_call 95; (with_reducible refine (HGR.out _ _).mono ?_); rintro e wg ⟨⟨t', v', r, rfl, hT', hV'⟩, hbg⟩; have hbg' : Below w1.heap.size w1 wg := belowA hbg (by repeat (first | assumption | with_reducible refine Below.drew ?_ | with_reducible refine belowL ?_ _)))); refine lxB (by (repeat (first | assumption | with_reducible refine Below.drew ?_ | with_reducible refine belowL ?_ _))) (fun hS1 => ?_)))); (iterate 3 ((apply lxP (by rfl); (focus (intro w; go_simp; (try with_reducible rfl); done)); simp only [Act.put, zA36, zB36, zC36]))); (refine lxF (by rfl) ?_; (first | (refine wp_store_mid 90 _ _ rfl wg.heap.size 0 #[.int .i64 t', .int .i64 v'] rfl rfl (by exact (Blk.new (w := wg) (b := wg.heap.size) (cs := [.int .i64 0, .int .i64 0]) (t := 90) rfl).there (n := 2) (by decide)) (by kernel_rfl) (by simp [Value.oneCell']) ?_) | (refine wp_store_mid 90 _ _ rfl w1.heap.size 0 #[.int .i64 t', .int .i64 v'] rfl rfl (by exact ((Blk.new (w := w1) (b := w1.heap.size) (cs := [.int .i64 0, .int .i64 0]) (t := 90) rfl).drewT.below hbg).there (n := 2) (by decide)) (by kernel_rfl) (by simp [Value.oneCell']) ?_) | (refine wp_store_mid 90 _ _ rfl w1.heap.size 0 #[.int .i64 t', .int .i64 v'] rfl rfl (by exact ((Blk.new (w := w1.drew) (b := w1.heap.size) (cs := [.int .i64 0, .int .i64 0]) (t := 90) rfl).below hbg).there (n := 2) (by decide)) (by kernel_rfl) (by simp [Value.oneCell']) ?_)); simp only [Act.put]); (apply lxP (by rfl); (focus (intro w; go_simp; (try with_reducible rfl); done)); simp only [Act.put, zA36, zB36, zC36])
   refine lxN (fun _ => wqD (by kernel_rfl) ?_ _)
  rotate_left
  ·have bz := Blk.setCells [.int .i64 t', .int .i64 v'] 0 (Blk.new (w := wg) (b := wg.heap.size) (cs := [.int .i64 0, .int .i64 0]) (t := 90) rfl)
   have bx : Below w1.heap.size w1 _ := (Chg.setCells (L := []) (b := wg.heap.size) [.int .i64 t', .int .i64 v'] 0 (Chg.of_below (belowL hbg' (.cells #[.int .i64 0, .int .i64 0] 90))) (Or.inr hbg'.size)).none
   have HZ := And.intro bz bx
   clear bz bx
   revert HZ
   generalize World.setCells (wg.alloc (.cells #[.int .i64 0, .int .i64 0] 90)) wg.heap.size 0 [.int .i64 t', .int .i64 v'] = wx
   intro HZ
   have HZ := hide HZ
   have HTV := hide (And.intro hT' hV')
   clear hT' hV'
   go_wp2
   go_meet
   exact ⟨t', v', r, _, rfl, rfl, HZ.out.1, HTV.out, HZ.out.2⟩
  all_goals
   have bz := Blk.setCells [.int .i64 t', .int .i64 v'] 0 ((Blk.new (w := w1) (b := w1.heap.size) (cs := [.int .i64 0, .int .i64 0]) (t := 90) rfl).drewT.below hbg)
   have bx : Below w1.heap.size w1 _ := (Chg.setCells (L := []) (b := w1.heap.size) [.int .i64 t', .int .i64 v'] 0 (Chg.of_below hbg') (Or.inr (Nat.le_refl _))).none
   have HZ := And.intro bz bx
   clear bz bx
   revert HZ
   generalize World.setCells wg w1.heap.size 0 [.int .i64 t', .int .i64 v'] = wx
   intro HZ
   have HZ := hide HZ
   have HTV := hide (And.intro hT' hV')
   clear hT' hV'
   go_wp2
   go_meet
   exact ⟨t', v', r, _, rfl, rfl, HZ.out.1, HTV.out, HZ.out.2⟩
 case rest =>
  obtain ⟨t', v', r, bb, rfl, rfl, hbb, htv, hb3⟩ := hcut
  obtain ⟨w3, rfl⟩ : ∃ x, x = wc := ⟨_, rfl⟩
  have x0 := hbb.cell 0
  have x1 := hbb.cell 1
  simp only [setL, List.set_cons_zero, List.set_cons_succ, List.getElem?_cons_succ, List.getElem?_cons_zero] at x0 x1
  obtain ⟨h, hA, hi, hV, hg, hfr, hn0, hn, hb0, bX⟩ := H.out
  have hb13 := belowA hb3 HB01.out
  have hte : 0 ≤ t' ∧ t' ≤ 1099511627776 + u := by have := hi.bt; omega
  have HKE := hide (gkeep_calls (h.below hb13) hV (by omega) t' v' (by omega) (by omega))
  have H3 := hide (And.intro hb13 (And.intro hte htv))
  clear h hA hi hV hg hfr hn0 hn hb0 bX hb13 hte htv hb3 hbb HGR r1 y3 y4 p0 p1 p2
  go_wp2_with fail
  with_reducible refine HKE.out.mono ?_
  rintro e w5 ⟨q5, r5, ld5, V5, d5, rfl, h5, hok5, hs5, _⟩
  obtain ⟨hb13, hte, htv⟩ := H3.out
  obtain ⟨h, hA, hi, hV, hg, hfr, hn0, hn, hb0, bX⟩ := H.out
  have hi5 : GI (u + 1) (Gd.vlt { G with bt := t', bv := v', role := r5, leader := ld5 } V5 d5) := hi.kept (by omega) (by omega)
  obtain ⟨G5, hG5⟩ : ∃ G5, Gd.vlt { G with bt := t', bv := v', role := r5, leader := ld5 } V5 d5 = G5 := ⟨_, rfl⟩
  have he5 : G5.id = G.id ∧ G.bt ≤ G5.bt ∧ G.commit ≤ G5.commit := by rw [← hG5]; exact ⟨rfl, htv.1.1, Int.le_refl _⟩
  have hok5' : VltOk G5.m.V (g + 1) := by rw [← hG5]; exact hok5
  rw [hG5] at h5 hi5
  have hs5' : GS w w5 nb q q5 := (GS.stay hb13).trans hs5
  have H5 := hide (And.intro h5 (And.intro hi5 (And.intro hok5' (And.intro he5 hs5'))))
  clear h hA hi hV hg hfr hn0 hn hb0 bX hb13 hte htv h5 hi5 hok5 hok5' he5 hs5 hs5' hG5 x0 x1 HKE
  cases d5 with
  |true =>
   go_wp2
   refine bodyPost_ret (results_none rfl _ _ _) rfl ?_
   obtain ⟨h5, hi5, hok5, he5, hs5⟩ := H5.out
   exact ⟨rfl, q5, G5, h5, hi5.up (by omega), hok5, he5.1, he5.2.1, he5.2.2, hs5⟩
  |false =>
   cases r with
   |false =>
    obtain ⟨h6, hi6, hok6, he6, hs6⟩ := H5.out
    obtain ⟨w6, hw6⟩ : ∃ w6, w5 = w6 := ⟨_, rfl⟩
    obtain ⟨G6, hG6⟩ : ∃ G6, G5 = G6 := ⟨_, rfl⟩
    rw [hw6] at h6 hs6 ⊢
    rw [hG6] at h6 hi6 hok6 he6
    clear hw6 hG6
    have y3 := h6.blk.cell 3
    simp only [Gd.cells, List.getElem?_cons_succ, List.getElem?_cons_zero] at y3
    obtain ⟨bt6, hbt6⟩ : ∃ x, G6.bt = x := ⟨_, rfl⟩
    rw [hbt6] at y3
    obtain ⟨wA, hwA⟩ : ∃ wA, w6.alloc (.cells #[.int .i64 bt6, .int .i64 0] 3) = wA := ⟨_, rfl⟩
    have hbA : Below w6.heap.size w6 wA := hwA ▸ belowL (Below.refl _ _) _
    have HSE := hide (gsend_calls (h6.below hbA) (by have := hi6.m.on; omega) fr 2)
    have H6 := hide (And.intro hi6 (And.intro hok6 (And.intro he6 (hs6.trans (GS.stay hbA)))))
    have HWA := hide hwA
    clear h6 hi6 hok6 he6 hs6 hwA hbA
    go_wp2_with fail
    rw [HWA.out]
    with_reducible refine (HSE.out _ _ _ _ _ _ _ _ _).mono ?_
    rintro e w7 ⟨rfl, q7, n7, h7, hs7, hn7⟩
    have HF : Hid (GW w w7 nb q G (u + 2) (g + 1)) := hide ⟨q7, _, h7, H6.out.1.nxt H6.out.1.m.next (n := n7) (by omega), H6.out.2.1, H6.out.2.2.1.1, H6.out.2.2.1.2.1, H6.out.2.2.1.2.2, H6.out.2.2.2.trans hs7⟩
    clear h7 hs7 hn7 HSE
    go_wp2
    go_end0
    exact ⟨rfl, HF.out⟩
   |true =>
    obtain ⟨h5, hi5, hok5, he5, hs5⟩ := H5.out
    have q15 := h5.blk.cell 15
    have f15 := h5.blk.frozen 15
    simp only [Gd.cells, List.getElem?_cons_succ, List.getElem?_cons_zero] at q15
    obtain ⟨h6, hs6⟩ := h5.set1 15 (.int .i64 0) { G5 with quiet := 0 } rfl rfl
    have hi6 : GI (u + 1) { G5 with quiet := 0 } := ⟨hi5.id, hi5.bt, hi5.bv, hi5.com, hi5.told, ⟨Int.le_refl _, by show (0 : Int) ≤ _; omega⟩, hi5.beats, hi5.m⟩
    have hs6 := hs5.trans hs6
    go_upto_region 7 with fail
    obtain ⟨w6, hw6⟩ : ∃ w6, w5.setCell ⟨nb, 15, none⟩ (.int .i64 0) = w6 := ⟨_, rfl⟩
    obtain ⟨G6, hG6⟩ : ∃ G6, ({ G5 with quiet := 0 } : Gd) = G6 := ⟨_, rfl⟩
    rw [hw6] at h6 hs6 ⊢
    rw [hG6] at h6 hi6
    have hok6 : VltOk G6.m.V (g + 1) := by rw [← hG6]; exact hok5
    have he6 : G6.id = G.id ∧ G.bt ≤ G6.bt ∧ G.commit ≤ G6.commit := by rw [← hG6]; exact he5
    clear hw6 hG6 h5 hi5 hok5 he5 hs5 q15 f15
    have y3 := h6.blk.cell 3
    simp only [Gd.cells, List.getElem?_cons_succ, List.getElem?_cons_zero] at y3
    obtain ⟨bt6, hbt6⟩ : ∃ x, G6.bt = x := ⟨_, rfl⟩
    rw [hbt6] at y3
    obtain ⟨wA, hwA⟩ : ∃ wA, w6.alloc (.cells #[.int .i64 bt6, .int .i64 1] 3) = wA := ⟨_, rfl⟩
    have hbA : Below w6.heap.size w6 wA := hwA ▸ belowL (Below.refl _ _) _
    have HSE := hide (gsend_calls (h6.below hbA) (by have := hi6.m.on; omega) fr 2)
    have H6 := hide (And.intro hi6 (And.intro hok6 (And.intro he6 (hs6.trans (GS.stay hbA)))))
    have HWA := hide hwA
    clear h6 hi6 hok6 he6 hs6 hwA hbA
    go_wp2_with fail
    rw [HWA.out]
    with_reducible refine (HSE.out _ _ _ _ _ _ _ _ _).mono ?_
    rintro e w7 ⟨rfl, q7, n7, h7, hs7, hn7⟩
    have HF : Hid (GW w w7 nb q G (u + 2) (g + 1)) := hide ⟨q7, _, h7, H6.out.1.nxt H6.out.1.m.next (n := n7) (by omega), H6.out.2.1, H6.out.2.2.1.1, H6.out.2.2.1.2.1, H6.out.2.2.1.2.2, H6.out.2.2.2.trans hs7⟩
    clear h7 hs7 hn7 HSE
    go_wp2
    go_end0
    exact ⟨rfl, HF.out⟩
end
end Go.Proofs.YteppdlkmjgladaaGreat
