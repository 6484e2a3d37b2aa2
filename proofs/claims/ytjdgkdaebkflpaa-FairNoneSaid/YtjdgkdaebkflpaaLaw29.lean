/- The law FairBounds of layer 29: for every input it answers true. No conditions. -/
import Derived.Test.YtjdgkdaebkflpaaOver
import Derived.Test.YtjdgkdaebkflpaaOpen
namespace Go.Proofs.Ytjdgkdaebkflpaa
open Go.ChangeShapes Go.WideShapes Go.ChangeAt Go.RowKit Go.Joins
set_option linter.unusedVariables false

def exL : List Ld := [⟨3, 1⟩, ⟨3, 2⟩, ⟨3, 2⟩, ⟨3, 5⟩]
set_option maxHeartbeats 1000000 in
theorem awake29_calls (W : World) : Calls Try.prog 15 #[] W fun e w' => e = .returned (.bool true) ∧ Below W.heap.size W w' := by
  have hm := hide (by decide : most exL 3 1 2 = 2)
  have ho := hide (by decide +kernel : over exL 3 ⟨0, 1, 1000, 0⟩ = true)
  have hbd := hide (by decide +kernel : bound 0 0 0 0 = 92)
  go_enter Try.func15, Try.ntmps15
  go_wp2_with fail
  have hr : Reads (W.alloc (.cells (ldCells exL).toArray 31)) (W.alloc (.cells (ldCells exL).toArray 31)).heap.size 2 (some ⟨W.heap.size, 0, none⟩) 4 (ldCells exL) :=
    Reads.new (w := W) (t := 31) (cs := (ldCells exL).toArray) (n := 4) rfl (by simp) rfl
  refine (most_calls exL 3 1 2 (some ⟨W.heap.size, 0, none⟩) 4 _ hr (by decide)).mono ?_
  rintro e w1 ⟨rfl, hb1⟩
  rw [hm.out]
  have R1 := ((Below.refl W.heap.size W).alloc (Nat.le_refl _) _).trans (hb1.mono (by simp))
  have hr1 : Reads w1 w1.heap.size 2 (some ⟨W.heap.size, 0, none⟩) 4 (ldCells exL) := (hr.below hb1).more hb1.size
  clear hb1 hr
  go_wp2_with fail
  refine (over_calls exL 3 ⟨0, 1, 1000, 0⟩ (some ⟨W.heap.size, 0, none⟩) 4 w1 hr1 (by decide) (by decide +kernel)).mono ?_
  rintro e w2 ⟨rfl, hb2⟩
  rw [ho.out]
  have R2 := R1.trans (hb2.mono R1.size)
  clear hb2 hr1 R1
  go_wp2_with fail
  with_reducible refine (bound_calls _ _ _ _ _).mono ?_
  rintro e w3 ⟨rfl, rfl⟩
  rw [hbd.out]
  go_wp2
  go_ret
  exact ⟨rfl, R2⟩

set_option maxRecDepth 100000 in
set_option maxHeartbeats 1000000 in
/-- THE WALK of FairBounds: whatever comes in, it answers true, and nothing that was there turns. -/
theorem fairBounds_walk {H : Type} {enc : TypeId × Value → H} (W : World) (base : Nat) (v0 v1 v2 v3 : Value) (d0 d1 d2 d3 : DataW H) (p0 p1 p2 p3 : List MemPlace)
    (ok0 : Value.okWide Try.prog W .any base 3 v0) (h0 : DataW.Trod enc Try.prog W 0 (fun _ => true) true 3 v0 d0 p0)
    (ok1 : Value.okWide Try.prog W .any base 3 v1) (h1 : DataW.Trod enc Try.prog W 0 (fun _ => true) true 3 v1 d1 p1)
    (ok2 : Value.okWide Try.prog W .any base 3 v2) (h2 : DataW.Trod enc Try.prog W 0 (fun _ => true) true 3 v2 d2 p2)
    (ok3 : Value.okWide Try.prog W .any base 3 v3) (h3 : DataW.Trod enc Try.prog W 0 (fun _ => true) true 3 v3 d3 p3) :
    Calls Try.prog 3 #[v0, v1, v2, v3] W fun e w' => e = .returned (.bool true) ∧ Below W.heap.size W w' := by
  obtain ⟨n, rfl, rfl, rfl, n1⟩ := open_int Try.underlying3 ok0 h0
  obtain ⟨s, rfl, rfl, rfl, s1⟩ := open_int Try.underlying3 ok1 h1
  obtain ⟨q, rfl, rfl, rfl, q1⟩ := open_int Try.underlying3 ok2 h2
  obtain ⟨d, rfl, rfl, rfl, d1⟩ := open_int Try.underlying3 ok3 h3
  clear ok0 h0 ok1 h1 ok2 h2 ok3 h3
  have n2 := bounds_i64 n1
  have d2 := bounds_i64 d1
  clear n1 s1 q1 d1
  have bl := bound_least n s q d
  have m1 := bound_mono (n := n) (n' := n + 1) (s := s) (q := q) (d := d) (d' := d) (by omega) (by omega)
  have m2 := bound_mono (n := n) (n' := n) (s := s) (q := q) (d := d) (d' := d + 1) (by omega) (by omega)
  by_cases hn : n > 1099511627776 <;> by_cases hd : d > 1099511627776
  all_goals
    go_enter Try.func3, Try.ntmps3
    go_wp2_with (first | (go_at_call 13; with_reducible refine (bound_calls _ _ _ _ _).mono ?_; rintro e w' ⟨rfl, rfl⟩) | (go_at_call 14; with_reducible refine (rBound_calls _ _ _ _ _).mono ?_; rintro e w' ⟨rfl, rfl⟩) | (go_at_call 15; with_reducible refine (awake29_calls _).mono ?_; rintro e w1 ⟨rfl, hb1⟩))
    go_ret
    exact ⟨rfl, by assumption⟩
end Go.Proofs.Ytjdgkdaebkflpaa
