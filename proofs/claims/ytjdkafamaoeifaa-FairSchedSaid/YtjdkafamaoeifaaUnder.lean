/- The walk through fair.Under; the document's example for layer 29. -/
import Derived.Test.YtjdkafamaoeifaaOver
import Derived.Test.YtjdkafamaoeifaaReg2
namespace Go.Proofs.Ytjdkafamaoeifaa
open Go.RowKit
set_option linter.unusedVariables false
set_option linter.unusedSimpArgs false

def exL : List Ld := [⟨3, 1⟩, ⟨3, 2⟩, ⟨3, 2⟩, ⟨3, 5⟩]
set_option maxHeartbeats 1000000 in
theorem awake29_calls (W : World) : Calls Try.prog 21 #[] W fun e w' => e = .returned (.bool true) ∧ Below W.heap.size W w' := by
  have hm := hide (by decide : most exL 3 1 2 = 2)
  have ho := hide (by decide +kernel : over exL 3 ⟨0, 1, 1000, 0⟩ = true)
  have hbd := hide (by decide +kernel : bound 0 0 0 0 = 92)
  go_enter Try.func21, Try.ntmps21
  go_wp2_with fail
  have hr : Reads (W.alloc (.cells (ldCells exL).toArray 57)) (W.alloc (.cells (ldCells exL).toArray 57)).heap.size 2 (some ⟨W.heap.size, 0, none⟩) 4 (ldCells exL) :=
    Reads.new (w := W) (t := 57) (cs := (ldCells exL).toArray) (n := 4) rfl (by simp) rfl
  refine (most_calls exL 3 1 2 (some ⟨W.heap.size, 0, none⟩) 4 _ hr (by decide)).mono ?_
  rintro e w1 ⟨rfl, hb1⟩
  rw [hm.out]
  have R1 := ((Below.refl W.heap.size W).alloc (Nat.le_refl _) _).trans (hb1.mono (by simp))
  have hr1 : Reads w1 w1.heap.size 2 (some ⟨W.heap.size, 0, none⟩) 4 (ldCells exL) := (hr.below hb1).more hb1.size
  clear hb1 hr
  go_wp2_with fail
  refine (over_calls exL 3 ⟨0, 1, 1000, 0⟩ (some ⟨W.heap.size, 0, none⟩) 4 w1 hr1 (by decide) (by decide +kernel)).mono ?_
  rintro e w2 ⟨rfl, hb2⟩
  rw [ho.out]
  have R2 := R1.trans (hb2.mono R1.size)
  clear hb2 hr1 R1
  go_wp2_with fail
  with_reducible refine (bound_calls _ _ _ _ _).mono ?_
  rintro e w3 ⟨rfl, rfl⟩
  rw [hbd.out]
  go_wp2
  go_ret
  exact ⟨rfl, R2⟩

set_option maxHeartbeats 2000000 in
set_option maxRecDepth 100000 in
theorem under_none (xs : List Ld) (flow : Int) (p : Pol) (flows from_ to : Int) (A : Option Addr) (c : Nat) (W : World) (hr : right p.r p.w p.l p.b = true) (h : p.r = 0) :
    Calls Try.prog 23 #[.slice A xs.length c, .int .i64 flow, .agg #[.int .i64 p.r, .int .i64 p.w, .int .i64 p.l, .int .i64 p.b], .int .i64 flows, .int .i64 from_, .int .i64 to] W fun e w' => e = .returned (.bool false) ∧ Below W.heap.size W w' := by
  have hl' : (p.r == 0) = true := by simp [h]
  clear h
  go_enter Try.func23, Try.ntmps23
  go_wp2_with fail
  with_reducible refine (right_calls _ _ _ _ _).mono ?_
  rintro e w1 ⟨rfl, hb1⟩
  rw [hr]
  have B1 := (Blk.new (cs := [.int .i64 p.r, .int .i64 p.w, .int .i64 p.l, .int .i64 p.b]) (t := 29) (rfl : W.heap.size = W.heap.size)).below hb1
  have c2 : w1.cell? ⟨W.heap.size, 0, none⟩ = some (.int .i64 p.r) := B1.cell 0
  have R := ((Below.refl _ _).alloc (Nat.le_refl _) _).trans (hb1.mono (by simp))
  clear hb1 B1
  go_wp2
  go_ret
  exact ⟨rfl, R⟩
set_option maxHeartbeats 2000000 in
set_option maxRecDepth 100000 in
theorem under_some (xs : List Ld) (flow : Int) (p : Pol) (flows from_ to : Int) (A : Option Addr) (c : Nat) (W : World) (hr : right p.r p.w p.l p.b = true) (h : 1 ≤ p.r) (hrd : Reads W W.heap.size 2 A xs.length (ldCells xs)) (hn : xs.length ≤ 1000000)
    (f0 : 0 ≤ flows) (f1 : flows ≤ 1000) (t0 : 0 ≤ from_) (t1 : from_ < to) (t2 : to ≤ 1000000) (hno : 65536 * (to - from_) / space p.r ≤ most xs flow from_ to + flows + 3) :
    Calls Try.prog 23 #[.slice A xs.length c, .int .i64 flow, .agg #[.int .i64 p.r, .int .i64 p.w, .int .i64 p.l, .int .i64 p.b], .int .i64 flows, .int .i64 from_, .int .i64 to] W fun e w' => e = .returned (.bool false) ∧ Below W.heap.size W w' := by
  have r2 := right_iff.1 hr
  have hl' : (p.r == 0) = false := by simp; omega
  have i1 : ¬ (to ≤ from_) := by omega
  have e1 : IntKind.i64.wrap (to - from_) = to - from_ := IntWalk.i64_in _ (by omega)
  have i2 : ¬ (to - from_ < 0) := by omega
  have hs : 1 ≤ space p.r := by
    have : isRate p.r = true := by simp [isRate]; omega
    have := space_pos this
    simp [space, *]
  have hat : at_ (to - from_) = 65536 * (to - from_) := times_small (by decide) (by decide) (by omega) (by omega)
  have hz : ¬ space p.r = 0 := by omega
  have hn0 : 0 ≤ 65536 * (to - from_) := by omega
  have q0 : 0 ≤ 65536 * (to - from_) / space p.r := Int.ediv_nonneg hn0 (by omega)
  have q1 : 65536 * (to - from_) / space p.r ≤ 65536 * (to - from_) := Int.ediv_le_self _ hn0
  have e5 : (65536 * (to - from_)).tdiv (space p.r) = 65536 * (to - from_) / space p.r := Int.tdiv_eq_ediv_of_nonneg hn0
  have e6 : IntKind.i64.wrap (65536 * (to - from_) / space p.r) = 65536 * (to - from_) / space p.r := IntWalk.i64_in _ (by omega)
  have e7 : IntKind.i64.wrap (65536 * (to - from_) / space p.r - flows) = 65536 * (to - from_) / space p.r - flows := IntWalk.i64_in _ (by omega)
  have e8 : IntKind.i64.wrap (65536 * (to - from_) / space p.r - flows - 3) = 65536 * (to - from_) / space p.r - flows - 3 := IntWalk.i64_in _ (by omega)
  have hd : decide ((most xs flow from_ to : Int) < 65536 * (to - from_) / space p.r - flows - 3) = false := decide_eq_false (by omega)
  have m0 : (if flows < 0 then 0 else flows) = flows := if_neg (by omega)
  have m1 : (if 1048576 < flows then 1048576 else flows) = flows := if_neg (by omega)
  clear h r2 q0 q1 hno
  go_enter Try.func23, Try.ntmps23
  go_wp2_with fail
  with_reducible refine (right_calls _ _ _ _ _).mono ?_
  rintro e w1 ⟨rfl, hb1⟩
  rw [hr]
  have B1 := (Blk.new (cs := [.int .i64 p.r, .int .i64 p.w, .int .i64 p.l, .int .i64 p.b]) (t := 29) (rfl : W.heap.size = W.heap.size)).below hb1
  have c2 : w1.cell? ⟨W.heap.size, 0, none⟩ = some (.int .i64 p.r) := B1.cell 0
  have d2 : ∀ w', Below w1.heap.size w1 w' → w'.cell? ⟨W.heap.size, 0, none⟩ = some (.int .i64 p.r) := B1.rule 0 _ rfl
  have R := ((Below.refl _ _).alloc (Nat.le_refl _) _).trans (hb1.mono (by simp))
  have hrd1 : Reads w1 w1.heap.size 2 A xs.length (ldCells xs) := (hrd.below R).more R.size
  have HRD := hide hrd1
  have HR := hide R
  have HN := hide hn
  clear hb1 B1 hrd hrd1 R hn
  have r0 := Below.refl w1.heap.size w1
  go_wp2_with fail
  refine region_lexg (fun w' => Below w1.heap.size w1 w') [] 0 [(2, 0), (2, 1), (2, 2), (2, 3), (2, 5), (2, 7), (0, 8), (2, 11), (2, 12), (2, 13), (1, 4), (1, 6), (1, 9), (2, 10), (2, 14), (2, 15), (2, 16), (2, 17)] #[true, true, true, true, true, true, true, true, true, true, true, true, true, true, true, true, true, true] (by kernel_rfl) (by kernel_rfl) (by decide) (by kernel_rfl) (by kernel_rfl) (fun _ _ _ _ _ h => h) (by (first | exact r0.drew | exact hb2)) (fun hS0 => ?_)
  simp only [List.map_cons, List.map_nil, List.getElem?_toArray, List.getElem?_cons_succ, List.getElem?_cons_zero]
  (apply lexg_pure (by rfl); (focus (intro w; go_simp; (try with_reducible rfl); done)); simp only [Act.put, List.setIfInBounds_toArray, List.set_cons_zero, List.set_cons_succ])
  (apply lexg_pure (by rfl); (focus (intro w; go_simp; (try with_reducible rfl); done)); simp only [Act.put, List.setIfInBounds_toArray, List.set_cons_zero, List.set_cons_succ])
  (apply lexg_pure (by rfl); (focus (intro w; go_simp; (try with_reducible rfl); done)); simp only [Act.put, List.setIfInBounds_toArray, List.set_cons_zero, List.set_cons_succ])
  (apply lexg_pure (by rfl); (focus (intro w; go_simp; (try with_reducible rfl); done)); simp only [Act.put, List.setIfInBounds_toArray, List.set_cons_zero, List.set_cons_succ])
  (apply lexg_pure (by rfl); (focus (intro w; go_simp; (try with_reducible rfl); done)); simp only [Act.put, List.setIfInBounds_toArray, List.set_cons_zero, List.set_cons_succ])
  (apply lexg_pure (by rfl); (focus (intro w; go_simp; (try with_reducible rfl); done)); simp only [Act.put, List.setIfInBounds_toArray, List.set_cons_zero, List.set_cons_succ])
  (apply lexg_take (by rfl); (focus (intro w hw; (try dsimp only at hw); go_simp; (try with_reducible rfl); done)); simp only [Act.put, List.setIfInBounds_toArray, List.set_cons_zero, List.set_cons_succ])
  (apply lexg_pure (by rfl); (focus (intro w; go_simp; (try with_reducible rfl); done)); simp only [Act.put, List.setIfInBounds_toArray, List.set_cons_zero, List.set_cons_succ])
  (apply lexg_pure (by rfl); (focus (intro w; go_simp; (try with_reducible rfl); done)); simp only [Act.put, List.setIfInBounds_toArray, List.set_cons_zero, List.set_cons_succ])
  (apply lexg_pure (by rfl); (focus (intro w; go_simp; (try with_reducible rfl); done)); simp only [Act.put, List.setIfInBounds_toArray, List.set_cons_zero, List.set_cons_succ])
  (refine lexg_eff (by rfl) ?_; go_simp; (first | (go_at_call 33; (with_reducible refine (at_calls _ _).mono ?_); rintro e w' ⟨rfl, rfl⟩; rw [hat]) | (go_at_call 46; (with_reducible refine (space_calls _ _).mono ?_); rintro e w' ⟨rfl, rfl⟩) | (go_at_call 42; (with_reducible refine (most_calls xs flow from_ to A c _ (HRD.out.later (Below.refl _ _) r0.drew) (by have := HN.out; omega)).mono ?_); rintro e w2 ⟨rfl, hb⟩; have hb2 : Below w1.heap.size w1 w2 := r0.drew.trans (hb.mono r0.drew.size); clear hb)); refine lexg_both (by (first | exact r0.drew | exact hb2)) (fun hS1 => ?_))
  (refine lexg_eff (by rfl) ?_; go_simp; (first | (go_at_call 33; (with_reducible refine (at_calls _ _).mono ?_); rintro e w' ⟨rfl, rfl⟩; rw [hat]) | (go_at_call 46; (with_reducible refine (space_calls _ _).mono ?_); rintro e w' ⟨rfl, rfl⟩) | (go_at_call 42; (with_reducible refine (most_calls xs flow from_ to A c _ (HRD.out.later (Below.refl _ _) r0.drew) (by have := HN.out; omega)).mono ?_); rintro e w2 ⟨rfl, hb⟩; have hb2 : Below w1.heap.size w1 w2 := r0.drew.trans (hb.mono r0.drew.size); clear hb)); refine lexg_both (by (first | exact r0.drew | exact hb2)) (fun hS1 => ?_))
  (refine lexg_eff (by rfl) ?_; go_simp; (first | (go_at_call 33; (with_reducible refine (at_calls _ _).mono ?_); rintro e w' ⟨rfl, rfl⟩; rw [hat]) | (go_at_call 46; (with_reducible refine (space_calls _ _).mono ?_); rintro e w' ⟨rfl, rfl⟩) | (go_at_call 42; (with_reducible refine (most_calls xs flow from_ to A c _ (HRD.out.later (Below.refl _ _) r0.drew) (by have := HN.out; omega)).mono ?_); rintro e w2 ⟨rfl, hb⟩; have hb2 : Below w1.heap.size w1 w2 := r0.drew.trans (hb.mono r0.drew.size); clear hb)); refine lexg_both (by (first | exact r0.drew | exact hb2)) (fun hS1 => ?_))
  (apply lexg_pure (by rfl); (focus (intro w; go_simp; (try with_reducible rfl); done)); simp only [Act.put, List.setIfInBounds_toArray, List.set_cons_zero, List.set_cons_succ])
  (apply lexg_pure (by rfl); (focus (intro w; go_simp; (try with_reducible rfl); done)); simp only [Act.put, List.setIfInBounds_toArray, List.set_cons_zero, List.set_cons_succ])
  (apply lexg_pure (by rfl); (focus (intro w; go_simp; (try with_reducible rfl); done)); simp only [Act.put, List.setIfInBounds_toArray, List.set_cons_zero, List.set_cons_succ])
  (apply lexg_pure (by rfl); (focus (intro w; go_simp; (try with_reducible rfl); done)); simp only [Act.put, List.setIfInBounds_toArray, List.set_cons_zero, List.set_cons_succ])
  (apply lexg_pure (by rfl); (focus (intro w; go_simp; (try with_reducible rfl); done)); simp only [Act.put, List.setIfInBounds_toArray, List.set_cons_zero, List.set_cons_succ])
  refine lexg_nil (fun _ => wpAnyG_done (by kernel_rfl) ?_ _)
  have R2 := HR.out.trans (hb2.mono HR.out.size)
  go_wp2
  go_ret
  exact ⟨rfl, R2⟩
end Go.Proofs.Ytjdkafamaoeifaa
