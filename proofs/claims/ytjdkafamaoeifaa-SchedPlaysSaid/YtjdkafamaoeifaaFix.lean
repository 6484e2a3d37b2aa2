/- The walks through fixnum and the document's answer for layer 1: what each function returns, the world as it was. -/
import Derived.Test.YtjdkafamaoeifaaPlain
import Derived.Test.YtjdkafamaoeifaaKit
import Derived.Deep.QuietTactic
import Derived.BigQuiet
-- PARTIAL
namespace Go.Proofs.Ytjdkafamaoeifaa
open Go.RowKit

set_option maxHeartbeats 400000 in
theorem hold_calls (a : Int) (w : World) :
    Calls Try.prog 71 #[.int .i64 a] w fun e w' => e = .returned (.int .i64 (hold a)) ∧ w = w' := by
  go_enter Try.func71, Try.ntmps71
  go_wp2
  all_goals (go_ret; exact ⟨ret_int (by unfold hold; grind), rfl⟩)
set_option maxHeartbeats 400000 in
theorem rhold_calls (a : Int) (w : World) :
    Calls Try.prog 65 #[.int .i64 a] w fun e w' => e = .returned (.int .i64 (hold a)) ∧ w = w' := by
  go_enter Try.func65, Try.ntmps65
  go_wp2
  all_goals (go_ret; exact ⟨ret_int (by unfold hold; grind), rfl⟩)
set_option maxHeartbeats 400000 in
theorem isRate_calls (a : Int) (w : World) :
    Calls Try.prog 64 #[.int .i64 a] w fun e w' => e = .returned (.bool (isRate a)) ∧ w = w' := by
  go_enter Try.func64, Try.ntmps64
  go_wp2
  all_goals (go_ret; exact ⟨ret_bool (by unfold isRate; grind), rfl⟩)
set_option maxHeartbeats 400000 in
theorem add_calls (a b : Int) (w : World) :
    Calls Try.prog 59 #[.int .i64 a, .int .i64 b] w fun e w' => e = .returned (.int .i64 (add a b)) ∧ w = w' := by
  have a0 := hold_lo a
  have a1 := hold_hi a
  have b0 := hold_lo b
  have b1 := hold_hi b
  go_enter Try.func59, Try.ntmps59
  go_wp2_with (go_at_call 71; with_reducible refine (hold_calls _ _).mono ?_; rintro e w' ⟨rfl, rfl⟩)
  go_ret
  exact ⟨ret_int rfl, rfl⟩
set_option maxHeartbeats 400000 in
theorem times_calls (a b : Int) (w : World) :
    Calls Try.prog 56 #[.int .i64 a, .int .i64 b] w fun e w' => e = .returned (.int .i64 (times a b)) ∧ w = w' := by
  have a0 := hold_lo a
  have a1 := hold_hi a
  have b0 := hold_lo b
  have b1 := hold_hi b
  go_enter Try.func56, Try.ntmps56
  go_wp2_with (go_at_call 71; with_reducible refine (hold_calls _ _).mono ?_; rintro e w' ⟨rfl, rfl⟩)
  · go_ret
    exact ⟨ret_int (by unfold times; rw [if_pos ⟨‹_›, ‹_›⟩]), rfl⟩
  · go_ret
    exact ⟨ret_int (by
      have h1 : hold a ≤ 2305843009213693952 / hold b := by assumption
      have p := prod_fits (Or.inr h1)
      rw [IntWalk.wrap64_in _ (by omega)]
      unfold times; rw [if_neg (by omega)]), rfl⟩
  · go_ret
    exact ⟨ret_int (by
      have h1 : hold b ≤ 0 := by assumption
      have p := prod_fits (a := a) (Or.inl h1)
      rw [IntWalk.wrap64_in _ (by omega)]
      unfold times; rw [if_neg (by omega)]), rfl⟩
set_option maxHeartbeats 400000 in
theorem at_calls (a : Int) (w : World) :
    Calls Try.prog 33 #[.int .i64 a] w fun e w' => e = .returned (.int .i64 (at_ a)) ∧ w = w' := by
  go_enter Try.func33, Try.ntmps33
  go_wp2_with (go_at_call 56; with_reducible refine (times_calls _ _ _).mono ?_; rintro e w' ⟨rfl, rfl⟩)
  go_ret
  exact ⟨ret_int rfl, rfl⟩
set_option maxHeartbeats 400000 in
theorem space_calls (a : Int) (w : World) :
    Calls Try.prog 46 #[.int .i64 a] w fun e w' => e = .returned (.int .i64 (space a)) ∧ w = w' := by
  cases h : isRate a with
  | false =>
    go_enter Try.func46, Try.ntmps46
    go_wp2_with (go_at_call 64; with_reducible refine (isRate_calls _ _).mono ?_; rintro e w' ⟨rfl, rfl⟩)
    go_ret
    exact ⟨ret_int (by simp [space, h]), rfl⟩
  | true =>
    have := isRate_yes h
    go_enter Try.func46, Try.ntmps46
    go_wp2_with (go_at_call 64; with_reducible refine (isRate_calls _ _).mono ?_; rintro e w' ⟨rfl, rfl⟩)
    go_ret
    exact ⟨ret_int (by simp [space, h]), rfl⟩
set_option maxHeartbeats 400000 in
theorem wide_calls (a : Int) (w : World) :
    Calls Try.prog 45 #[.int .i64 a] w fun e w' => e = .returned (.int .i64 (wide a)) ∧ w = w' := by
  cases h : isRate a with
  | false =>
    go_enter Try.func45, Try.ntmps45
    go_wp2_with (go_at_call 64; with_reducible refine (isRate_calls _ _).mono ?_; rintro e w' ⟨rfl, rfl⟩)
    go_ret
    exact ⟨ret_int (by simp [wide, h]), rfl⟩
  | true =>
    have := isRate_yes h
    go_enter Try.func45, Try.ntmps45
    go_wp2_with (go_at_call 64; with_reducible refine (isRate_calls _ _).mono ?_; rintro e w' ⟨rfl, rfl⟩)
    go_ret
    exact ⟨ret_int (by simp [wide, h]), rfl⟩
theorem part_bd {s : Int} (h : 1 ≤ s) : 0 ≤ 1099511627776 / s ∧ 1099511627776 / s ≤ 1099511627776 ∧ 0 ≤ 1099511627776 % s ∧ 1099511627776 % s < s := by
  exact ⟨Int.ediv_nonneg (by decide) (by omega), Int.ediv_le_self _ (by decide), Int.emod_nonneg _ (by omega), Int.emod_lt_of_pos _ (by omega)⟩
set_option maxHeartbeats 400000 in
theorem rAdd_calls (a b : Int) (w : World) :
    Calls Try.prog 67 #[.int .i64 a, .int .i64 b] w fun e w' => e = .returned (.int .i64 (add a b)) ∧ w = w' := by
  have a0 := hold_lo a
  have a1 := hold_hi a
  have b0 := hold_lo b
  have b1 := hold_hi b
  go_enter Try.func67, Try.ntmps67
  go_wp2_with (go_at_call 65; with_reducible refine (rhold_calls _ _).mono ?_; rintro e w' ⟨rfl, rfl⟩)
  all_goals (go_ret; exact ⟨ret_int (by rw [← rAdd_eq]; unfold rAdd; grind), rfl⟩)
set_option maxHeartbeats 400000 in
theorem rTimes_calls (a b : Int) (w : World) :
    Calls Try.prog 49 #[.int .i64 a, .int .i64 b] w fun e w' => e = .returned (.int .i64 (times a b)) ∧ w = w' := by
  have a0 := hold_lo a
  have a1 := hold_hi a
  have b0 := hold_lo b
  have b1 := hold_hi b
  by_cases ha : hold a = 0
  · have H := hide ha
    have t1 : (hold a == 0) = true := beq_iff_eq.2 ha
    clear ha
    go_enter Try.func49, Try.ntmps49
    go_wp2_with (go_at_call 65; with_reducible refine (rhold_calls _ _).mono ?_; rintro e w' ⟨rfl, rfl⟩)
    all_goals (go_ret; exact ⟨ret_int (by rw [← rTimes_eq]; unfold rTimes; rw [if_pos (Or.inl H.out)]), rfl⟩)
  · have h1 : 1 ≤ hold a := by omega
    have t1 : (hold a == 0) = false := beq_eq_false_iff_ne.2 ha
    clear ha
    by_cases hb : hold b = 0
    · have H := hide hb
      have t2 : (hold b == 0) = true := beq_iff_eq.2 hb
      clear hb
      go_enter Try.func49, Try.ntmps49
      go_wp2_with (go_at_call 65; with_reducible refine (rhold_calls _ _).mono ?_; rintro e w' ⟨rfl, rfl⟩)
      all_goals (go_ret; exact ⟨ret_int (by rw [← rTimes_eq]; unfold rTimes; rw [if_pos (Or.inr H.out)]), rfl⟩)
    · have h2 : 1 ≤ hold b := by omega
      have t2 : (hold b == 0) = false := beq_eq_false_iff_ne.2 hb
      clear hb
      by_cases hc : hold a ≤ 2305843009213693952 / hold b
      · have fit := prod_fits (a := a) (n := b) (Or.inr hc)
        go_enter Try.func49, Try.ntmps49
        go_wp2_with (go_at_call 65; with_reducible refine (rhold_calls _ _).mono ?_; rintro e w' ⟨rfl, rfl⟩)
        all_goals (go_ret; exact ⟨ret_int (by rw [← rTimes_eq, rTimes, if_neg (by omega), if_neg (by omega)]; try rw [IntWalk.wrap64_in _ (by omega)]), rfl⟩)
      · go_enter Try.func49, Try.ntmps49
        go_wp2_with (go_at_call 65; with_reducible refine (rhold_calls _ _).mono ?_; rintro e w' ⟨rfl, rfl⟩)
        all_goals (go_ret; exact ⟨ret_int (by rw [← rTimes_eq, rTimes, if_neg (by omega), if_pos (by omega)]), rfl⟩)
set_option maxHeartbeats 400000 in
theorem rSpace_calls (a : Int) (w : World) :
    Calls Try.prog 19 #[.int .i64 a] w fun e w' => e = .returned (.int .i64 (space a)) ∧ w = w' := by
  go_enter Try.func19, Try.ntmps19
  go_wp2
  all_goals (go_ret; exact ⟨ret_int (by unfold space isRate; grind), rfl⟩)
set_option maxHeartbeats 400000 in
theorem rWide_calls (a : Int) (w : World) :
    Calls Try.prog 17 #[.int .i64 a] w fun e w' => e = .returned (.int .i64 (wide a)) ∧ w = w' := by
  cases h : isRate a with
  | false =>
    have e0 : space a = 0 := by simp [space, h]
    have e1 : space a ≤ 0 := by omega
    have e2 : 0 ≤ space a := by omega
    have H := hide e0
    clear e0
    go_enter Try.func17, Try.ntmps17
    go_wp2_with (go_at_call 19; with_reducible refine (rSpace_calls _ _).mono ?_; rintro e w' ⟨rfl, rfl⟩)
    all_goals (go_ret; exact ⟨ret_int (by rw [← rWide_eq]; unfold rWide; rw [H.out]; simp), rfl⟩)
  | true =>
    obtain ⟨h1, h2⟩ := isRate_yes h
    have hs := space_pos h
    have e0 : space a = 65536000 / a := by simp [space, h]
    obtain ⟨m1, m2, _⟩ := div_mul_facts (M := 65536000) (r := a) (by omega)
    rw [← e0] at hs m1 m2
    have m3 : 0 ≤ space a * a := Int.mul_nonneg (by omega) (by omega)
    have W1 : wrap64 (space a * a) = space a * a := IntWalk.wrap64_in _ (by omega)
    clear e0
    go_enter Try.func17, Try.ntmps17
    go_wp2_with (go_at_call 19; with_reducible refine (rSpace_calls _ _).mono ?_; rintro e w' ⟨rfl, rfl⟩)
    all_goals (go_ret; exact ⟨ret_int (by rw [← rWide_eq]; unfold rWide; grind), rfl⟩)
set_option maxHeartbeats 400000 in
theorem rShare_calls (a : Int) (w : World) :
    Calls Try.prog 62 #[.int .i64 a] w fun e w' => e = .returned (.int .i64 (share a)) ∧ w = w' := by
  by_cases h : a < 1
  · go_enter Try.func62, Try.ntmps62
    go_wp2
    go_ret
    exact ⟨ret_int (by simp [share, h]), rfl⟩
  · have h' : 1 ≤ a := by omega
    have hb := part_bd h'
    obtain ⟨m1, m2, _⟩ := div_mul_facts (M := 1099511627776) (r := a) (by omega)
    have m3 : 0 ≤ 1099511627776 / a * a := Int.mul_nonneg (by omega) (by omega)
    have W1 : wrap64 (1099511627776 / a * a) = 1099511627776 / a * a := IntWalk.wrap64_in _ (by omega)
    go_enter Try.func62, Try.ntmps62
    go_wp2
    all_goals (go_ret; exact ⟨ret_int (by rw [← rShare_eq]; unfold rShare; grind), rfl⟩)
end Go.Proofs.Ytjdkafamaoeifaa
