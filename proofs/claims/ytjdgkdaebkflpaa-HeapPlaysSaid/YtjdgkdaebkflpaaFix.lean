/- The walks through fixnum and the document's answer for layer 1: what each function returns, the world as it was. -/
import Derived.Test.YtjdgkdaebkflpaaPlain
import Derived.Test.YtjdgkdaebkflpaaKit
import Derived.Deep.QuietTactic
import Derived.BigQuiet
-- PARTIAL
namespace Go.Proofs.Ytjdgkdaebkflpaa
open Go.RowKit

set_option maxHeartbeats 400000 in
theorem hold_calls (a : Int) (w : World) :
    Calls Try.prog 70 #[.int .i64 a] w fun e w' => e = .returned (.int .i64 (hold a)) ∧ w = w' := by
  go_enter Try.func70, Try.ntmps70
  go_wp2
  all_goals (go_ret; exact ⟨ret_int (by unfold hold; grind), rfl⟩)
set_option maxHeartbeats 400000 in
theorem rhold_calls (a : Int) (w : World) :
    Calls Try.prog 71 #[.int .i64 a] w fun e w' => e = .returned (.int .i64 (hold a)) ∧ w = w' := by
  go_enter Try.func71, Try.ntmps71
  go_wp2
  all_goals (go_ret; exact ⟨ret_int (by unfold hold; grind), rfl⟩)
set_option maxHeartbeats 400000 in
theorem isRate_calls (a : Int) (w : World) :
    Calls Try.prog 73 #[.int .i64 a] w fun e w' => e = .returned (.bool (isRate a)) ∧ w = w' := by
  go_enter Try.func73, Try.ntmps73
  go_wp2
  all_goals (go_ret; exact ⟨ret_bool (by unfold isRate; grind), rfl⟩)
set_option maxHeartbeats 400000 in
theorem add_calls (a b : Int) (w : World) :
    Calls Try.prog 46 #[.int .i64 a, .int .i64 b] w fun e w' => e = .returned (.int .i64 (add a b)) ∧ w = w' := by
  have a0 := hold_lo a
  have a1 := hold_hi a
  have b0 := hold_lo b
  have b1 := hold_hi b
  go_enter Try.func46, Try.ntmps46
  go_wp2_with (go_at_call 70; with_reducible refine (hold_calls _ _).mono ?_; rintro e w' ⟨rfl, rfl⟩)
  go_ret
  exact ⟨ret_int rfl, rfl⟩
set_option maxHeartbeats 400000 in
theorem times_calls (a b : Int) (w : World) :
    Calls Try.prog 45 #[.int .i64 a, .int .i64 b] w fun e w' => e = .returned (.int .i64 (times a b)) ∧ w = w' := by
  have a0 := hold_lo a
  have a1 := hold_hi a
  have b0 := hold_lo b
  have b1 := hold_hi b
  go_enter Try.func45, Try.ntmps45
  go_wp2_with (go_at_call 70; with_reducible refine (hold_calls _ _).mono ?_; rintro e w' ⟨rfl, rfl⟩)
  · go_ret
    exact ⟨ret_int (by unfold times; rw [if_pos ⟨‹_›, ‹_›⟩]), rfl⟩
  · go_ret
    exact ⟨ret_int (by
      have h1 : hold a ≤ 2305843009213693952 / hold b := by assumption
      have p := prod_fits (Or.inr h1)
      rw [IntWalk.wrap64_in _ (by omega)]
      unfold times; rw [if_neg (by omega)]), rfl⟩
  · go_ret
    exact ⟨ret_int (by
      have h1 : hold b ≤ 0 := by assumption
      have p := prod_fits (a := a) (Or.inl h1)
      rw [IntWalk.wrap64_in _ (by omega)]
      unfold times; rw [if_neg (by omega)]), rfl⟩
set_option maxHeartbeats 400000 in
theorem at_calls (a : Int) (w : World) :
    Calls Try.prog 53 #[.int .i64 a] w fun e w' => e = .returned (.int .i64 (at_ a)) ∧ w = w' := by
  go_enter Try.func53, Try.ntmps53
  go_wp2_with (go_at_call 45; with_reducible refine (times_calls _ _ _).mono ?_; rintro e w' ⟨rfl, rfl⟩)
  go_ret
  exact ⟨ret_int rfl, rfl⟩
set_option maxHeartbeats 400000 in
theorem wide_calls (a : Int) (w : World) :
    Calls Try.prog 52 #[.int .i64 a] w fun e w' => e = .returned (.int .i64 (wide a)) ∧ w = w' := by
  cases h : isRate a with
  | false =>
    go_enter Try.func52, Try.ntmps52
    go_wp2_with (go_at_call 73; with_reducible refine (isRate_calls _ _).mono ?_; rintro e w' ⟨rfl, rfl⟩)
    go_ret
    exact ⟨ret_int (by simp [wide, h]), rfl⟩
  | true =>
    have := isRate_yes h
    go_enter Try.func52, Try.ntmps52
    go_wp2_with (go_at_call 73; with_reducible refine (isRate_calls _ _).mono ?_; rintro e w' ⟨rfl, rfl⟩)
    go_ret
    exact ⟨ret_int (by simp [wide, h]), rfl⟩
theorem part_bd {s : Int} (h : 1 ≤ s) : 0 ≤ 1099511627776 / s ∧ 1099511627776 / s ≤ 1099511627776 ∧ 0 ≤ 1099511627776 % s ∧ 1099511627776 % s < s := by
  exact ⟨Int.ediv_nonneg (by decide) (by omega), Int.ediv_le_self _ (by decide), Int.emod_nonneg _ (by omega), Int.emod_lt_of_pos _ (by omega)⟩
set_option maxHeartbeats 400000 in
theorem rAdd_calls (a b : Int) (w : World) :
    Calls Try.prog 49 #[.int .i64 a, .int .i64 b] w fun e w' => e = .returned (.int .i64 (add a b)) ∧ w = w' := by
  have a0 := hold_lo a
  have a1 := hold_hi a
  have b0 := hold_lo b
  have b1 := hold_hi b
  go_enter Try.func49, Try.ntmps49
  go_wp2_with (go_at_call 71; with_reducible refine (rhold_calls _ _).mono ?_; rintro e w' ⟨rfl, rfl⟩)
  all_goals (go_ret; exact ⟨ret_int (by rw [← rAdd_eq]; unfold rAdd; grind), rfl⟩)
set_option maxHeartbeats 400000 in
theorem rTimes_calls (a b : Int) (w : World) :
    Calls Try.prog 48 #[.int .i64 a, .int .i64 b] w fun e w' => e = .returned (.int .i64 (times a b)) ∧ w = w' := by
  have a0 := hold_lo a
  have a1 := hold_hi a
  have b0 := hold_lo b
  have b1 := hold_hi b
  by_cases ha : hold a = 0
  · have H := hide ha
    have t1 : (hold a == 0) = true := beq_iff_eq.2 ha
    clear ha
    go_enter Try.func48, Try.ntmps48
    go_wp2_with (go_at_call 71; with_reducible refine (rhold_calls _ _).mono ?_; rintro e w' ⟨rfl, rfl⟩)
    all_goals (go_ret; exact ⟨ret_int (by rw [← rTimes_eq]; unfold rTimes; rw [if_pos (Or.inl H.out)]), rfl⟩)
  · have h1 : 1 ≤ hold a := by omega
    have t1 : (hold a == 0) = false := beq_eq_false_iff_ne.2 ha
    clear ha
    by_cases hb : hold b = 0
    · have H := hide hb
      have t2 : (hold b == 0) = true := beq_iff_eq.2 hb
      clear hb
      go_enter Try.func48, Try.ntmps48
      go_wp2_with (go_at_call 71; with_reducible refine (rhold_calls _ _).mono ?_; rintro e w' ⟨rfl, rfl⟩)
      all_goals (go_ret; exact ⟨ret_int (by rw [← rTimes_eq]; unfold rTimes; rw [if_pos (Or.inr H.out)]), rfl⟩)
    · have h2 : 1 ≤ hold b := by omega
      have t2 : (hold b == 0) = false := beq_eq_false_iff_ne.2 hb
      clear hb
      by_cases hc : hold a ≤ 2305843009213693952 / hold b
      · have fit := prod_fits (a := a) (n := b) (Or.inr hc)
        go_enter Try.func48, Try.ntmps48
        go_wp2_with (go_at_call 71; with_reducible refine (rhold_calls _ _).mono ?_; rintro e w' ⟨rfl, rfl⟩)
        all_goals (go_ret; exact ⟨ret_int (by rw [← rTimes_eq, rTimes, if_neg (by omega), if_neg (by omega)]; try rw [IntWalk.wrap64_in _ (by omega)]), rfl⟩)
      · go_enter Try.func48, Try.ntmps48
        go_wp2_with (go_at_call 71; with_reducible refine (rhold_calls _ _).mono ?_; rintro e w' ⟨rfl, rfl⟩)
        all_goals (go_ret; exact ⟨ret_int (by rw [← rTimes_eq, rTimes, if_neg (by omega), if_pos (by omega)]), rfl⟩)
end Go.Proofs.Ytjdgkdaebkflpaa
