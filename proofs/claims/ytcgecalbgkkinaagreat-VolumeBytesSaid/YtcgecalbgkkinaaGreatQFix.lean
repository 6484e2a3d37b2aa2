/- One text of: Fix. -/
import Derived.Deep.QuietTactic
import Derived.BigQuiet
import Derived.Test.YtcgecalbgkkinaaGreatQPlain
import Derived.Test.YtcgecalbgkkinaaGreatQBase
namespace Go.Proofs.YtcgecalbgkkinaaGreat
open Go.RowKit

set_option maxHeartbeats 400000 in
theorem isRate_calls (a : Int) (w : World) :
    Calls Tryz.prog 115 #[.int .i64 a] w fun e w' => e = .returned (.bool (isRate a)) ∧ w = w' := by
  go_enter Tryz.func115, Tryz.ntmps115
  go_wp2
  all_goals (go_ret; exact ⟨ret_bool (by unfold isRate; grind), rfl⟩)
set_option maxHeartbeats 400000 in
theorem space_calls (a : Int) (w : World) :
    Calls Tryz.prog 107 #[.int .i64 a] w fun e w' => e = .returned (.int .i64 (space a)) ∧ w = w' := by
  cases h : isRate a with
  | false =>
    go_enter Tryz.func107, Tryz.ntmps107
    go_wp2_with (go_at_call 115; with_reducible refine (isRate_calls _ _).mono ?_; rintro e w' ⟨rfl, rfl⟩)
    go_ret
    exact ⟨ret_int (by simp [space, h]), rfl⟩
  | true =>
    have := isRate_yes h
    go_enter Tryz.func107, Tryz.ntmps107
    go_wp2_with (go_at_call 115; with_reducible refine (isRate_calls _ _).mono ?_; rintro e w' ⟨rfl, rfl⟩)
    go_ret
    exact ⟨ret_int (by simp [space, h]), rfl⟩
theorem part_bd {s : Int} (h : 1 ≤ s) : 0 ≤ 1099511627776 / s ∧ 1099511627776 / s ≤ 1099511627776 ∧ 0 ≤ 1099511627776 % s ∧ 1099511627776 % s < s := by
  exact ⟨Int.ediv_nonneg (by decide) (by omega), Int.ediv_le_self _ (by decide), Int.emod_nonneg _ (by omega), Int.emod_lt_of_pos _ (by omega)⟩
set_option maxHeartbeats 400000 in
theorem share_calls (a : Int) (w : World) :
    Calls Tryz.prog 106 #[.int .i64 a] w fun e w' => e = .returned (.int .i64 (share a)) ∧ ∃ n, w' = w.drewN n := by
  by_cases h : a < 1
  · go_enter Tryz.func106, Tryz.ntmps106
    go_wp2
    go_ret
    exact ⟨ret_int (by simp [share, h]), 0, rfl⟩
  · have h' : 1 ≤ a := by omega
    have hb := part_bd h'
    go_enter Tryz.func106, Tryz.ntmps106
    go_wp2
    go_quiet (fail)
    go_wp2
    all_goals (go_ret; exact ⟨ret_int (by unfold share; grind), _, rfl⟩)
set_option maxHeartbeats 400000 in
theorem rSpace_calls (a : Int) (w : World) :
    Calls Tryz.prog 100 #[.int .i64 a] w fun e w' => e = .returned (.int .i64 (space a)) ∧ w = w' := by
  go_enter Tryz.func100, Tryz.ntmps100
  go_wp2
  all_goals (go_ret; exact ⟨ret_int (by unfold space isRate; grind), rfl⟩)
set_option maxHeartbeats 400000 in
theorem rShare_calls (a : Int) (w : World) :
    Calls Tryz.prog 99 #[.int .i64 a] w fun e w' => e = .returned (.int .i64 (share a)) ∧ w = w' := by
  by_cases h : a < 1
  · go_enter Tryz.func99, Tryz.ntmps99
    go_wp2
    go_ret
    exact ⟨ret_int (by simp [share, h]), rfl⟩
  · have h' : 1 ≤ a := by omega
    have hb := part_bd h'
    obtain ⟨m1, m2, _⟩ := div_mul_facts (M := 1099511627776) (r := a) (by omega)
    have m3 : 0 ≤ 1099511627776 / a * a := Int.mul_nonneg (by omega) (by omega)
    have W1 : wrap64 (1099511627776 / a * a) = 1099511627776 / a * a := IntWalk.wrap64_in _ (by omega)
    go_enter Tryz.func99, Tryz.ntmps99
    go_wp2
    all_goals (go_ret; exact ⟨ret_int (by rw [← rShare_eq]; unfold rShare; grind), rfl⟩)
end Go.Proofs.YtcgecalbgkkinaaGreat
