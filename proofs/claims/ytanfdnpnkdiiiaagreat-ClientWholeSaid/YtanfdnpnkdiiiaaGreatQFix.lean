/- One text of: Fix. -/
import Derived.Deep.QuietTactic
import Derived.BigQuiet
import Derived.Test.YtanfdnpnkdiiiaaGreatQPlain
import Derived.Test.YtanfdnpnkdiiiaaGreatQBase
namespace Go.Proofs.YtanfdnpnkdiiiaaGreat
open Go.RowKit

set_option maxHeartbeats 400000 in
theorem isRate_calls (a : Int) (w : World) :
    Calls Tryz.prog 111 #[.int .i64 a] w fun e w' => e = .returned (.bool (isRate a)) ∧ w = w' := by
  go_enter Tryz.func111, Tryz.ntmps111
  go_wp2
  all_goals (go_ret; exact ⟨ret_bool (by unfold isRate; grind), rfl⟩)
set_option maxHeartbeats 400000 in
theorem space_calls (a : Int) (w : World) :
    Calls Tryz.prog 102 #[.int .i64 a] w fun e w' => e = .returned (.int .i64 (space a)) ∧ w = w' := by
  cases h : isRate a with
  | false =>
    go_enter Tryz.func102, Tryz.ntmps102
    go_wp2_with (go_at_call 111; with_reducible refine (isRate_calls _ _).mono ?_; rintro e w' ⟨rfl, rfl⟩)
    go_ret
    exact ⟨ret_int (by simp [space, h]), rfl⟩
  | true =>
    have := isRate_yes h
    go_enter Tryz.func102, Tryz.ntmps102
    go_wp2_with (go_at_call 111; with_reducible refine (isRate_calls _ _).mono ?_; rintro e w' ⟨rfl, rfl⟩)
    go_ret
    exact ⟨ret_int (by simp [space, h]), rfl⟩
theorem part_bd {s : Int} (h : 1 ≤ s) : 0 ≤ 1099511627776 / s ∧ 1099511627776 / s ≤ 1099511627776 ∧ 0 ≤ 1099511627776 % s ∧ 1099511627776 % s < s := by
  exact ⟨Int.ediv_nonneg (by decide) (by omega), Int.ediv_le_self _ (by decide), Int.emod_nonneg _ (by omega), Int.emod_lt_of_pos _ (by omega)⟩
set_option maxHeartbeats 400000 in
theorem share_calls (a : Int) (w : World) :
    Calls Tryz.prog 101 #[.int .i64 a] w fun e w' => e = .returned (.int .i64 (share a)) ∧ ∃ n, w' = w.drewN n := by
  by_cases h : a < 1
  · go_enter Tryz.func101, Tryz.ntmps101
    go_wp2
    go_ret
    exact ⟨ret_int (by simp [share, h]), 0, rfl⟩
  · have h' : 1 ≤ a := by omega
    have hb := part_bd h'
    go_enter Tryz.func101, Tryz.ntmps101
    go_wp2
    go_quiet (fail)
    go_wp2
    all_goals (go_ret; exact ⟨ret_int (by unfold share; grind), _, rfl⟩)
end Go.Proofs.YtanfdnpnkdiiiaaGreat
