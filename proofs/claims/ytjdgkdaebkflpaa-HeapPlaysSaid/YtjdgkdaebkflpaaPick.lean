/- The walk through the document's Pick. -/
import Derived.Test.YtjdgkdaebkflpaaOpen
namespace Go.Proofs.Ytjdgkdaebkflpaa
open Go.RowKit

def pick (k n : Int) : Int := if n < 1 then 0 else k % n
theorem pick_bd (k n : Int) (h : 1 ≤ n) : 0 ≤ pick k n ∧ pick k n < n := by
  unfold pick
  rw [if_neg (by omega)]
  exact ⟨Int.emod_nonneg _ (by omega), Int.emod_lt_of_pos _ (by omega)⟩
theorem tmod_emod {k n : Int} (h : 1 ≤ n) : (if k.tmod n < 0 then k.tmod n + n else k.tmod n) = k % n := by
  have h1 := Int.emod_nonneg k (show n ≠ 0 by omega)
  have h2 := Int.emod_lt_of_pos k (show 0 < n by omega)
  rw [Int.tmod_eq_emod]
  have e : ((n.natAbs : Nat) : Int) = n := by omega
  by_cases c : 0 ≤ k ∨ n ∣ k
  · simp only [if_pos c]; rw [if_neg (by omega)]; omega
  · simp only [if_neg c]; rw [e, if_pos (by omega)]; omega
theorem tmod_bd (k : Int) {n : Int} (h : 1 ≤ n) : -n < k.tmod n ∧ k.tmod n < n := ⟨Int.lt_tmod_of_pos k (by omega), Int.tmod_lt_of_pos k (by omega)⟩
set_option maxHeartbeats 400000 in
theorem pick_calls (k n : Int) (w : World) (hn : n ≤ 4611686018427387904) :
    Calls Try.prog 36 #[.int .i64 k, .int .i64 n] w fun e w' => e = .returned (.int .i64 (pick k n)) ∧ w = w' := by
  by_cases h : n < 1
  · go_enter Try.func36, Try.ntmps36
    go_wp2
    all_goals (go_ret; exact ⟨ret_int (by unfold pick; rw [if_pos h]), rfl⟩)
  · have h1 : 1 ≤ n := by omega
    have tb := tmod_bd k h1
    have te := hide (tmod_emod (k := k) h1)
    have hk : 0 ≤ k → k.tmod n = k % n := fun h => Int.tmod_eq_emod_of_nonneg h
    go_enter Try.func36, Try.ntmps36
    go_wp2
    all_goals (go_ret; exact ⟨ret_int (by unfold pick; rw [if_neg (by omega), ← te.out]; grind), rfl⟩)
end Go.Proofs.Ytjdgkdaebkflpaa
