/- Walks: the example of layer 10; a policy's numbers, and the policy of numbers; lists of numbers held against each other; a place by any number. -/
import Derived.Test.YtjdkafamaoeifaaPol2
-- PARTIAL
namespace Go.Proofs.Ytjdkafamaoeifaa
open Go.RowKit

/-- one policy's cells -/
theorem Pol.at_ {w : World} {b o : Nat} {p : Pol} (h : CellsAt w b o p.cells) : w.cell? ⟨b, o, none⟩ = some (.int .i64 p.r) ∧ w.cell? ⟨b, o + 1, none⟩ = some (.int .i64 p.w) ∧ w.cell? ⟨b, o + 2, none⟩ = some (.int .i64 p.l) ∧ w.cell? ⟨b, o + 3, none⟩ = some (.int .i64 p.b) :=
  ⟨h 0 _ rfl, h 1 _ rfl, h 2 _ rfl, h 3 _ rfl⟩
theorem aw10a : admits 1 [⟨1000, 1, 0, 0⟩] = true := by decide
theorem aw10b : admits 1 [⟨1000, 1, 0, 0⟩, ⟨1000, 1, 0, 0⟩] = false := by decide
theorem aw10c : (load [⟨1000, 1, 0, 0⟩] == 16777216) = true := by decide
def pick (k n : Int) : Int := if n < 1 then 0 else k % n
theorem pick_bd (k n : Int) (h : 1 ≤ n) : 0 ≤ pick k n ∧ pick k n < n := by
  unfold pick
  rw [if_neg (by omega)]
  exact ⟨Int.emod_nonneg _ (by omega), Int.emod_lt_of_pos _ (by omega)⟩
theorem tmod_emod {k n : Int} (h : 1 ≤ n) : (if k.tmod n < 0 then k.tmod n + n else k.tmod n) = k % n := by
  have h1 := Int.emod_nonneg k (show n ≠ 0 by omega)
  have h2 := Int.emod_lt_of_pos k (show 0 < n by omega)
  rw [Int.tmod_eq_emod]
  have e : ((n.natAbs : Nat) : Int) = n := by omega
  by_cases c : 0 ≤ k ∨ n ∣ k
  · simp only [if_pos c]; rw [if_neg (by omega)]; omega
  · simp only [if_neg c]; rw [e, if_pos (by omega)]; omega
theorem tmod_bd (k : Int) {n : Int} (h : 1 ≤ n) : -n < k.tmod n ∧ k.tmod n < n := ⟨Int.lt_tmod_of_pos k (by omega), Int.tmod_lt_of_pos k (by omega)⟩
def intCells (xs : List Int) : List Value := xs.map (Value.int .i64)
theorem intCells_get (xs : List Int) (k : Nat) (h : k < xs.length) : (intCells xs)[k]? = some (.int .i64 xs[k]) := by
  simp [intCells, h]
theorem same_no {xs ys : List Int} {k : Nat} (hx : k < xs.length) (hy : k < ys.length) (h : xs[k] ≠ ys[k]) : xs ≠ ys := by
  intro e; subst e; exact h rfl
end Go.Proofs.Ytjdkafamaoeifaa
