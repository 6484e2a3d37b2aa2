/- Counts in arrays: six numbers, and 81 times six. -/
import Derived.Test.YtjdkafamaoeifaaRes
namespace Go.Proofs.Ytjdkafamaoeifaa
open Go.RowKit Go.Proofs
set_option linter.unusedVariables false
set_option linter.unusedSimpArgs false

def cntA (f : Nat → Int) : Array Value := #[.int .i64 (f 0), .int .i64 (f 1), .int .i64 (f 2), .int .i64 (f 3), .int .i64 (f 4), .int .i64 (f 5)]
theorem cntA_set (f : Nat → Int) {i : Nat} (hi : i < 6) (v : Int) : (cntA f).setIfInBounds i (.int .i64 v) = cntA (upW f i v) := by
  have : i = 0 ∨ i = 1 ∨ i = 2 ∨ i = 3 ∨ i = 4 ∨ i = 5 := by omega
  rcases this with rfl | rfl | rfl | rfl | rfl | rfl <;> rfl
theorem cntA_get (f : Nat → Int) {i : Nat} (hi : i < 6) : (cntA f)[i]? = some (.int .i64 (f i)) := by
  have : i = 0 ∨ i = 1 ∨ i = 2 ∨ i = 3 ∨ i = 4 ∨ i = 5 := by omega
  rcases this with rfl | rfl | rfl | rfl | rfl | rfl <;> rfl
def flatA (g : Nat → Int) (n : Nat) : Array Value := ((List.range n).map fun z => Value.int .i64 (g z)).toArray
theorem flatA_set (g : Nat → Int) (n i : Nat) (v : Int) : (flatA g n).setIfInBounds i (.int .i64 v) = flatA (upW g i v) n := by
  apply Array.ext_getElem?
  intro z
  rw [Array.getElem?_setIfInBounds]
  simp only [flatA, List.getElem?_toArray, List.getElem?_map, List.size_toArray, List.length_map, List.length_range, upW]
  by_cases e : i = z
  · subst e
    by_cases hz : i < n
    · simp [hz]
    · simp [hz, List.getElem?_eq_none (show (List.range n).length ≤ i by simp; omega)]
  · by_cases hz : z < n
    · simp [hz, e, Ne.symm e]
    · simp [hz, e, List.getElem?_eq_none (show (List.range n).length ≤ z by simp; omega)]
theorem flatA_get (g : Nat → Int) {n i : Nat} (h : i < n) : (flatA g n)[i]? = some (.int .i64 (g i)) := by simp [flatA, h]
theorem flatA_congr {g g' : Nat → Int} {n : Nat} (h : ∀ z, z < n → g z = g' z) : flatA g n = flatA g' n := by
  unfold flatA
  congr 1
  exact List.map_congr_left fun z hz => by rw [h z (by simpa using hz)]
def gridA (rows : Nat → Nat → Int) : Array Value := flatA (fun z => rows (z / 6) (z % 6)) 486
theorem gridA_get (rows : Nat → Nat → Int) {t i : Nat} (ht : t < 81) (hi : i < 6) : (gridA rows)[t * 6 + i]? = some (.int .i64 (rows t i)) := by
  unfold gridA
  rw [flatA_get _ (by omega)]
  rw [show (t * 6 + i) / 6 = t by omega, show (t * 6 + i) % 6 = i by omega]
theorem gridA_row (rows : Nat → Nat → Int) (c : Nat → Int) {t : Nat} (ht : t < 81) :
    ((((((gridA rows).setIfInBounds (t * 6) (.int .i64 (c 0))).setIfInBounds (t * 6 + 1) (.int .i64 (c 1))).setIfInBounds (t * 6 + 2) (.int .i64 (c 2))).setIfInBounds (t * 6 + 3) (.int .i64 (c 3))).setIfInBounds (t * 6 + 4) (.int .i64 (c 4))).setIfInBounds (t * 6 + 5) (.int .i64 (c 5)) = gridA (upW rows t c) := by
  unfold gridA
  rw [flatA_set, flatA_set, flatA_set, flatA_set, flatA_set, flatA_set]
  refine flatA_congr fun z hz => ?_
  by_cases e : z / 6 = t
  · have h : z = t * 6 + z % 6 := by omega
    have hm : z % 6 < 6 := Nat.mod_lt _ (by decide)
    rw [e, upW_same]
    have : z % 6 = 0 ∨ z % 6 = 1 ∨ z % 6 = 2 ∨ z % 6 = 3 ∨ z % 6 = 4 ∨ z % 6 = 5 := by omega
    rcases this with h6 | h6 | h6 | h6 | h6 | h6 <;> rw [h6] at h ⊢ <;> subst h <;> simp [upW]
  · rw [upW_other e]
    have h0 : z ≠ t * 6 := by omega
    have h1 : z ≠ t * 6 + 1 := by omega
    have h2 : z ≠ t * 6 + 2 := by omega
    have h3 : z ≠ t * 6 + 3 := by omega
    have h4 : z ≠ t * 6 + 4 := by omega
    have h5 : z ≠ t * 6 + 5 := by omega
    simp [upW, h0, h1, h2, h3, h4, h5]
set_option maxRecDepth 100000 in
theorem grid_zero : (gridA fun _ _ => 0) = Try.zeroCells44 := by rfl
end Go.Proofs.Ytjdkafamaoeifaa
