/- One text of: Load. -/
import Derived.WalkMore
import Derived.Deep.LoopGhost
import Derived.Outline
import Derived.Test.YtcgecalbgkkinaaGreatQFair
import Derived.Test.YtcgecalbgkkinaaGreatQBase
namespace Go.Proofs.YtcgecalbgkkinaaGreat
open Go.RowKit

theorem flat_length {α : Type} (f : α → List Value) (m : Nat) (hf : ∀ x, (f x).length = m) (xs : List α) : (xs.flatMap f).length = xs.length * m := by
  induction xs with
  | nil => simp
  | cons x xs ih => rw [List.flatMap_cons, List.length_append, ih, hf, List.length_cons, Nat.add_mul, Nat.one_mul, Nat.add_comm]
theorem flat_get {α : Type} (f : α → List Value) (m : Nat) (hf : ∀ x, (f x).length = m) (xs : List α) (k j : Nat) (hk : k < xs.length) (hj : j < m) : (xs.flatMap f)[k * m + j]? = (f xs[k])[j]? := by
  induction xs generalizing k with
  | nil => simp at hk
  | cons x xs ih =>
    have hl := hf x
    cases k with
    | zero =>
      simp only [List.flatMap_cons, Nat.zero_mul, Nat.zero_add, List.getElem_cons_zero]
      rw [List.getElem?_append_left (by omega)]
    | succ k =>
      have := ih k (by simpa using hk)
      simp only [List.flatMap_cons, List.getElem_cons_succ] at this ⊢
      rw [List.getElem?_append_right (by rw [hl, Nat.add_mul]; omega), hl, show (k + 1) * m + j - m = k * m + j by rw [Nat.add_mul]; omega, this]
structure Ld where
  id : Int
  n : Int
def Ld.cells (x : Ld) : List Value := [.int .i64 x.id, .int .i64 x.n]
def ldCells (xs : List Ld) : List Value := xs.flatMap Ld.cells
theorem ldCells_get (xs : List Ld) (k j : Nat) (hk : k < xs.length) (hj : j < 2) : (ldCells xs)[k * 2 + j]? = xs[k].cells[j]? :=
  flat_get Ld.cells 2 (fun _ => rfl) xs k j hk hj
def inSpan (flow from_ to : Int) (x : Ld) : Bool := decide (x.id = flow) && decide (from_ < x.n) && decide (x.n ≤ to)
def most (xs : List Ld) (flow from_ to : Int) : Nat := (xs.filter (inSpan flow from_ to)).length
end Go.Proofs.YtcgecalbgkkinaaGreat
