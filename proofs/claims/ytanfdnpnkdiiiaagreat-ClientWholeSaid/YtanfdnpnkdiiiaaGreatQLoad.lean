/- One text of: Load. -/
import Derived.WalkMore
import Derived.Deep.LoopGhost
import Derived.Outline
import Derived.Test.YtanfdnpnkdiiiaaGreatQFair
import Derived.Test.YtanfdnpnkdiiiaaGreatQBase
namespace Go.Proofs.YtanfdnpnkdiiiaaGreat
open Go.RowKit

theorem flat_length {α : Type} (f : α → List Value) (m : Nat) (hf : ∀ x, (f x).length = m) (xs : List α) : (xs.flatMap f).length = xs.length * m := by
  induction xs with
  | nil => simp
  | cons x xs ih => rw [List.flatMap_cons, List.length_append, ih, hf, List.length_cons, Nat.add_mul, Nat.one_mul, Nat.add_comm]
theorem flat_get {α : Type} (f : α → List Value) (m : Nat) (hf : ∀ x, (f x).length = m) (xs : List α) (k j : Nat) (hk : k < xs.length) (hj : j < m) : (xs.flatMap f)[k * m + j]? = (f xs[k])[j]? := by
  induction xs generalizing k with
  | nil => simp at hk
  | cons x xs ih =>
    have hl := hf x
    cases k with
    | zero =>
      simp only [List.flatMap_cons, Nat.zero_mul, Nat.zero_add, List.getElem_cons_zero]
      rw [List.getElem?_append_left (by omega)]
    | succ k =>
      have := ih k (by simpa using hk)
      simp only [List.flatMap_cons, List.getElem_cons_succ] at this ⊢
      rw [List.getElem?_append_right (by rw [hl, Nat.add_mul]; omega), hl, show (k + 1) * m + j - m = k * m + j by rw [Nat.add_mul]; omega, this]
structure Ld where
  id : Int
  n : Int
def Ld.cells (x : Ld) : List Value := [.int .i64 x.id, .int .i64 x.n]
def ldCells (xs : List Ld) : List Value := xs.flatMap Ld.cells
theorem ldCells_get (xs : List Ld) (k j : Nat) (hk : k < xs.length) (hj : j < 2) : (ldCells xs)[k * 2 + j]? = xs[k].cells[j]? :=
  flat_get Ld.cells 2 (fun _ => rfl) xs k j hk hj
def inSpan (flow from_ to : Int) (x : Ld) : Bool := decide (x.id = flow) && decide (from_ < x.n) && decide (x.n ≤ to)
def most (xs : List Ld) (flow from_ to : Int) : Nat := (xs.filter (inSpan flow from_ to)).length
theorem most_step (xs : List Ld) (flow from_ to : Int) (k : Nat) (h : k < xs.length) : most (xs.take (k + 1)) flow from_ to = most (xs.take k) flow from_ to + (if inSpan flow from_ to xs[k] then 1 else 0) := by
  unfold most
  rw [List.take_succ_eq_append_getElem h, List.filter_append, List.length_append]
  by_cases hh : inSpan flow from_ to xs[k] = true <;> simp [hh]
theorem most_le (xs : List Ld) (flow from_ to : Int) (k : Nat) : most (xs.take k) flow from_ to ≤ k := by
  unfold most
  refine Nat.le_trans (List.length_filter_le _ _) ?_
  rw [List.length_take]; omega
theorem Tryz.infoInt : (Tryz.prog.info? 3).map (fun i => (i.zero, i.size, i.bytes)) = some (some (.int .i64 0), 1, 8) := by kernel_rfl
def ticksL (xs : List Ld) (flow : Int) : List Int := (xs.filter fun x => decide (x.id = flow)).map Ld.n
theorem ticksL_step (xs : List Ld) (flow : Int) (k : Nat) (h : k < xs.length) : ticksL (xs.take (k + 1)) flow = ticksL (xs.take k) flow ++ (if xs[k].id = flow then [xs[k].n] else []) := by
  unfold ticksL
  rw [List.take_succ_eq_append_getElem h, List.filter_append, List.map_append]
  by_cases hh : xs[k].id = flow <;> simp [hh]
theorem ticksL_le (xs : List Ld) (flow : Int) : (ticksL xs flow).length ≤ xs.length := by
  unfold ticksL
  rw [List.length_map]
  exact List.length_filter_le _ _
theorem ticksL_take_le (xs : List Ld) (flow : Int) (k : Nat) : (ticksL (xs.take k) flow).length ≤ k := by
  refine Nat.le_trans (ticksL_le _ _) ?_
  rw [List.length_take]; omega
end Go.Proofs.YtanfdnpnkdiiiaaGreat
