/- One text of: Open. -/
import Derived.Deep.Slices
import Derived.Deep.Fields
import Derived.Lib.SmallJoins
import Derived.Test.YteppdlkmjgladaaGreatQBase
namespace Go.Proofs.YteppdlkmjgladaaGreat
open Go.ChangeShapes Go.WideShapes Go.RowKit Go.Deep Go.Joins

section
variable {H : Type} {enc : TypeId × Value → H} {P : Program} {w : World} {base b0 : Nat} {spare : Nat → Bool} {held : Bool}
theorem open_intsR {r : Reach} {t e : TypeId} {k : IntKind} {v : Value} {d : DataW H} {ps : List MemPlace} (ht : P.underlying t = some (.slice e)) (he : P.underlying e = some (.int k)) (hC : P.cellsOf e = 1)
  (hv : Value.okWide P w r b0 t v) (h : DataW.Trod enc P w base spare held t v d ps) :
  ∃ (A : Option Addr) (c : Nat) (xs : List Int), v = .slice A xs.length c ∧ xs.length ≤ c ∧ c ≤ maxLen ∧ (∀ x ∈ xs, (Lit.int k x).wf = true) ∧ Reads w w.heap.size 1 A xs.length (xs.map (Value.int k)) := by
 obtain ⟨A, n, c, rfl⟩ := okWide_slice ht hv
 obtain ⟨fuel, hf⟩ := h
 rcases open_ints ht he hC hf with ⟨hcs, _⟩ | ⟨a, len, cap, zs, hcs, _, hl, hm, hz, _, hcell, hwz⟩
 ·have e0 : A = none ∧ n = 0 ∧ c = 0 := by simpa [Value.cells] using hcs
  obtain ⟨rfl, rfl, rfl⟩ := e0
  exact ⟨none, 0, [], rfl, Nat.le_refl _, by unfold maxLen; omega, (fun x hx => by cases hx), Reads.none_⟩
 ·have e0 : A = some a ∧ n = len ∧ c = cap := by simpa [Value.cells] using hcs
  obtain ⟨rfl, rfl, rfl⟩ := e0
  have hnz : n ≤ zs.length := by rw [hz]; split <;> omega
  have hln : (zs.take n).length = n := by rw [List.length_take]; omega
  refine ⟨some a, c, zs.take n, by rw [hln], by rw [hln]; exact hl, hm, fun x hx => hwz x (List.mem_of_mem_take hx), ?_⟩
  rw [hln]
  refine ⟨by rw [List.length_map, hln, Nat.mul_one], fun hn => ?_⟩
  obtain ⟨b, o, rfl, hc⟩ := ints_at hcell (by omega)
  refine ⟨b, o, rfl, ?_, fun j u hu => ?_⟩
  ·have h0 := hc 0 (by omega)
   exact World.block_lt_of_cell? w _ h0
  ·have hj : j < n := by
    have := (List.getElem?_eq_some_iff.1 hu).1
    rw [List.length_map, hln] at this
    exact this
   have hjz : j < zs.length := by omega
   rw [List.getElem?_map, List.getElem?_take, if_pos hj, List.getElem?_eq_getElem hjz, Option.map_some] at hu
   rw [hc j hjz, ← hu]
   simp [hjz]
end
end Go.Proofs.YteppdlkmjgladaaGreat
