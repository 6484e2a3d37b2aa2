/- One text of: Open OpenG OpenP. -/
import Derived.Deep.Slices
import Derived.Deep.Fields
import Derived.Lib.SmallJoins
import Derived.Test.YtcahcjfgmdpdoaaGreatQBase
import Derived.Test.YtcahcjfgmdpdoaaGreatQP0
namespace Go.Proofs.YtcahcjfgmdpdoaaGreat
open Go.ChangeShapes Go.WideShapes Go.RowKit Go.Deep Go.Joins

section
variable {H : Type} {enc : TypeId × Value → H} {P : Program} {w : World} {base b0 : Nat} {spare : Nat → Bool} {held : Bool}
end
end Go.Proofs.YtcahcjfgmdpdoaaGreat

namespace Go.Proofs.YtcahcjfgmdpdoaaGreat
open Go.ChangeShapes Go.WideShapes Go.ChangeAt Go.RowKit Go.Joins Go.Deep
set_option linter.unusedVariables false
set_option maxRecDepth 100000

section
variable {H : Type} {enc : TypeId × Value → H} {P : Program} {w : World} {base b0 : Nat} {spare : Nat → Bool} {held : Bool}
def AllInt {H : Type} (enc : TypeId × Value → H) (P : Program) (w : World) (base : Nat) (spare : Nat → Bool) (held : Bool) (t : TypeId) (m : Nat) : Prop :=
 ∀ (fuel : Nat) (cs : List Value) (x : DataW H × List MemPlace), DataW.trod enc P w base spare held fuel t cs = some x → ∀ j, j < m → ∃ z : Int, (-9223372036854775808 ≤ z ∧ z ≤ 9223372036854775807) ∧ cs[j]? = some (.int .i64 z)
theorem AllInt.int {t : TypeId} (h : P.underlying t = some (.int .i64)) : AllInt enc P w base spare held t 1 := by
 intro fuel cs x hx j hj
 obtain ⟨q, e1, _, wq⟩ := DataW.trod_int h hx
 have : j = 0 := by omega
 subst this
 exact ⟨q, bounds_i64 wq, by rw [e1]; rfl⟩
theorem AllInt.struct {t : TypeId} {fs : Array Field} {m : Nat} (h : P.underlying t = some (.struct fs)) (hc : ∀ j, j < m → ∃ (i k : Nat) (f : Field), fs[i]? = some f ∧ f.offset ≤ j ∧ j < f.offset + k ∧ P.cellsOf f.type = k ∧ AllInt enc P w base spare held f.type k) :
  AllInt enc P w base spare held t m := by
 intro fuel cs x hx j hj
 obtain ⟨ys, n', hn', hy, hlen, hyl, hff⟩ := DataW.trod_struct h hx; obtain ⟨i, k, f, hf, h1, h2, h3, hA⟩ := hc j hj; have hi : i < fs.size := (Array.getElem?_eq_some_iff.1 hf).1; have h4 := hff i f hf; rw [List.getElem?_eq_getElem (by omega : i < ys.length)] at h4; obtain ⟨z, hz, hz2⟩ := hA _ _ _ h4 (j - f.offset) (by omega)
 refine ⟨z, hz, ?_⟩
 rw [h3, List.getElem?_take, if_pos (by omega), List.getElem?_drop, show f.offset + (j - f.offset) = j by omega] at hz2
 exact hz2
theorem open_rowsG {r : Reach} {t e : TypeId} (m : Nat) {v : Value} {d : DataW H} {ps : List MemPlace} (ht : P.underlying t = some (.slice e)) (hC : P.cellsOf e = m) (hpos : 0 < m) (hA : AllInt enc P w base spare held e m)
  (hv : Value.okWide P w r b0 t v) (h : DataW.Trod enc P w base spare held t v d ps) :
  ∃ (A : Option Addr) (n c : Nat) (g : Nat → Nat → Int), v = .slice A n c ∧ n ≤ c ∧ c ≤ maxLen ∧ (∀ i j, i < n → j < m → -9223372036854775808 ≤ g i j ∧ g i j ≤ 9223372036854775807) ∧
   (0 < n → ∃ b o, A = some ⟨b, o, none⟩ ∧ b < w.heap.size ∧ ∀ i j, i < n → j < m → w.cell? ⟨b, o + (i * m + j), none⟩ = some (.int .i64 (g i j))) := by
 obtain ⟨A, n, c, rfl⟩ := okWide_slice ht hv; obtain ⟨fuel, hf⟩ := h
 rcases open_slice ht hf with ⟨h0, _⟩ | ⟨a, len, cap, m', k, D, Pl, hcs, hb, hl, hm, hmm, hx, hi⟩
 ·have e0 : A = none ∧ n = 0 ∧ c = 0 := by simpa [Value.cells] using h0
  obtain ⟨rfl, rfl, rfl⟩ := e0
  exact ⟨none, 0, 0, fun _ _ => 0, rfl, Nat.le_refl _, by unfold maxLen; omega, fun i j hi => absurd hi (by omega), fun hn => absurd hn (by omega)⟩
 ·have e0 : A = some a ∧ n = len ∧ c = cap := by simpa [Value.cells] using hcs
  obtain ⟨rfl, rfl, rfl⟩ := e0
  have hnm : n ≤ m' := by rw [hmm]; split <;> omega
  have hall : ∀ i, i < n → ∃ f : Nat → Int, ∀ j, j < m → (-9223372036854775808 ≤ f j ∧ f j ≤ 9223372036854775807) ∧ w.cell? (a.add (i * m + j)) = some (.int .i64 (f j)) := by
   intro i hin
   obtain ⟨cs', hc, ht'⟩ := hi i (by omega); rw [hC] at hc; obtain ⟨_, hcl, hat⟩ := World.cells?_some hc
   refine choose_lt (p := fun j q => (-9223372036854775808 ≤ q ∧ q ≤ 9223372036854775807) ∧ w.cell? (a.add (i * m + j)) = some (.int .i64 q)) fun j hj => ?_
   obtain ⟨z, hz, hz2⟩ := hA _ _ _ ht' j hj
   refine ⟨z, hz, ?_⟩
   rw [← Go.Deep.add_add, hat j hj, hz2]
  obtain ⟨g, hg⟩ := choose_lt hall
  refine ⟨some a, n, c, g, rfl, hl, hm, fun i j hi hj => (hg i hi j hj).1, fun hn => ?_⟩
  obtain ⟨b, o, spot⟩ := a; have h00 := (hg 0 hn 0 hpos).2
  have hspot : spot = none := by simpa [Addr.add] using World.cell?_spot h00
  subst hspot
  refine ⟨b, o, rfl, ?_, fun i j hi hj => ?_⟩
  ·have := World.block_lt_of_cell? w _ h00
   simpa [Addr.add] using this
  ·rw [← Go.WideShapes.add_plain]
   exact (hg i hi j hj).2
end
end Go.Proofs.YtcahcjfgmdpdoaaGreat

namespace Go.Proofs.YtcahcjfgmdpdoaaGreat
open Go.ChangeShapes Go.WideShapes Go.ChangeAt Go.RowKit Go.Joins
set_option linter.unusedVariables false
set_option maxRecDepth 100000

end Go.Proofs.YtcahcjfgmdpdoaaGreat
