/- One text of: App. -/
import Derived.Deep.AppendSrc
import Derived.Deep.Upon
import Derived.Test.YtcgecalbgkkinaaGreatQQue
namespace Go.Proofs.YtcgecalbgkkinaaGreat
open Go.RowKit Go.Proofs
set_option linter.unusedVariables false

section
variable {P : Program} (w : World)
end
/-- a fresh slice of no elements -/
theorem Que.fresh (w : World) (e : TypeId) (size : Nat) : Que (w.alloc (.cells #[] e)) e size (.slice (some ⟨w.heap.size, 0, none⟩) 0 0) 0 [] :=
  ⟨by simp, .inr ⟨_, 0, 0, #[], rfl, heap_alloc_new w _, Nat.le_refl _, Nat.zero_le _, by simp, by simp⟩⟩
end Go.Proofs.YtcgecalbgkkinaaGreat
