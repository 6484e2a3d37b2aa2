/-
  DERIVED: THE SHELF's CONTRACTS AT THIS DUMP, IN PLAIN WORDS (tools/lay-plain.mjs out of 'YtcgecalbgkkinaaLayc.lean', which tools/lay-shelf.mjs wrote): THE SAME DECLARATIONS UNDER THE SAME NAMES: 'import', 'namespace', 'open', 'def', 'theorem' AND NOTHING ELSE: no command of the shelf's: FOR A HAND-IN. Each laying: the table of numbers ('.._ren') and one theorem, a field a fact of the dump's own or the kernel's comparison; each contract: ONE APPLICATION.
-/
import Derived.Shelf.SlMaps.Clone
import Derived.Shelf.SlGeneric
import Derived.Ground.SlmcProg
import Derived.Test.YtcgecalbgkkinaaProg
namespace Go.Proofs
open Go.Shelf
def Ytcgecalbgkkinaa.cloneInt_ren : Go.Shelf.Ren := ⟨fun | 5 => 42 | 7 => 59 | n => n, fun | 23 => 57 | 25 => 3 | 3 => 3 | 4 => 4 | 20 => 20 | n => n, fun | n => n⟩
theorem Ytcgecalbgkkinaa.cloneInt : Go.Proofs.SlLaysW.n5 Try.prog Ytcgecalbgkkinaa.cloneInt_ren := {
  mixed := by kernel_rfl
  f5 := ⟨Try.f42.name, by decide, Try.func42.trans (congrArg some (by kernel_rfl))⟩
  f7 := Try.func59.trans (congrArg some (by kernel_rfl))
  t4 := Try.underlying4
  a4 := Try.isAgg4
  z4 := Try.sizeOf4
  v4 := Try.zeroValue4
  t20 := Try.underlying20
  a20 := Try.isAgg20
  z20 := Try.sizeOf20
  v20 := Try.zeroValue20
  t23 := Try.underlying57
  a23 := Try.isAgg57
  z23 := Try.sizeOf57
  v23 := Try.zeroValue57 }
def Ytcgecalbgkkinaa.cloneVolume_ren : Go.Shelf.Ren := ⟨fun | 5 => 43 | 7 => 59 | n => n, fun | 23 => 58 | 25 => 3 | 3 => 34 | 4 => 4 | 20 => 20 | n => n, fun | n => n⟩
theorem Ytcgecalbgkkinaa.cloneVolume : Go.Proofs.SlLaysW.n5 Try.prog Ytcgecalbgkkinaa.cloneVolume_ren := {
  mixed := by kernel_rfl
  f5 := ⟨Try.f43.name, by decide, Try.func43.trans (congrArg some (by kernel_rfl))⟩
  f7 := Try.func59.trans (congrArg some (by kernel_rfl))
  t4 := Try.underlying4
  a4 := Try.isAgg4
  z4 := Try.sizeOf4
  v4 := Try.zeroValue4
  t20 := Try.underlying20
  a20 := Try.isAgg20
  z20 := Try.sizeOf20
  v20 := Try.zeroValue20
  t23 := Try.underlying58
  a23 := Try.isAgg58
  z23 := Try.sizeOf58
  v23 := Try.zeroValue58 }
def Ytcgecalbgkkinaa.cloneChunk_ren : Go.Shelf.Ren := ⟨fun | 5 => 44 | 7 => 59 | n => n, fun | 23 => 59 | 25 => 3 | 3 => 42 | 4 => 4 | 20 => 20 | n => n, fun | n => n⟩
theorem Ytcgecalbgkkinaa.cloneChunk : Go.Proofs.SlLaysW.n5 Try.prog Ytcgecalbgkkinaa.cloneChunk_ren := {
  mixed := by kernel_rfl
  f5 := ⟨Try.f44.name, by decide, Try.func44.trans (congrArg some (by kernel_rfl))⟩
  f7 := Try.func59.trans (congrArg some (by kernel_rfl))
  t4 := Try.underlying4
  a4 := Try.isAgg4
  z4 := Try.sizeOf4
  v4 := Try.zeroValue4
  t20 := Try.underlying20
  a20 := Try.isAgg20
  z20 := Try.sizeOf20
  v20 := Try.zeroValue20
  t23 := Try.underlying59
  a23 := Try.isAgg59
  z23 := Try.sizeOf59
  v23 := Try.zeroValue59 }
end Go.Proofs
