/-
  DERIVED: THE SHELF's CONTRACTS AT THIS DUMP, IN PLAIN WORDS (tools/lay-plain.mjs out of 'YtcgecalbgkkinaaGreatLayc.lean', which tools/lay-shelf.mjs wrote): THE SAME DECLARATIONS UNDER THE SAME NAMES: 'import', 'namespace', 'open', 'def', 'theorem' AND NOTHING ELSE: no command of the shelf's: FOR A HAND-IN. Each laying: the table of numbers ('.._ren') and one theorem, a field a fact of the dump's own or the kernel's comparison; each contract: ONE APPLICATION.
-/
import Derived.Shelf.SlMaps.Clone
import Derived.Shelf.SlGeneric
import Derived.Ground.SlmcProg
import Derived.Test.YtcgecalbgkkinaaGreatProg
namespace Go.Proofs
open Go.Shelf
def YtcgecalbgkkinaaGreat.cloneInt_ren : Go.Shelf.Ren := ⟨fun | 5 => 62 | 7 => 90 | n => n, fun | 23 => 60 | 25 => 3 | 3 => 3 | 4 => 4 | 20 => 20 | n => n, fun | n => n⟩
theorem YtcgecalbgkkinaaGreat.cloneInt : Go.Proofs.SlLaysW.n5 Tryz.prog YtcgecalbgkkinaaGreat.cloneInt_ren := {
  mixed := by kernel_rfl
  f5 := ⟨Tryz.f62.name, by decide, Tryz.func62.trans (congrArg some (by kernel_rfl))⟩
  f7 := Tryz.func90.trans (congrArg some (by kernel_rfl))
  t4 := Tryz.underlying4
  a4 := Tryz.isAgg4
  z4 := Tryz.sizeOf4
  v4 := Tryz.zeroValue4
  t20 := Tryz.underlying20
  a20 := Tryz.isAgg20
  z20 := Tryz.sizeOf20
  v20 := Tryz.zeroValue20
  t23 := Tryz.underlying60
  a23 := Tryz.isAgg60
  z23 := Tryz.sizeOf60
  v23 := Tryz.zeroValue60 }
def YtcgecalbgkkinaaGreat.cloneVolume_ren : Go.Shelf.Ren := ⟨fun | 5 => 63 | 7 => 90 | n => n, fun | 23 => 61 | 25 => 3 | 3 => 43 | 4 => 4 | 20 => 20 | n => n, fun | n => n⟩
theorem YtcgecalbgkkinaaGreat.cloneVolume : Go.Proofs.SlLaysW.n5 Tryz.prog YtcgecalbgkkinaaGreat.cloneVolume_ren := {
  mixed := by kernel_rfl
  f5 := ⟨Tryz.f63.name, by decide, Tryz.func63.trans (congrArg some (by kernel_rfl))⟩
  f7 := Tryz.func90.trans (congrArg some (by kernel_rfl))
  t4 := Tryz.underlying4
  a4 := Tryz.isAgg4
  z4 := Tryz.sizeOf4
  v4 := Tryz.zeroValue4
  t20 := Tryz.underlying20
  a20 := Tryz.isAgg20
  z20 := Tryz.sizeOf20
  v20 := Tryz.zeroValue20
  t23 := Tryz.underlying61
  a23 := Tryz.isAgg61
  z23 := Tryz.sizeOf61
  v23 := Tryz.zeroValue61 }
def YtcgecalbgkkinaaGreat.cloneChunk_ren : Go.Shelf.Ren := ⟨fun | 5 => 64 | 7 => 90 | n => n, fun | 23 => 62 | 25 => 3 | 3 => 47 | 4 => 4 | 20 => 20 | n => n, fun | n => n⟩
theorem YtcgecalbgkkinaaGreat.cloneChunk : Go.Proofs.SlLaysW.n5 Tryz.prog YtcgecalbgkkinaaGreat.cloneChunk_ren := {
  mixed := by kernel_rfl
  f5 := ⟨Tryz.f64.name, by decide, Tryz.func64.trans (congrArg some (by kernel_rfl))⟩
  f7 := Tryz.func90.trans (congrArg some (by kernel_rfl))
  t4 := Tryz.underlying4
  a4 := Tryz.isAgg4
  z4 := Tryz.sizeOf4
  v4 := Tryz.zeroValue4
  t20 := Tryz.underlying20
  a20 := Tryz.isAgg20
  z20 := Tryz.sizeOf20
  v20 := Tryz.zeroValue20
  t23 := Tryz.underlying62
  a23 := Tryz.isAgg62
  z23 := Tryz.sizeOf62
  v23 := Tryz.zeroValue62 }
end Go.Proofs
