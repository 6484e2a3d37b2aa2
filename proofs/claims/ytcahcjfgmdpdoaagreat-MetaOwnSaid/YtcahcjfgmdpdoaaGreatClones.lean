/-
  DERIVED: THE SHELF's CONTRACTS AT THIS DUMP, IN PLAIN WORDS (tools/lay-plain.mjs out of 'YtcahcjfgmdpdoaaGreatLayc.lean', which tools/lay-shelf.mjs wrote): THE SAME DECLARATIONS UNDER THE SAME NAMES: 'import', 'namespace', 'open', 'def', 'theorem' AND NOTHING ELSE: no command of the shelf's: FOR A HAND-IN. Each laying: the table of numbers ('.._ren') and one theorem, a field a fact of the dump's own or the kernel's comparison; each contract: ONE APPLICATION.
-/
import Derived.Shelf.SlMaps.Clone
import Derived.Shelf.SlGeneric
import Derived.Ground.SlmcProg
import Derived.Test.YtcahcjfgmdpdoaaGreatProg
namespace Go.Proofs
open Go.Shelf
def YtcahcjfgmdpdoaaGreat.cloneInt_ren : Go.Shelf.Ren := ⟨fun | 5 => 65 | 7 => 112 | n => n, fun | 23 => 72 | 25 => 3 | 3 => 3 | 4 => 4 | 20 => 20 | n => n, fun | n => n⟩
theorem YtcahcjfgmdpdoaaGreat.cloneInt : Go.Proofs.SlLaysW.n5 Tryz.prog YtcahcjfgmdpdoaaGreat.cloneInt_ren := {
  mixed := by kernel_rfl
  f5 := ⟨Tryz.f65.name, by decide, Tryz.func65.trans (congrArg some (by kernel_rfl))⟩
  f7 := Tryz.func112.trans (congrArg some (by kernel_rfl))
  t4 := Tryz.underlying4
  a4 := Tryz.isAgg4
  z4 := Tryz.sizeOf4
  v4 := Tryz.zeroValue4
  t20 := Tryz.underlying20
  a20 := Tryz.isAgg20
  z20 := Tryz.sizeOf20
  v20 := Tryz.zeroValue20
  t23 := Tryz.underlying72
  a23 := Tryz.isAgg72
  z23 := Tryz.sizeOf72
  v23 := Tryz.zeroValue72 }
def YtcahcjfgmdpdoaaGreat.cloneVolume_ren : Go.Shelf.Ren := ⟨fun | 5 => 66 | 7 => 112 | n => n, fun | 23 => 73 | 25 => 3 | 3 => 46 | 4 => 4 | 20 => 20 | n => n, fun | n => n⟩
theorem YtcahcjfgmdpdoaaGreat.cloneVolume : Go.Proofs.SlLaysW.n5 Tryz.prog YtcahcjfgmdpdoaaGreat.cloneVolume_ren := {
  mixed := by kernel_rfl
  f5 := ⟨Tryz.f66.name, by decide, Tryz.func66.trans (congrArg some (by kernel_rfl))⟩
  f7 := Tryz.func112.trans (congrArg some (by kernel_rfl))
  t4 := Tryz.underlying4
  a4 := Tryz.isAgg4
  z4 := Tryz.sizeOf4
  v4 := Tryz.zeroValue4
  t20 := Tryz.underlying20
  a20 := Tryz.isAgg20
  z20 := Tryz.sizeOf20
  v20 := Tryz.zeroValue20
  t23 := Tryz.underlying73
  a23 := Tryz.isAgg73
  z23 := Tryz.sizeOf73
  v23 := Tryz.zeroValue73 }
def YtcahcjfgmdpdoaaGreat.cloneChunk_ren : Go.Shelf.Ren := ⟨fun | 5 => 67 | 7 => 112 | n => n, fun | 23 => 74 | 25 => 3 | 3 => 90 | 4 => 4 | 20 => 20 | n => n, fun | n => n⟩
theorem YtcahcjfgmdpdoaaGreat.cloneChunk : Go.Proofs.SlLaysW.n5 Tryz.prog YtcahcjfgmdpdoaaGreat.cloneChunk_ren := {
  mixed := by kernel_rfl
  f5 := ⟨Tryz.f67.name, by decide, Tryz.func67.trans (congrArg some (by kernel_rfl))⟩
  f7 := Tryz.func112.trans (congrArg some (by kernel_rfl))
  t4 := Tryz.underlying4
  a4 := Tryz.isAgg4
  z4 := Tryz.sizeOf4
  v4 := Tryz.zeroValue4
  t20 := Tryz.underlying20
  a20 := Tryz.isAgg20
  z20 := Tryz.sizeOf20
  v20 := Tryz.zeroValue20
  t23 := Tryz.underlying74
  a23 := Tryz.isAgg74
  z23 := Tryz.sizeOf74
  v23 := Tryz.zeroValue74 }
def YtcahcjfgmdpdoaaGreat.cloneByte_ren : Go.Shelf.Ren := ⟨fun | 5 => 173 | 7 => 112 | n => n, fun | 23 => 92 | 25 => 3 | 3 => 42 | 4 => 4 | 20 => 20 | n => n, fun | n => n⟩
theorem YtcahcjfgmdpdoaaGreat.cloneByte : Go.Proofs.SlLaysW.n5 Tryz.prog YtcahcjfgmdpdoaaGreat.cloneByte_ren := {
  mixed := by kernel_rfl
  f5 := ⟨Tryz.f173.name, by decide, Tryz.func173.trans (congrArg some (by kernel_rfl))⟩
  f7 := Tryz.func112.trans (congrArg some (by kernel_rfl))
  t4 := Tryz.underlying4
  a4 := Tryz.isAgg4
  z4 := Tryz.sizeOf4
  v4 := Tryz.zeroValue4
  t20 := Tryz.underlying20
  a20 := Tryz.isAgg20
  z20 := Tryz.sizeOf20
  v20 := Tryz.zeroValue20
  t23 := Tryz.underlying92
  a23 := Tryz.isAgg92
  z23 := Tryz.sizeOf92
  v23 := Tryz.zeroValue92 }
end Go.Proofs
