/-
  DERIVED: THE SHELF's CONTRACTS AT THIS DUMP, IN PLAIN WORDS (tools/lay-plain.mjs out of 'YtanfdnpnkdiiiaaGreatLayc.lean', which tools/lay-shelf.mjs wrote): THE SAME DECLARATIONS UNDER THE SAME NAMES: 'import', 'namespace', 'open', 'def', 'theorem' AND NOTHING ELSE: no command of the shelf's: FOR A HAND-IN. Each laying: the table of numbers ('.._ren') and one theorem, a field a fact of the dump's own or the kernel's comparison; each contract: ONE APPLICATION.
-/
import Derived.Shelf.SlMaps.Clone
import Derived.Shelf.SlGeneric
import Derived.Ground.SlmcProg
import Derived.Test.YtanfdnpnkdiiiaaGreatProg
namespace Go.Proofs
open Go.Shelf
def YtanfdnpnkdiiiaaGreat.cloneInt_ren : Go.Shelf.Ren := ⟨fun | 5 => 65 | 7 => 86 | n => n, fun | 23 => 94 | 25 => 3 | 3 => 3 | 4 => 4 | 20 => 20 | n => n, fun | n => n⟩
theorem YtanfdnpnkdiiiaaGreat.cloneInt : Go.Proofs.SlLaysW.n5 Tryz.prog YtanfdnpnkdiiiaaGreat.cloneInt_ren := {
  mixed := by kernel_rfl
  f5 := ⟨Tryz.f65.name, by decide, Tryz.func65.trans (congrArg some (by kernel_rfl))⟩
  f7 := Tryz.func86.trans (congrArg some (by kernel_rfl))
  t4 := Tryz.underlying4
  a4 := Tryz.isAgg4
  z4 := Tryz.sizeOf4
  v4 := Tryz.zeroValue4
  t20 := Tryz.underlying20
  a20 := Tryz.isAgg20
  z20 := Tryz.sizeOf20
  v20 := Tryz.zeroValue20
  t23 := Tryz.underlying94
  a23 := Tryz.isAgg94
  z23 := Tryz.sizeOf94
  v23 := Tryz.zeroValue94 }
def YtanfdnpnkdiiiaaGreat.cloneVolume_ren : Go.Shelf.Ren := ⟨fun | 5 => 66 | 7 => 86 | n => n, fun | 23 => 95 | 25 => 3 | 3 => 73 | 4 => 4 | 20 => 20 | n => n, fun | n => n⟩
theorem YtanfdnpnkdiiiaaGreat.cloneVolume : Go.Proofs.SlLaysW.n5 Tryz.prog YtanfdnpnkdiiiaaGreat.cloneVolume_ren := {
  mixed := by kernel_rfl
  f5 := ⟨Tryz.f66.name, by decide, Tryz.func66.trans (congrArg some (by kernel_rfl))⟩
  f7 := Tryz.func86.trans (congrArg some (by kernel_rfl))
  t4 := Tryz.underlying4
  a4 := Tryz.isAgg4
  z4 := Tryz.sizeOf4
  v4 := Tryz.zeroValue4
  t20 := Tryz.underlying20
  a20 := Tryz.isAgg20
  z20 := Tryz.sizeOf20
  v20 := Tryz.zeroValue20
  t23 := Tryz.underlying95
  a23 := Tryz.isAgg95
  z23 := Tryz.sizeOf95
  v23 := Tryz.zeroValue95 }
def YtanfdnpnkdiiiaaGreat.cloneChunk_ren : Go.Shelf.Ren := ⟨fun | 5 => 67 | 7 => 86 | n => n, fun | 23 => 96 | 25 => 3 | 3 => 89 | 4 => 4 | 20 => 20 | n => n, fun | n => n⟩
theorem YtanfdnpnkdiiiaaGreat.cloneChunk : Go.Proofs.SlLaysW.n5 Tryz.prog YtanfdnpnkdiiiaaGreat.cloneChunk_ren := {
  mixed := by kernel_rfl
  f5 := ⟨Tryz.f67.name, by decide, Tryz.func67.trans (congrArg some (by kernel_rfl))⟩
  f7 := Tryz.func86.trans (congrArg some (by kernel_rfl))
  t4 := Tryz.underlying4
  a4 := Tryz.isAgg4
  z4 := Tryz.sizeOf4
  v4 := Tryz.zeroValue4
  t20 := Tryz.underlying20
  a20 := Tryz.isAgg20
  z20 := Tryz.sizeOf20
  v20 := Tryz.zeroValue20
  t23 := Tryz.underlying96
  a23 := Tryz.isAgg96
  z23 := Tryz.sizeOf96
  v23 := Tryz.zeroValue96 }
end Go.Proofs
