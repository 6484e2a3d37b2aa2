/-
  DERIVED: THE SHELF's CONTRACTS AT THIS DUMP, IN PLAIN WORDS (tools/lay-plain.mjs out of 'YtcahcjfgmdpdoaaGreatLay.lean', which tools/lay-shelf.mjs wrote): THE SAME DECLARATIONS UNDER THE SAME NAMES: 'import', 'namespace', 'open', 'def', 'theorem' AND NOTHING ELSE: no command of the shelf's: FOR A HAND-IN. Each laying: the table of numbers ('.._ren') and one theorem, a field a fact of the dump's own or the kernel's comparison; each contract: ONE APPLICATION.
-/
import Derived.Shelf.SlSortCmp.NoneTotal
import Derived.Shelf.SlicesG.Cmp
import Derived.Shelf.SlGeneric
import Derived.Ground.SlsfProg
import Derived.Ground.SlgcProg
import Derived.Test.YtcahcjfgmdpdoaaGreatProg
namespace Go.Proofs
open Go.Shelf
def YtcahcjfgmdpdoaaGreat.sortLoad_ren : Go.Shelf.Ren := ⟨fun | 6 => 155 | 15 => 150 | 14 => 178 | 28 => 169 | 29 => 170 | 20 => 191 | 21 => 192 | 22 => 193 | 23 => 194 | 24 => 195 | 25 => 196 | 26 => 197 | 27 => 198 | 46 => 203 | 47 => 181 | 48 => 182 | 49 => 204 | 50 => 205 | 57 => 207 | n => n, fun | 22 => 80 | 24 => 83 | 25 => 234 | 3 => 3 | 39 => 129 | 0 => 0 | 53 => 244 | 55 => 246 | 4 => 4 | 46 => 237 | 45 => 236 | 50 => 180 | 5 => 5 | 9 => 9 | 66 => 253 | 70 => 257 | 76 => 271 | 77 => 172 | n => n, fun | n => n⟩
theorem YtcahcjfgmdpdoaaGreat.sortLoad : Go.Proofs.SlLaysF0.n6 Tryz.prog YtcahcjfgmdpdoaaGreat.sortLoad_ren := {
  mixed := by kernel_rfl
  f6 := ⟨Tryz.f155.name, by decide, Tryz.func155.trans (congrArg some (by kernel_rfl))⟩
  f14 := ⟨Tryz.f178.name, by decide, Tryz.func178.trans (congrArg some (by kernel_rfl))⟩
  f15 := Tryz.func150.trans (congrArg some (by kernel_rfl))
  f20 := ⟨Tryz.f191.name, by decide, Tryz.func191.trans (congrArg some (by kernel_rfl))⟩
  f21 := ⟨Tryz.f192.name, by decide, Tryz.func192.trans (congrArg some (by kernel_rfl))⟩
  f22 := ⟨Tryz.f193.name, by decide, Tryz.func193.trans (congrArg some (by kernel_rfl))⟩
  f23 := ⟨Tryz.f194.name, by decide, Tryz.func194.trans (congrArg some (by kernel_rfl))⟩
  f24 := ⟨Tryz.f195.name, by decide, Tryz.func195.trans (congrArg some (by kernel_rfl))⟩
  f25 := ⟨Tryz.f196.name, by decide, Tryz.func196.trans (congrArg some (by kernel_rfl))⟩
  f26 := ⟨Tryz.f197.name, by decide, Tryz.func197.trans (congrArg some (by kernel_rfl))⟩
  f27 := ⟨Tryz.f198.name, by decide, Tryz.func198.trans (congrArg some (by kernel_rfl))⟩
  f28 := Tryz.func169.trans (congrArg some (by kernel_rfl))
  f29 := Tryz.func170.trans (congrArg some (by kernel_rfl))
  f46 := ⟨Tryz.f203.name, by decide, Tryz.func203.trans (congrArg some (by kernel_rfl))⟩
  f47 := Tryz.func181.trans (congrArg some (by kernel_rfl))
  f48 := Tryz.func182.trans (congrArg some (by kernel_rfl))
  f49 := ⟨Tryz.f204.name, by decide, Tryz.func204.trans (congrArg some (by kernel_rfl))⟩
  f50 := ⟨Tryz.f205.name, by decide, Tryz.func205.trans (congrArg some (by kernel_rfl))⟩
  f57 := ⟨Tryz.f207.name, by decide, Tryz.func207.trans (congrArg some (by kernel_rfl))⟩
  t0 := Tryz.underlying0
  a0 := Tryz.isAgg0
  z0 := Tryz.sizeOf0
  v0 := Tryz.zeroValue0
  t3 := Tryz.underlying3
  a3 := Tryz.isAgg3
  z3 := Tryz.sizeOf3
  v3 := Tryz.zeroValue3
  t4 := Tryz.underlying4
  a4 := Tryz.isAgg4
  z4 := Tryz.sizeOf4
  v4 := Tryz.zeroValue4
  t5 := Tryz.underlying5
  a5 := Tryz.isAgg5
  z5 := Tryz.sizeOf5
  v5 := Tryz.zeroValue5
  t9 := Tryz.underlying9
  a9 := Tryz.isAgg9
  z9 := Tryz.sizeOf9
  v9 := Tryz.zeroValue9
  t22 := Tryz.underlying80
  a22 := Tryz.isAgg80
  z22 := Tryz.sizeOf80
  v22 := Tryz.zeroValue80
  t25 := Tryz.underlying234
  a25 := Tryz.isAgg234
  z25 := Tryz.sizeOf234
  v25 := Tryz.zeroValue234
  t39 := Tryz.underlying129
  a39 := Tryz.isAgg129
  z39 := Tryz.sizeOf129
  v39 := Tryz.zeroValue129
  t45 := Tryz.underlying236
  a45 := Tryz.isAgg236
  z45 := Tryz.sizeOf236
  v45 := Tryz.zeroValue236
  t46 := Tryz.underlying237
  a46 := Tryz.isAgg237
  z46 := Tryz.sizeOf237
  v46 := Tryz.zeroValue237
  t50 := Tryz.underlying180
  a50 := Tryz.isAgg180
  z50 := Tryz.sizeOf180
  v50 := Tryz.zeroValue180
  t53 := Tryz.underlying244
  a53 := Tryz.isAgg244
  z53 := Tryz.sizeOf244
  v53 := Tryz.zeroValue244
  t55 := Tryz.underlying246
  a55 := Tryz.isAgg246
  z55 := Tryz.sizeOf246
  v55 := Tryz.zeroValue246
  t66 := Tryz.underlying253
  a66 := Tryz.isAgg253
  z66 := Tryz.sizeOf253
  v66 := Tryz.zeroValue253
  t70 := Tryz.underlying257
  a70 := Tryz.isAgg257
  z70 := Tryz.sizeOf257
  v70 := Tryz.zeroValue257
  t76 := Tryz.underlying271
  a76 := Tryz.isAgg271
  z76 := Tryz.sizeOf271
  v76 := Tryz.zeroValue271
  t77 := Tryz.underlying172
  a77 := Tryz.isAgg172
  z77 := Tryz.sizeOf172
  v77 := Tryz.zeroValue172 }
def YtcahcjfgmdpdoaaGreat.cmpInt_ren : Go.Shelf.Ren := ⟨fun | 5 => 158 | 7 => 179 | n => n, fun | 22 => 3 | 3 => 3 | 4 => 4 | n => n, fun | n => n⟩
theorem YtcahcjfgmdpdoaaGreat.cmpInt : Go.Proofs.SlLaysC2.n5 Tryz.prog YtcahcjfgmdpdoaaGreat.cmpInt_ren := {
  mixed := by kernel_rfl
  f5 := ⟨Tryz.f158.name, by decide, Tryz.func158.trans (congrArg some (by kernel_rfl))⟩
  f7 := ⟨Tryz.f179.name, by decide, Tryz.func179.trans (congrArg some (by kernel_rfl))⟩
  t3 := Tryz.underlying3
  a3 := Tryz.isAgg3
  z3 := Tryz.sizeOf3
  v3 := Tryz.zeroValue3
  t4 := Tryz.underlying4
  a4 := Tryz.isAgg4
  z4 := Tryz.sizeOf4
  v4 := Tryz.zeroValue4
  t22 := Tryz.underlying3
  a22 := Tryz.isAgg3
  z22 := Tryz.sizeOf3
  v22 := Tryz.zeroValue3 }
end Go.Proofs
