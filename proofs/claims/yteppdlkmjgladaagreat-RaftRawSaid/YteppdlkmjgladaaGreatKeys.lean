/-
  DERIVED: THE SHELF's CONTRACTS AT THIS DUMP, IN PLAIN WORDS (tools/lay-plain.mjs out of 'YteppdlkmjgladaaGreatLayk.lean', which tools/lay-shelf.mjs wrote): THE SAME DECLARATIONS UNDER THE SAME NAMES: 'import', 'namespace', 'open', 'def', 'theorem' AND NOTHING ELSE: no command of the shelf's: FOR A HAND-IN. Each laying: the table of numbers ('.._ren') and one theorem, a field a fact of the dump's own or the kernel's comparison; each contract: ONE APPLICATION.
-/
import Derived.Shelf.SlIterI.Nil
import Derived.Shelf.SortM.Plain
import Derived.Shelf.SortM.SortNone
import Derived.Shelf.SlGeneric
import Derived.Ground.GgzProg
import Derived.Ground.SlgmProg
import Derived.Test.YteppdlkmjgladaaGreatProg
namespace Go.Proofs
open Go.Shelf
def YteppdlkmjgladaaGreat.keysByte_ren : Go.Shelf.Ren := ⟨fun | 7 => 175 | 10 => 179 | n => n, fun | 23 => 80 | 26 => 3 | 3 => 39 | 28 => 246 | 0 => 0 | 27 => 245 | 33 => 125 | 4 => 4 | n => n, fun | n => n⟩
theorem YteppdlkmjgladaaGreat.keysByte : Go.Proofs.SlLaysZI.n7 Tryz.prog YteppdlkmjgladaaGreat.keysByte_ren := {
  mixed := by kernel_rfl
  f7 := ⟨Tryz.f175.name, by decide, Tryz.func175.trans (congrArg some (by kernel_rfl))⟩
  f10 := ⟨Tryz.f179.name, by decide, Tryz.func179.trans (congrArg some (by kernel_rfl))⟩
  t0 := Tryz.underlying0
  a0 := Tryz.isAgg0
  z0 := Tryz.sizeOf0
  v0 := Tryz.zeroValue0
  t4 := Tryz.underlying4
  a4 := Tryz.isAgg4
  z4 := Tryz.sizeOf4
  v4 := Tryz.zeroValue4
  t23 := Tryz.underlying80
  a23 := Tryz.isAgg80
  z23 := Tryz.sizeOf80
  v23 := Tryz.zeroValue80
  t26 := Tryz.underlying3
  a26 := Tryz.isAgg3
  z26 := Tryz.sizeOf3
  v26 := Tryz.zeroValue3
  t27 := Tryz.underlying245
  a27 := Tryz.isAgg245
  z27 := Tryz.sizeOf245
  v27 := Tryz.zeroValue245
  t28 := Tryz.underlying246
  a28 := Tryz.isAgg246
  z28 := Tryz.sizeOf246
  v28 := Tryz.zeroValue246
  t33 := Tryz.underlying125
  a33 := Tryz.isAgg125
  z33 := Tryz.sizeOf125
  v33 := Tryz.zeroValue125 }
def YteppdlkmjgladaaGreat.sortedI_ren : Go.Shelf.Ren := ⟨fun | 6 => 174 | 8 => 178 | 9 => 94 | 11 => 180 | 13 => 125 | 12 => 124 | 23 => 156 | 24 => 157 | 14 => 147 | 15 => 148 | 16 => 149 | 17 => 150 | 18 => 151 | 19 => 152 | 20 => 153 | 21 => 154 | 22 => 155 | 25 => 168 | 26 => 169 | 27 => 170 | 28 => 171 | 29 => 172 | 30 => 173 | 31 => 177 | n => n, fun | 26 => 3 | 28 => 246 | 24 => 22 | 0 => 0 | 3 => 3 | 37 => 196 | 48 => 208 | 50 => 224 | 4 => 4 | 40 => 216 | 39 => 215 | 45 => 117 | 5 => 5 | 9 => 9 | 51 => 236 | 55 => 240 | 57 => 248 | 58 => 111 | 33 => 125 | n => n, fun | n => n⟩
theorem YteppdlkmjgladaaGreat.sortedI : Go.Proofs.SlLaysZI.n6 Tryz.prog YteppdlkmjgladaaGreat.sortedI_ren := {
  mixed := by kernel_rfl
  f6 := ⟨Tryz.f174.name, by decide, Tryz.func174.trans (congrArg some (by kernel_rfl))⟩
  f8 := ⟨Tryz.f178.name, by decide, Tryz.func178.trans (congrArg some (by kernel_rfl))⟩
  f11 := ⟨Tryz.f180.name, by decide, Tryz.func180.trans (congrArg some (by kernel_rfl))⟩
  t0 := Tryz.underlying0
  a0 := Tryz.isAgg0
  z0 := Tryz.sizeOf0
  v0 := Tryz.zeroValue0
  t24 := Tryz.underlying22
  a24 := Tryz.isAgg22
  z24 := Tryz.sizeOf22
  v24 := Tryz.zeroValue22
  t26 := Tryz.underlying3
  a26 := Tryz.isAgg3
  z26 := Tryz.sizeOf3
  v26 := Tryz.zeroValue3
  t28 := Tryz.underlying246
  a28 := Tryz.isAgg246
  z28 := Tryz.sizeOf246
  v28 := Tryz.zeroValue246
  i26 := by kernel_rfl }
def YteppdlkmjgladaaGreat.sortI_ren : Go.Shelf.Ren := ⟨fun | 5 => 94 | 8 => 125 | 7 => 124 | 19 => 156 | 20 => 157 | 10 => 147 | 11 => 148 | 12 => 149 | 13 => 150 | 14 => 151 | 15 => 152 | 16 => 153 | 17 => 154 | 18 => 155 | 30 => 168 | 31 => 169 | 32 => 170 | 33 => 171 | 34 => 172 | 35 => 173 | 40 => 177 | n => n, fun | 23 => 22 | 25 => 3 | 3 => 3 | 32 => 196 | 22 => 22 | 0 => 0 | 44 => 208 | 46 => 224 | 4 => 4 | 36 => 216 | 35 => 215 | 41 => 117 | 5 => 5 | 9 => 9 | 53 => 236 | 57 => 240 | 63 => 248 | 64 => 111 | n => n, fun | n => n⟩
theorem YteppdlkmjgladaaGreat.sortI : Go.Proofs.SlLaysM.n5 Tryz.prog YteppdlkmjgladaaGreat.sortI_ren := {
  mixed := by kernel_rfl
  f5 := ⟨Tryz.f94.name, by decide, Tryz.func94.trans (congrArg some (by kernel_rfl))⟩
  f7 := ⟨Tryz.f124.name, by decide, Tryz.func124.trans (congrArg some (by kernel_rfl))⟩
  f8 := Tryz.func125.trans (congrArg some (by kernel_rfl))
  f10 := ⟨Tryz.f147.name, by decide, Tryz.func147.trans (congrArg some (by kernel_rfl))⟩
  f11 := ⟨Tryz.f148.name, by decide, Tryz.func148.trans (congrArg some (by kernel_rfl))⟩
  f12 := ⟨Tryz.f149.name, by decide, Tryz.func149.trans (congrArg some (by kernel_rfl))⟩
  f13 := ⟨Tryz.f150.name, by decide, Tryz.func150.trans (congrArg some (by kernel_rfl))⟩
  f14 := ⟨Tryz.f151.name, by decide, Tryz.func151.trans (congrArg some (by kernel_rfl))⟩
  f15 := ⟨Tryz.f152.name, by decide, Tryz.func152.trans (congrArg some (by kernel_rfl))⟩
  f16 := ⟨Tryz.f153.name, by decide, Tryz.func153.trans (congrArg some (by kernel_rfl))⟩
  f17 := ⟨Tryz.f154.name, by decide, Tryz.func154.trans (congrArg some (by kernel_rfl))⟩
  f18 := ⟨Tryz.f155.name, by decide, Tryz.func155.trans (congrArg some (by kernel_rfl))⟩
  f19 := Tryz.func156.trans (congrArg some (by kernel_rfl))
  f20 := Tryz.func157.trans (congrArg some (by kernel_rfl))
  f30 := ⟨Tryz.f168.name, by decide, Tryz.func168.trans (congrArg some (by kernel_rfl))⟩
  f31 := Tryz.func169.trans (congrArg some (by kernel_rfl))
  f32 := Tryz.func170.trans (congrArg some (by kernel_rfl))
  f33 := ⟨Tryz.f171.name, by decide, Tryz.func171.trans (congrArg some (by kernel_rfl))⟩
  f34 := ⟨Tryz.f172.name, by decide, Tryz.func172.trans (congrArg some (by kernel_rfl))⟩
  f35 := ⟨Tryz.f173.name, by decide, Tryz.func173.trans (congrArg some (by kernel_rfl))⟩
  f40 := ⟨Tryz.f177.name, by decide, Tryz.func177.trans (congrArg some (by kernel_rfl))⟩
  t0 := Tryz.underlying0
  a0 := Tryz.isAgg0
  z0 := Tryz.sizeOf0
  v0 := Tryz.zeroValue0
  t3 := Tryz.underlying3
  a3 := Tryz.isAgg3
  z3 := Tryz.sizeOf3
  v3 := Tryz.zeroValue3
  t4 := Tryz.underlying4
  a4 := Tryz.isAgg4
  z4 := Tryz.sizeOf4
  v4 := Tryz.zeroValue4
  t5 := Tryz.underlying5
  a5 := Tryz.isAgg5
  z5 := Tryz.sizeOf5
  v5 := Tryz.zeroValue5
  t9 := Tryz.underlying9
  a9 := Tryz.isAgg9
  z9 := Tryz.sizeOf9
  v9 := Tryz.zeroValue9
  t22 := Tryz.underlying22
  a22 := Tryz.isAgg22
  z22 := Tryz.sizeOf22
  v22 := Tryz.zeroValue22
  t23 := Tryz.underlying22
  a23 := Tryz.isAgg22
  z23 := Tryz.sizeOf22
  v23 := Tryz.zeroValue22
  t25 := Tryz.underlying3
  a25 := Tryz.isAgg3
  z25 := Tryz.sizeOf3
  v25 := Tryz.zeroValue3
  t32 := Tryz.underlying196
  a32 := Tryz.isAgg196
  z32 := Tryz.sizeOf196
  v32 := Tryz.zeroValue196
  t35 := Tryz.underlying215
  a35 := Tryz.isAgg215
  z35 := Tryz.sizeOf215
  v35 := Tryz.zeroValue215
  t36 := Tryz.underlying216
  a36 := Tryz.isAgg216
  z36 := Tryz.sizeOf216
  v36 := Tryz.zeroValue216
  t41 := Tryz.underlying117
  a41 := Tryz.isAgg117
  z41 := Tryz.sizeOf117
  v41 := Tryz.zeroValue117
  t44 := Tryz.underlying208
  a44 := Tryz.isAgg208
  z44 := Tryz.sizeOf208
  v44 := Tryz.zeroValue208
  t46 := Tryz.underlying224
  a46 := Tryz.isAgg224
  z46 := Tryz.sizeOf224
  v46 := Tryz.zeroValue224
  t53 := Tryz.underlying236
  a53 := Tryz.isAgg236
  z53 := Tryz.sizeOf236
  v53 := Tryz.zeroValue236
  t57 := Tryz.underlying240
  a57 := Tryz.isAgg240
  z57 := Tryz.sizeOf240
  v57 := Tryz.zeroValue240
  t63 := Tryz.underlying248
  a63 := Tryz.isAgg248
  z63 := Tryz.sizeOf248
  v63 := Tryz.zeroValue248
  t64 := Tryz.underlying111
  a64 := Tryz.isAgg111
  z64 := Tryz.sizeOf111
  v64 := Tryz.zeroValue111 }
end Go.Proofs
