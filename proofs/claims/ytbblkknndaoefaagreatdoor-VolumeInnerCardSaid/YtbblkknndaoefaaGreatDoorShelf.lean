/-
  DERIVED: THE SHELF's CONTRACTS AT THIS DUMP, IN PLAIN WORDS (tools/lay-plain.mjs out of 'YtbblkknndaoefaaGreatDoorShelfSrc.lean', which tools/lay-shelf.mjs wrote): THE SAME DECLARATIONS UNDER THE SAME NAMES: 'import', 'namespace', 'open', 'def', 'theorem' AND NOTHING ELSE: no command of the shelf's: FOR A HAND-IN. Each laying: the table of numbers ('.._ren') and one theorem, a field a fact of the dump's own or the kernel's comparison; each contract: ONE APPLICATION.
-/
import Derived.Shelf.SortM.Plain
import Derived.Shelf.SortM.SortNone
import Derived.Ground.SlgmProg
import Derived.Shelf.SlIter.Nil
import Derived.Ground.GgzProg
import Derived.Shelf.SlGeneric
import Derived.Test.YtbblkknndaoefaaGreatDoorProg
namespace Go.Proofs
open Go.Shelf
def Tryz.sortS_ren : Go.Shelf.Ren := ⟨fun | 6 => 106 | 8 => 136 | 9 => 135 | 19 => 168 | 20 => 169 | 21 => 159 | 22 => 160 | 23 => 161 | 24 => 162 | 25 => 163 | 26 => 164 | 27 => 165 | 28 => 166 | 29 => 167 | 36 => 196 | 31 => 197 | 32 => 198 | 37 => 199 | 38 => 200 | 39 => 195 | 41 => 227 | n => n, fun | 27 => 33 | 29 => 9 | 3 => 3 | 32 => 161 | 26 => 33 | 0 => 0 | 44 => 194 | 46 => 176 | 4 => 4 | 36 => 188 | 35 => 187 | 41 => 85 | 5 => 5 | 9 => 9 | 53 => 217 | 57 => 221 | 63 => 238 | 64 => 239 | n => n, fun | n => n⟩
theorem Tryz.sortS : Go.Proofs.SlLaysM.n6 Tryz.prog Tryz.sortS_ren := {
  mixed := by kernel_rfl
  f6 := ⟨Tryz.f106.name, by decide, Tryz.func106.trans (congrArg some (by kernel_rfl))⟩
  f8 := Tryz.func136.trans (congrArg some (by kernel_rfl))
  f9 := ⟨Tryz.f135.name, by decide, Tryz.func135.trans (congrArg some (by kernel_rfl))⟩
  f19 := Tryz.func168.trans (congrArg some (by kernel_rfl))
  f20 := Tryz.func169.trans (congrArg some (by kernel_rfl))
  f21 := ⟨Tryz.f159.name, by decide, Tryz.func159.trans (congrArg some (by kernel_rfl))⟩
  f22 := ⟨Tryz.f160.name, by decide, Tryz.func160.trans (congrArg some (by kernel_rfl))⟩
  f23 := ⟨Tryz.f161.name, by decide, Tryz.func161.trans (congrArg some (by kernel_rfl))⟩
  f24 := ⟨Tryz.f162.name, by decide, Tryz.func162.trans (congrArg some (by kernel_rfl))⟩
  f25 := ⟨Tryz.f163.name, by decide, Tryz.func163.trans (congrArg some (by kernel_rfl))⟩
  f26 := ⟨Tryz.f164.name, by decide, Tryz.func164.trans (congrArg some (by kernel_rfl))⟩
  f27 := ⟨Tryz.f165.name, by decide, Tryz.func165.trans (congrArg some (by kernel_rfl))⟩
  f28 := ⟨Tryz.f166.name, by decide, Tryz.func166.trans (congrArg some (by kernel_rfl))⟩
  f29 := ⟨Tryz.f167.name, by decide, Tryz.func167.trans (congrArg some (by kernel_rfl))⟩
  f31 := Tryz.func197.trans (congrArg some (by kernel_rfl))
  f32 := Tryz.func198.trans (congrArg some (by kernel_rfl))
  f36 := ⟨Tryz.f196.name, by decide, Tryz.func196.trans (congrArg some (by kernel_rfl))⟩
  f37 := ⟨Tryz.f199.name, by decide, Tryz.func199.trans (congrArg some (by kernel_rfl))⟩
  f38 := ⟨Tryz.f200.name, by decide, Tryz.func200.trans (congrArg some (by kernel_rfl))⟩
  f39 := ⟨Tryz.f195.name, by decide, Tryz.func195.trans (congrArg some (by kernel_rfl))⟩
  f41 := ⟨Tryz.f227.name, by decide, Tryz.func227.trans (congrArg some (by kernel_rfl))⟩
  t0 := Tryz.underlying0
  a0 := Tryz.isAgg0
  z0 := Tryz.sizeOf0
  v0 := Tryz.zeroValue0
  t3 := Tryz.underlying3
  a3 := Tryz.isAgg3
  z3 := Tryz.sizeOf3
  v3 := Tryz.zeroValue3
  t4 := Tryz.underlying4
  a4 := Tryz.isAgg4
  z4 := Tryz.sizeOf4
  v4 := Tryz.zeroValue4
  t5 := Tryz.underlying5
  a5 := Tryz.isAgg5
  z5 := Tryz.sizeOf5
  v5 := Tryz.zeroValue5
  t9 := Tryz.underlying9
  a9 := Tryz.isAgg9
  z9 := Tryz.sizeOf9
  v9 := Tryz.zeroValue9
  t26 := Tryz.underlying33
  a26 := Tryz.isAgg33
  z26 := Tryz.sizeOf33
  v26 := Tryz.zeroValue33
  t27 := Tryz.underlying33
  a27 := Tryz.isAgg33
  z27 := Tryz.sizeOf33
  v27 := Tryz.zeroValue33
  t29 := Tryz.underlying9
  a29 := Tryz.isAgg9
  z29 := Tryz.sizeOf9
  v29 := Tryz.zeroValue9
  t32 := Tryz.underlying161
  a32 := Tryz.isAgg161
  z32 := Tryz.sizeOf161
  v32 := Tryz.zeroValue161
  t35 := Tryz.underlying187
  a35 := Tryz.isAgg187
  z35 := Tryz.sizeOf187
  v35 := Tryz.zeroValue187
  t36 := Tryz.underlying188
  a36 := Tryz.isAgg188
  z36 := Tryz.sizeOf188
  v36 := Tryz.zeroValue188
  t41 := Tryz.underlying85
  a41 := Tryz.isAgg85
  z41 := Tryz.sizeOf85
  v41 := Tryz.zeroValue85
  t44 := Tryz.underlying194
  a44 := Tryz.isAgg194
  z44 := Tryz.sizeOf194
  v44 := Tryz.zeroValue194
  t46 := Tryz.underlying176
  a46 := Tryz.isAgg176
  z46 := Tryz.sizeOf176
  v46 := Tryz.zeroValue176
  t53 := Tryz.underlying217
  a53 := Tryz.isAgg217
  z53 := Tryz.sizeOf217
  v53 := Tryz.zeroValue217
  t57 := Tryz.underlying221
  a57 := Tryz.isAgg221
  z57 := Tryz.sizeOf221
  v57 := Tryz.zeroValue221
  t63 := Tryz.underlying238
  a63 := Tryz.isAgg238
  z63 := Tryz.sizeOf238
  v63 := Tryz.zeroValue238
  t64 := Tryz.underlying239
  a64 := Tryz.isAgg239
  z64 := Tryz.sizeOf239
  v64 := Tryz.zeroValue239 }
def Tryz.keysM_ren : Go.Shelf.Ren := ⟨fun | 7 => 76 | 10 => 107 | n => n, fun | 23 => 94 | 26 => 9 | 3 => 58 | 28 => 100 | 0 => 0 | 27 => 99 | 33 => 109 | 4 => 4 | n => n, fun | n => n⟩
theorem Tryz.keysM : Go.Proofs.SlLaysZ.n7 Tryz.prog Tryz.keysM_ren := {
  mixed := by kernel_rfl
  f7 := ⟨Tryz.f76.name, by decide, Tryz.func76.trans (congrArg some (by kernel_rfl))⟩
  f10 := ⟨Tryz.f107.name, by decide, Tryz.func107.trans (congrArg some (by kernel_rfl))⟩
  t0 := Tryz.underlying0
  a0 := Tryz.isAgg0
  z0 := Tryz.sizeOf0
  v0 := Tryz.zeroValue0
  t4 := Tryz.underlying4
  a4 := Tryz.isAgg4
  z4 := Tryz.sizeOf4
  v4 := Tryz.zeroValue4
  t23 := Tryz.underlying94
  a23 := Tryz.isAgg94
  z23 := Tryz.sizeOf94
  v23 := Tryz.zeroValue94
  t26 := Tryz.underlying9
  a26 := Tryz.isAgg9
  z26 := Tryz.sizeOf9
  v26 := Tryz.zeroValue9
  t27 := Tryz.underlying99
  a27 := Tryz.isAgg99
  z27 := Tryz.sizeOf99
  v27 := Tryz.zeroValue99
  t28 := Tryz.underlying100
  a28 := Tryz.isAgg100
  z28 := Tryz.sizeOf100
  v28 := Tryz.zeroValue100
  t33 := Tryz.underlying109
  a33 := Tryz.isAgg109
  z33 := Tryz.sizeOf109
  v33 := Tryz.zeroValue109 }
def Tryz.sortedS_ren : Go.Shelf.Ren := ⟨fun | 6 => 75 | 8 => 105 | 9 => 106 | 11 => 134 | 13 => 136 | 12 => 135 | 23 => 168 | 24 => 169 | 14 => 159 | 15 => 160 | 16 => 161 | 17 => 162 | 18 => 163 | 19 => 164 | 20 => 165 | 21 => 166 | 22 => 167 | 25 => 196 | 26 => 197 | 27 => 198 | 28 => 199 | 29 => 200 | 30 => 195 | 31 => 227 | n => n, fun | 26 => 9 | 28 => 100 | 24 => 33 | 0 => 0 | 3 => 3 | 37 => 161 | 48 => 194 | 50 => 176 | 4 => 4 | 40 => 188 | 39 => 187 | 45 => 85 | 5 => 5 | 9 => 9 | 51 => 217 | 55 => 221 | 57 => 238 | 58 => 239 | 33 => 109 | n => n, fun | n => n⟩
theorem Tryz.sortedS : Go.Proofs.SlLaysZ.n6 Tryz.prog Tryz.sortedS_ren := {
  mixed := by kernel_rfl
  f6 := ⟨Tryz.f75.name, by decide, Tryz.func75.trans (congrArg some (by kernel_rfl))⟩
  f8 := ⟨Tryz.f105.name, by decide, Tryz.func105.trans (congrArg some (by kernel_rfl))⟩
  f11 := ⟨Tryz.f134.name, by decide, Tryz.func134.trans (congrArg some (by kernel_rfl))⟩
  t0 := Tryz.underlying0
  a0 := Tryz.isAgg0
  z0 := Tryz.sizeOf0
  v0 := Tryz.zeroValue0
  t24 := Tryz.underlying33
  a24 := Tryz.isAgg33
  z24 := Tryz.sizeOf33
  v24 := Tryz.zeroValue33
  t26 := Tryz.underlying9
  a26 := Tryz.isAgg9
  z26 := Tryz.sizeOf9
  v26 := Tryz.zeroValue9
  t28 := Tryz.underlying100
  a28 := Tryz.isAgg100
  z28 := Tryz.sizeOf100
  v28 := Tryz.zeroValue100
  i26 := by kernel_rfl }
end Go.Proofs
