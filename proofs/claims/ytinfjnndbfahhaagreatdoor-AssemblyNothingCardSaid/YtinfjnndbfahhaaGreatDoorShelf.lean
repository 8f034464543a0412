/-
  DERIVED: THE SHELF's CONTRACTS AT THIS DUMP, IN PLAIN WORDS (tools/lay-plain.mjs out of 'YtinfjnndbfahhaaGreatDoorShelfSrc.lean', which tools/lay-shelf.mjs wrote): THE SAME DECLARATIONS UNDER THE SAME NAMES: 'import', 'namespace', 'open', 'def', 'theorem' AND NOTHING ELSE: no command of the shelf's: FOR A HAND-IN. Each laying: the table of numbers ('.._ren') and one theorem, a field a fact of the dump's own or the kernel's comparison; each contract: ONE APPLICATION.
-/
import Derived.Shelf.SortM.Plain
import Derived.Shelf.SortM.SortNone
import Derived.Ground.SlgmProg
import Derived.Shelf.SlIter.Nil
import Derived.Ground.GgzProg
import Derived.Shelf.SlGeneric
import Derived.Test.YtinfjnndbfahhaaGreatDoorProg
namespace Go.Proofs
open Go.Shelf
def Tryz.sortS_ren : Go.Shelf.Ren := ⟨fun | 6 => 248 | 8 => 169 | 9 => 282 | 19 => 218 | 20 => 219 | 21 => 308 | 22 => 309 | 23 => 310 | 24 => 311 | 25 => 312 | 26 => 313 | 27 => 314 | 28 => 315 | 29 => 316 | 36 => 330 | 31 => 251 | 32 => 252 | 37 => 331 | 38 => 332 | 39 => 260 | 41 => 337 | n => n, fun | 27 => 30 | 29 => 9 | 3 => 3 | 32 => 242 | 26 => 30 | 0 => 0 | 44 => 298 | 46 => 300 | 4 => 4 | 36 => 292 | 35 => 291 | 41 => 166 | 5 => 5 | 9 => 9 | 53 => 326 | 57 => 330 | 63 => 356 | 64 => 188 | n => n, fun | n => n⟩
theorem Tryz.sortS : Go.Proofs.SlLaysM.n6 Tryz.prog Tryz.sortS_ren := {
  mixed := by kernel_rfl
  f6 := ⟨Tryz.f248.name, by decide, Tryz.func248.trans (congrArg some (by kernel_rfl))⟩
  f8 := Tryz.func169.trans (congrArg some (by kernel_rfl))
  f9 := ⟨Tryz.f282.name, by decide, Tryz.func282.trans (congrArg some (by kernel_rfl))⟩
  f19 := Tryz.func218.trans (congrArg some (by kernel_rfl))
  f20 := Tryz.func219.trans (congrArg some (by kernel_rfl))
  f21 := ⟨Tryz.f308.name, by decide, Tryz.func308.trans (congrArg some (by kernel_rfl))⟩
  f22 := ⟨Tryz.f309.name, by decide, Tryz.func309.trans (congrArg some (by kernel_rfl))⟩
  f23 := ⟨Tryz.f310.name, by decide, Tryz.func310.trans (congrArg some (by kernel_rfl))⟩
  f24 := ⟨Tryz.f311.name, by decide, Tryz.func311.trans (congrArg some (by kernel_rfl))⟩
  f25 := ⟨Tryz.f312.name, by decide, Tryz.func312.trans (congrArg some (by kernel_rfl))⟩
  f26 := ⟨Tryz.f313.name, by decide, Tryz.func313.trans (congrArg some (by kernel_rfl))⟩
  f27 := ⟨Tryz.f314.name, by decide, Tryz.func314.trans (congrArg some (by kernel_rfl))⟩
  f28 := ⟨Tryz.f315.name, by decide, Tryz.func315.trans (congrArg some (by kernel_rfl))⟩
  f29 := ⟨Tryz.f316.name, by decide, Tryz.func316.trans (congrArg some (by kernel_rfl))⟩
  f31 := Tryz.func251.trans (congrArg some (by kernel_rfl))
  f32 := Tryz.func252.trans (congrArg some (by kernel_rfl))
  f36 := ⟨Tryz.f330.name, by decide, Tryz.func330.trans (congrArg some (by kernel_rfl))⟩
  f37 := ⟨Tryz.f331.name, by decide, Tryz.func331.trans (congrArg some (by kernel_rfl))⟩
  f38 := ⟨Tryz.f332.name, by decide, Tryz.func332.trans (congrArg some (by kernel_rfl))⟩
  f39 := ⟨Tryz.f260.name, by decide, Tryz.func260.trans (congrArg some (by kernel_rfl))⟩
  f41 := ⟨Tryz.f337.name, by decide, Tryz.func337.trans (congrArg some (by kernel_rfl))⟩
  t0 := Tryz.underlying0
  a0 := Tryz.isAgg0
  z0 := Tryz.sizeOf0
  v0 := Tryz.zeroValue0
  t3 := Tryz.underlying3
  a3 := Tryz.isAgg3
  z3 := Tryz.sizeOf3
  v3 := Tryz.zeroValue3
  t4 := Tryz.underlying4
  a4 := Tryz.isAgg4
  z4 := Tryz.sizeOf4
  v4 := Tryz.zeroValue4
  t5 := Tryz.underlying5
  a5 := Tryz.isAgg5
  z5 := Tryz.sizeOf5
  v5 := Tryz.zeroValue5
  t9 := Tryz.underlying9
  a9 := Tryz.isAgg9
  z9 := Tryz.sizeOf9
  v9 := Tryz.zeroValue9
  t26 := Tryz.underlying30
  a26 := Tryz.isAgg30
  z26 := Tryz.sizeOf30
  v26 := Tryz.zeroValue30
  t27 := Tryz.underlying30
  a27 := Tryz.isAgg30
  z27 := Tryz.sizeOf30
  v27 := Tryz.zeroValue30
  t29 := Tryz.underlying9
  a29 := Tryz.isAgg9
  z29 := Tryz.sizeOf9
  v29 := Tryz.zeroValue9
  t32 := Tryz.underlying242
  a32 := Tryz.isAgg242
  z32 := Tryz.sizeOf242
  v32 := Tryz.zeroValue242
  t35 := Tryz.underlying291
  a35 := Tryz.isAgg291
  z35 := Tryz.sizeOf291
  v35 := Tryz.zeroValue291
  t36 := Tryz.underlying292
  a36 := Tryz.isAgg292
  z36 := Tryz.sizeOf292
  v36 := Tryz.zeroValue292
  t41 := Tryz.underlying166
  a41 := Tryz.isAgg166
  z41 := Tryz.sizeOf166
  v41 := Tryz.zeroValue166
  t44 := Tryz.underlying298
  a44 := Tryz.isAgg298
  z44 := Tryz.sizeOf298
  v44 := Tryz.zeroValue298
  t46 := Tryz.underlying300
  a46 := Tryz.isAgg300
  z46 := Tryz.sizeOf300
  v46 := Tryz.zeroValue300
  t53 := Tryz.underlying326
  a53 := Tryz.isAgg326
  z53 := Tryz.sizeOf326
  v53 := Tryz.zeroValue326
  t57 := Tryz.underlying330
  a57 := Tryz.isAgg330
  z57 := Tryz.sizeOf330
  v57 := Tryz.zeroValue330
  t63 := Tryz.underlying356
  a63 := Tryz.isAgg356
  z63 := Tryz.sizeOf356
  v63 := Tryz.zeroValue356
  t64 := Tryz.underlying188
  a64 := Tryz.isAgg188
  z64 := Tryz.sizeOf188
  v64 := Tryz.zeroValue188 }
def Tryz.keysM_ren : Go.Shelf.Ren := ⟨fun | 7 => 209 | 10 => 249 | n => n, fun | 23 => 283 | 26 => 9 | 3 => 231 | 28 => 288 | 0 => 0 | 27 => 287 | 33 => 98 | 4 => 4 | n => n, fun | n => n⟩
theorem Tryz.keysM : Go.Proofs.SlLaysZ.n7 Tryz.prog Tryz.keysM_ren := {
  mixed := by kernel_rfl
  f7 := ⟨Tryz.f209.name, by decide, Tryz.func209.trans (congrArg some (by kernel_rfl))⟩
  f10 := ⟨Tryz.f249.name, by decide, Tryz.func249.trans (congrArg some (by kernel_rfl))⟩
  t0 := Tryz.underlying0
  a0 := Tryz.isAgg0
  z0 := Tryz.sizeOf0
  v0 := Tryz.zeroValue0
  t4 := Tryz.underlying4
  a4 := Tryz.isAgg4
  z4 := Tryz.sizeOf4
  v4 := Tryz.zeroValue4
  t23 := Tryz.underlying283
  a23 := Tryz.isAgg283
  z23 := Tryz.sizeOf283
  v23 := Tryz.zeroValue283
  t26 := Tryz.underlying9
  a26 := Tryz.isAgg9
  z26 := Tryz.sizeOf9
  v26 := Tryz.zeroValue9
  t27 := Tryz.underlying287
  a27 := Tryz.isAgg287
  z27 := Tryz.sizeOf287
  v27 := Tryz.zeroValue287
  t28 := Tryz.underlying288
  a28 := Tryz.isAgg288
  z28 := Tryz.sizeOf288
  v28 := Tryz.zeroValue288
  t33 := Tryz.underlying98
  a33 := Tryz.isAgg98
  z33 := Tryz.sizeOf98
  v33 := Tryz.zeroValue98 }
def Tryz.sortedS_ren : Go.Shelf.Ren := ⟨fun | 6 => 208 | 8 => 247 | 9 => 248 | 11 => 281 | 13 => 169 | 12 => 282 | 23 => 218 | 24 => 219 | 14 => 308 | 15 => 309 | 16 => 310 | 17 => 311 | 18 => 312 | 19 => 313 | 20 => 314 | 21 => 315 | 22 => 316 | 25 => 330 | 26 => 251 | 27 => 252 | 28 => 331 | 29 => 332 | 30 => 260 | 31 => 337 | n => n, fun | 26 => 9 | 28 => 288 | 24 => 30 | 0 => 0 | 3 => 3 | 37 => 242 | 48 => 298 | 50 => 300 | 4 => 4 | 40 => 292 | 39 => 291 | 45 => 166 | 5 => 5 | 9 => 9 | 51 => 326 | 55 => 330 | 57 => 356 | 58 => 188 | 33 => 98 | n => n, fun | n => n⟩
theorem Tryz.sortedS : Go.Proofs.SlLaysZ.n6 Tryz.prog Tryz.sortedS_ren := {
  mixed := by kernel_rfl
  f6 := ⟨Tryz.f208.name, by decide, Tryz.func208.trans (congrArg some (by kernel_rfl))⟩
  f8 := ⟨Tryz.f247.name, by decide, Tryz.func247.trans (congrArg some (by kernel_rfl))⟩
  f11 := ⟨Tryz.f281.name, by decide, Tryz.func281.trans (congrArg some (by kernel_rfl))⟩
  t0 := Tryz.underlying0
  a0 := Tryz.isAgg0
  z0 := Tryz.sizeOf0
  v0 := Tryz.zeroValue0
  t24 := Tryz.underlying30
  a24 := Tryz.isAgg30
  z24 := Tryz.sizeOf30
  v24 := Tryz.zeroValue30
  t26 := Tryz.underlying9
  a26 := Tryz.isAgg9
  z26 := Tryz.sizeOf9
  v26 := Tryz.zeroValue9
  t28 := Tryz.underlying288
  a28 := Tryz.isAgg288
  z28 := Tryz.sizeOf288
  v28 := Tryz.zeroValue288
  i26 := by kernel_rfl }
end Go.Proofs
