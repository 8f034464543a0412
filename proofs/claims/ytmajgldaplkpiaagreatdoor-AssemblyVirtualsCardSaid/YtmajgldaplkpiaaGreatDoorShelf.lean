/-
  DERIVED: THE SHELF's CONTRACTS AT THIS DUMP, IN PLAIN WORDS (tools/lay-plain.mjs out of 'YtmajgldaplkpiaaGreatDoorShelfSrc.lean', which tools/lay-shelf.mjs wrote): THE SAME DECLARATIONS UNDER THE SAME NAMES: 'import', 'namespace', 'open', 'def', 'theorem' AND NOTHING ELSE: no command of the shelf's: FOR A HAND-IN. Each laying: the table of numbers ('.._ren') and one theorem, a field a fact of the dump's own or the kernel's comparison; each contract: ONE APPLICATION.
-/
import Derived.Shelf.SortM.Plain
import Derived.Shelf.SortM.SortNone
import Derived.Ground.SlgmProg
import Derived.Shelf.SlIter.Nil
import Derived.Ground.GgzProg
import Derived.Shelf.SlGeneric
import Derived.Test.YtmajgldaplkpiaaGreatDoorProg
namespace Go.Proofs
open Go.Shelf
def Tryz.sortS_ren : Go.Shelf.Ren := ⟨fun | 6 => 303 | 8 => 221 | 9 => 326 | 19 => 274 | 20 => 231 | 21 => 342 | 22 => 343 | 23 => 344 | 24 => 345 | 25 => 346 | 26 => 347 | 27 => 348 | 28 => 349 | 29 => 350 | 36 => 353 | 31 => 306 | 32 => 307 | 37 => 354 | 38 => 355 | 39 => 313 | 41 => 356 | n => n, fun | 27 => 44 | 29 => 9 | 3 => 3 | 32 => 275 | 26 => 44 | 0 => 0 | 44 => 283 | 46 => 226 | 4 => 4 | 36 => 325 | 35 => 324 | 41 => 53 | 5 => 5 | 9 => 9 | 53 => 353 | 57 => 357 | 63 => 380 | 64 => 174 | n => n, fun | n => n⟩
theorem Tryz.sortS : Go.Proofs.SlLaysM.n6 Tryz.prog Tryz.sortS_ren := {
  mixed := by kernel_rfl
  f6 := ⟨Tryz.f303.name, by decide, Tryz.func303.trans (congrArg some (by kernel_rfl))⟩
  f8 := Tryz.func221.trans (congrArg some (by kernel_rfl))
  f9 := ⟨Tryz.f326.name, by decide, Tryz.func326.trans (congrArg some (by kernel_rfl))⟩
  f19 := Tryz.func274.trans (congrArg some (by kernel_rfl))
  f20 := Tryz.func231.trans (congrArg some (by kernel_rfl))
  f21 := ⟨Tryz.f342.name, by decide, Tryz.func342.trans (congrArg some (by kernel_rfl))⟩
  f22 := ⟨Tryz.f343.name, by decide, Tryz.func343.trans (congrArg some (by kernel_rfl))⟩
  f23 := ⟨Tryz.f344.name, by decide, Tryz.func344.trans (congrArg some (by kernel_rfl))⟩
  f24 := ⟨Tryz.f345.name, by decide, Tryz.func345.trans (congrArg some (by kernel_rfl))⟩
  f25 := ⟨Tryz.f346.name, by decide, Tryz.func346.trans (congrArg some (by kernel_rfl))⟩
  f26 := ⟨Tryz.f347.name, by decide, Tryz.func347.trans (congrArg some (by kernel_rfl))⟩
  f27 := ⟨Tryz.f348.name, by decide, Tryz.func348.trans (congrArg some (by kernel_rfl))⟩
  f28 := ⟨Tryz.f349.name, by decide, Tryz.func349.trans (congrArg some (by kernel_rfl))⟩
  f29 := ⟨Tryz.f350.name, by decide, Tryz.func350.trans (congrArg some (by kernel_rfl))⟩
  f31 := Tryz.func306.trans (congrArg some (by kernel_rfl))
  f32 := Tryz.func307.trans (congrArg some (by kernel_rfl))
  f36 := ⟨Tryz.f353.name, by decide, Tryz.func353.trans (congrArg some (by kernel_rfl))⟩
  f37 := ⟨Tryz.f354.name, by decide, Tryz.func354.trans (congrArg some (by kernel_rfl))⟩
  f38 := ⟨Tryz.f355.name, by decide, Tryz.func355.trans (congrArg some (by kernel_rfl))⟩
  f39 := ⟨Tryz.f313.name, by decide, Tryz.func313.trans (congrArg some (by kernel_rfl))⟩
  f41 := ⟨Tryz.f356.name, by decide, Tryz.func356.trans (congrArg some (by kernel_rfl))⟩
  t0 := Tryz.underlying0
  a0 := Tryz.isAgg0
  z0 := Tryz.sizeOf0
  v0 := Tryz.zeroValue0
  t3 := Tryz.underlying3
  a3 := Tryz.isAgg3
  z3 := Tryz.sizeOf3
  v3 := Tryz.zeroValue3
  t4 := Tryz.underlying4
  a4 := Tryz.isAgg4
  z4 := Tryz.sizeOf4
  v4 := Tryz.zeroValue4
  t5 := Tryz.underlying5
  a5 := Tryz.isAgg5
  z5 := Tryz.sizeOf5
  v5 := Tryz.zeroValue5
  t9 := Tryz.underlying9
  a9 := Tryz.isAgg9
  z9 := Tryz.sizeOf9
  v9 := Tryz.zeroValue9
  t26 := Tryz.underlying44
  a26 := Tryz.isAgg44
  z26 := Tryz.sizeOf44
  v26 := Tryz.zeroValue44
  t27 := Tryz.underlying44
  a27 := Tryz.isAgg44
  z27 := Tryz.sizeOf44
  v27 := Tryz.zeroValue44
  t29 := Tryz.underlying9
  a29 := Tryz.isAgg9
  z29 := Tryz.sizeOf9
  v29 := Tryz.zeroValue9
  t32 := Tryz.underlying275
  a32 := Tryz.isAgg275
  z32 := Tryz.sizeOf275
  v32 := Tryz.zeroValue275
  t35 := Tryz.underlying324
  a35 := Tryz.isAgg324
  z35 := Tryz.sizeOf324
  v35 := Tryz.zeroValue324
  t36 := Tryz.underlying325
  a36 := Tryz.isAgg325
  z36 := Tryz.sizeOf325
  v36 := Tryz.zeroValue325
  t41 := Tryz.underlying53
  a41 := Tryz.isAgg53
  z41 := Tryz.sizeOf53
  v41 := Tryz.zeroValue53
  t44 := Tryz.underlying283
  a44 := Tryz.isAgg283
  z44 := Tryz.sizeOf283
  v44 := Tryz.zeroValue283
  t46 := Tryz.underlying226
  a46 := Tryz.isAgg226
  z46 := Tryz.sizeOf226
  v46 := Tryz.zeroValue226
  t53 := Tryz.underlying353
  a53 := Tryz.isAgg353
  z53 := Tryz.sizeOf353
  v53 := Tryz.zeroValue353
  t57 := Tryz.underlying357
  a57 := Tryz.isAgg357
  z57 := Tryz.sizeOf357
  v57 := Tryz.zeroValue357
  t63 := Tryz.underlying380
  a63 := Tryz.isAgg380
  z63 := Tryz.sizeOf380
  v63 := Tryz.zeroValue380
  t64 := Tryz.underlying174
  a64 := Tryz.isAgg174
  z64 := Tryz.sizeOf174
  v64 := Tryz.zeroValue174 }
def Tryz.keysM_ren : Go.Shelf.Ren := ⟨fun | 7 => 265 | 10 => 304 | n => n, fun | 23 => 316 | 26 => 9 | 3 => 264 | 28 => 321 | 0 => 0 | 27 => 320 | 33 => 57 | 4 => 4 | n => n, fun | n => n⟩
theorem Tryz.keysM : Go.Proofs.SlLaysZ.n7 Tryz.prog Tryz.keysM_ren := {
  mixed := by kernel_rfl
  f7 := ⟨Tryz.f265.name, by decide, Tryz.func265.trans (congrArg some (by kernel_rfl))⟩
  f10 := ⟨Tryz.f304.name, by decide, Tryz.func304.trans (congrArg some (by kernel_rfl))⟩
  t0 := Tryz.underlying0
  a0 := Tryz.isAgg0
  z0 := Tryz.sizeOf0
  v0 := Tryz.zeroValue0
  t4 := Tryz.underlying4
  a4 := Tryz.isAgg4
  z4 := Tryz.sizeOf4
  v4 := Tryz.zeroValue4
  t23 := Tryz.underlying316
  a23 := Tryz.isAgg316
  z23 := Tryz.sizeOf316
  v23 := Tryz.zeroValue316
  t26 := Tryz.underlying9
  a26 := Tryz.isAgg9
  z26 := Tryz.sizeOf9
  v26 := Tryz.zeroValue9
  t27 := Tryz.underlying320
  a27 := Tryz.isAgg320
  z27 := Tryz.sizeOf320
  v27 := Tryz.zeroValue320
  t28 := Tryz.underlying321
  a28 := Tryz.isAgg321
  z28 := Tryz.sizeOf321
  v28 := Tryz.zeroValue321
  t33 := Tryz.underlying57
  a33 := Tryz.isAgg57
  z33 := Tryz.sizeOf57
  v33 := Tryz.zeroValue57 }
def Tryz.sortedS_ren : Go.Shelf.Ren := ⟨fun | 6 => 264 | 8 => 302 | 9 => 303 | 11 => 325 | 13 => 221 | 12 => 326 | 23 => 274 | 24 => 231 | 14 => 342 | 15 => 343 | 16 => 344 | 17 => 345 | 18 => 346 | 19 => 347 | 20 => 348 | 21 => 349 | 22 => 350 | 25 => 353 | 26 => 306 | 27 => 307 | 28 => 354 | 29 => 355 | 30 => 313 | 31 => 356 | n => n, fun | 26 => 9 | 28 => 321 | 24 => 44 | 0 => 0 | 3 => 3 | 37 => 275 | 48 => 283 | 50 => 226 | 4 => 4 | 40 => 325 | 39 => 324 | 45 => 53 | 5 => 5 | 9 => 9 | 51 => 353 | 55 => 357 | 57 => 380 | 58 => 174 | 33 => 57 | n => n, fun | n => n⟩
theorem Tryz.sortedS : Go.Proofs.SlLaysZ.n6 Tryz.prog Tryz.sortedS_ren := {
  mixed := by kernel_rfl
  f6 := ⟨Tryz.f264.name, by decide, Tryz.func264.trans (congrArg some (by kernel_rfl))⟩
  f8 := ⟨Tryz.f302.name, by decide, Tryz.func302.trans (congrArg some (by kernel_rfl))⟩
  f11 := ⟨Tryz.f325.name, by decide, Tryz.func325.trans (congrArg some (by kernel_rfl))⟩
  t0 := Tryz.underlying0
  a0 := Tryz.isAgg0
  z0 := Tryz.sizeOf0
  v0 := Tryz.zeroValue0
  t24 := Tryz.underlying44
  a24 := Tryz.isAgg44
  z24 := Tryz.sizeOf44
  v24 := Tryz.zeroValue44
  t26 := Tryz.underlying9
  a26 := Tryz.isAgg9
  z26 := Tryz.sizeOf9
  v26 := Tryz.zeroValue9
  t28 := Tryz.underlying321
  a28 := Tryz.isAgg321
  z28 := Tryz.sizeOf321
  v28 := Tryz.zeroValue321
  i26 := by kernel_rfl }
end Go.Proofs
