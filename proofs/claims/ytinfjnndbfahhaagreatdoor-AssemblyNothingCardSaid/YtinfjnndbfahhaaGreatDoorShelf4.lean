/-
  DERIVED: THE SHELF's CONTRACTS AT THIS DUMP, IN PLAIN WORDS (tools/lay-plain.mjs out of 'YtinfjnndbfahhaaGreatDoorShelf4Src.lean', which tools/lay-shelf.mjs wrote): THE SAME DECLARATIONS UNDER THE SAME NAMES: 'import', 'namespace', 'open', 'def', 'theorem' AND NOTHING ELSE: no command of the shelf's: FOR A HAND-IN. Each laying: the table of numbers ('.._ren') and one theorem, a field a fact of the dump's own or the kernel's comparison; each contract: ONE APPLICATION.
-/
import Derived.Shelf.SlSortCmp.WholeK
import Derived.Ground.SlsfProg
import Derived.Shelf.SlGeneric
import Derived.Test.YtinfjnndbfahhaaGreatDoorProg
namespace Go.Proofs
open Go.Shelf
def Tryz.sortQ_ren : Go.Shelf.Ren := ⟨fun | 6 => 117 | 15 => 169 | 14 => 168 | 28 => 218 | 29 => 219 | 20 => 210 | 21 => 211 | 22 => 212 | 23 => 213 | 24 => 214 | 25 => 215 | 26 => 216 | 27 => 217 | 46 => 250 | 47 => 251 | 48 => 252 | 49 => 253 | 50 => 254 | 57 => 283 | n => n, fun | 22 => 79 | 24 => 123 | 25 => 185 | 3 => 3 | 39 => 242 | 0 => 0 | 53 => 298 | 55 => 300 | 4 => 4 | 46 => 292 | 45 => 291 | 50 => 166 | 5 => 5 | 9 => 9 | 66 => 326 | 70 => 330 | 76 => 356 | 77 => 188 | n => n, fun | n => n⟩
theorem Tryz.sortQ : Go.Proofs.SlLaysF0.n6 Tryz.prog Tryz.sortQ_ren := {
  mixed := by kernel_rfl
  f6 := ⟨Tryz.f117.name, by decide, Tryz.func117.trans (congrArg some (by kernel_rfl))⟩
  f14 := ⟨Tryz.f168.name, by decide, Tryz.func168.trans (congrArg some (by kernel_rfl))⟩
  f15 := Tryz.func169.trans (congrArg some (by kernel_rfl))
  f20 := ⟨Tryz.f210.name, by decide, Tryz.func210.trans (congrArg some (by kernel_rfl))⟩
  f21 := ⟨Tryz.f211.name, by decide, Tryz.func211.trans (congrArg some (by kernel_rfl))⟩
  f22 := ⟨Tryz.f212.name, by decide, Tryz.func212.trans (congrArg some (by kernel_rfl))⟩
  f23 := ⟨Tryz.f213.name, by decide, Tryz.func213.trans (congrArg some (by kernel_rfl))⟩
  f24 := ⟨Tryz.f214.name, by decide, Tryz.func214.trans (congrArg some (by kernel_rfl))⟩
  f25 := ⟨Tryz.f215.name, by decide, Tryz.func215.trans (congrArg some (by kernel_rfl))⟩
  f26 := ⟨Tryz.f216.name, by decide, Tryz.func216.trans (congrArg some (by kernel_rfl))⟩
  f27 := ⟨Tryz.f217.name, by decide, Tryz.func217.trans (congrArg some (by kernel_rfl))⟩
  f28 := Tryz.func218.trans (congrArg some (by kernel_rfl))
  f29 := Tryz.func219.trans (congrArg some (by kernel_rfl))
  f46 := ⟨Tryz.f250.name, by decide, Tryz.func250.trans (congrArg some (by kernel_rfl))⟩
  f47 := Tryz.func251.trans (congrArg some (by kernel_rfl))
  f48 := Tryz.func252.trans (congrArg some (by kernel_rfl))
  f49 := ⟨Tryz.f253.name, by decide, Tryz.func253.trans (congrArg some (by kernel_rfl))⟩
  f50 := ⟨Tryz.f254.name, by decide, Tryz.func254.trans (congrArg some (by kernel_rfl))⟩
  f57 := ⟨Tryz.f283.name, by decide, Tryz.func283.trans (congrArg some (by kernel_rfl))⟩
  t0 := Tryz.underlying0
  a0 := Tryz.isAgg0
  z0 := Tryz.sizeOf0
  v0 := Tryz.zeroValue0
  t3 := Tryz.underlying3
  a3 := Tryz.isAgg3
  z3 := Tryz.sizeOf3
  v3 := Tryz.zeroValue3
  t4 := Tryz.underlying4
  a4 := Tryz.isAgg4
  z4 := Tryz.sizeOf4
  v4 := Tryz.zeroValue4
  t5 := Tryz.underlying5
  a5 := Tryz.isAgg5
  z5 := Tryz.sizeOf5
  v5 := Tryz.zeroValue5
  t9 := Tryz.underlying9
  a9 := Tryz.isAgg9
  z9 := Tryz.sizeOf9
  v9 := Tryz.zeroValue9
  t22 := Tryz.underlying79
  a22 := Tryz.isAgg79
  z22 := Tryz.sizeOf79
  v22 := Tryz.zeroValue79
  t25 := Tryz.underlying185
  a25 := Tryz.isAgg185
  z25 := Tryz.sizeOf185
  v25 := Tryz.zeroValue185
  t39 := Tryz.underlying242
  a39 := Tryz.isAgg242
  z39 := Tryz.sizeOf242
  v39 := Tryz.zeroValue242
  t45 := Tryz.underlying291
  a45 := Tryz.isAgg291
  z45 := Tryz.sizeOf291
  v45 := Tryz.zeroValue291
  t46 := Tryz.underlying292
  a46 := Tryz.isAgg292
  z46 := Tryz.sizeOf292
  v46 := Tryz.zeroValue292
  t50 := Tryz.underlying166
  a50 := Tryz.isAgg166
  z50 := Tryz.sizeOf166
  v50 := Tryz.zeroValue166
  t53 := Tryz.underlying298
  a53 := Tryz.isAgg298
  z53 := Tryz.sizeOf298
  v53 := Tryz.zeroValue298
  t55 := Tryz.underlying300
  a55 := Tryz.isAgg300
  z55 := Tryz.sizeOf300
  v55 := Tryz.zeroValue300
  t66 := Tryz.underlying326
  a66 := Tryz.isAgg326
  z66 := Tryz.sizeOf326
  v66 := Tryz.zeroValue326
  t70 := Tryz.underlying330
  a70 := Tryz.isAgg330
  z70 := Tryz.sizeOf330
  v70 := Tryz.zeroValue330
  t76 := Tryz.underlying356
  a76 := Tryz.isAgg356
  z76 := Tryz.sizeOf356
  v76 := Tryz.zeroValue356
  t77 := Tryz.underlying188
  a77 := Tryz.isAgg188
  z77 := Tryz.sizeOf188
  v77 := Tryz.zeroValue188 }
end Go.Proofs
