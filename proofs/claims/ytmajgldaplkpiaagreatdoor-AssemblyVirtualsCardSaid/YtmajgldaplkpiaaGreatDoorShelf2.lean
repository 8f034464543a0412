/-
  DERIVED: THE SHELF's CONTRACTS AT THIS DUMP, IN PLAIN WORDS (tools/lay-plain.mjs out of 'YtmajgldaplkpiaaGreatDoorShelf2Src.lean', which tools/lay-shelf.mjs wrote): THE SAME DECLARATIONS UNDER THE SAME NAMES: 'import', 'namespace', 'open', 'def', 'theorem' AND NOTHING ELSE: no command of the shelf's: FOR A HAND-IN. Each laying: the table of numbers ('.._ren') and one theorem, a field a fact of the dump's own or the kernel's comparison; each contract: ONE APPLICATION.
-/
import Derived.Shelf.SlIter.Nil
import Derived.Ground.GgzProg
import Derived.Shelf.SlGeneric
import Derived.Test.YtmajgldaplkpiaaGreatDoorProg
namespace Go.Proofs
open Go.Shelf
def Tryz.keysT_ren : Go.Shelf.Ren := ⟨fun | 7 => 301 | 10 => 324 | n => n, fun | 23 => 314 | 26 => 9 | 3 => 22 | 28 => 321 | 0 => 0 | 27 => 320 | 33 => 57 | 4 => 4 | n => n, fun | n => n⟩
theorem Tryz.keysT : Go.Proofs.SlLaysZ.n7 Tryz.prog Tryz.keysT_ren := {
  mixed := by kernel_rfl
  f7 := ⟨Tryz.f301.name, by decide, Tryz.func301.trans (congrArg some (by kernel_rfl))⟩
  f10 := ⟨Tryz.f324.name, by decide, Tryz.func324.trans (congrArg some (by kernel_rfl))⟩
  t0 := Tryz.underlying0
  a0 := Tryz.isAgg0
  z0 := Tryz.sizeOf0
  v0 := Tryz.zeroValue0
  t4 := Tryz.underlying4
  a4 := Tryz.isAgg4
  z4 := Tryz.sizeOf4
  v4 := Tryz.zeroValue4
  t23 := Tryz.underlying314
  a23 := Tryz.isAgg314
  z23 := Tryz.sizeOf314
  v23 := Tryz.zeroValue314
  t26 := Tryz.underlying9
  a26 := Tryz.isAgg9
  z26 := Tryz.sizeOf9
  v26 := Tryz.zeroValue9
  t27 := Tryz.underlying320
  a27 := Tryz.isAgg320
  z27 := Tryz.sizeOf320
  v27 := Tryz.zeroValue320
  t28 := Tryz.underlying321
  a28 := Tryz.isAgg321
  z28 := Tryz.sizeOf321
  v28 := Tryz.zeroValue321
  t33 := Tryz.underlying57
  a33 := Tryz.isAgg57
  z33 := Tryz.sizeOf57
  v33 := Tryz.zeroValue57 }
end Go.Proofs
