import Derived.Shelf.SlIter.Nil
import Derived.Ground.GgzProg
import Derived.Shelf.SlGeneric
import Derived.Test.YtifphhgcelkflaaGreatDoorProg
namespace Go.Proofs
open Tryz
open Go.Shelf
def Tryz.keysT_ren: Go.Shelf.Ren:=⟨fun|7=>274|10=>307|n=>n,fun|23=>311|26=>9|3=>22|28=>318|0=>0|27=>317|33=>94|4=>4|n=>n,fun|n=>n⟩
theorem Tryz.keysT: Go.Proofs.SlLaysZ.n7 prog keysT_ren:={
 mixed:=by kernel_rfl
 f7:=⟨f274.name,by decide,func274.trans (congrArg some (by kernel_rfl))⟩
 f10:=⟨f307.name,by decide,func307.trans (congrArg some (by kernel_rfl))⟩
 t0:=underlying0
 a0:=isAgg0
 z0:=sizeOf0
 v0:=zeroValue0
 t4:=underlying4
 a4:=isAgg4
 z4:=sizeOf4
 v4:=zeroValue4
 t23:=underlying311
 a23:=isAgg311
 z23:=sizeOf311
 v23:=zeroValue311
 t26:=underlying9
 a26:=isAgg9
 z26:=sizeOf9
 v26:=zeroValue9
 t27:=underlying317
 a27:=isAgg317
 z27:=sizeOf317
 v27:=zeroValue317
 t28:=underlying318
 a28:=isAgg318
 z28:=sizeOf318
 v28:=zeroValue318
 t33:=underlying94
 a33:=isAgg94
 z33:=sizeOf94
 v33:=zeroValue94 }
end Go.Proofs
