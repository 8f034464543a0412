import Derived.Shelf.SlIter.Nil
import Derived.Ground.GgzProg
import Derived.Shelf.SlGeneric
import Derived.Test.YtckkocmhlhefpaaGreatDoorProg
namespace Go.Proofs
open Tryz
open Go.Shelf
def Tryz.keysT_ren: Go.Shelf.Ren:=⟨fun|7=>245|10=>279|n=>n,fun|23=>281|26=>9|3=>22|28=>288|0=>0|27=>287|33=>108|4=>4|n=>n,fun|n=>n⟩
theorem Tryz.keysT: Go.Proofs.SlLaysZ.n7 prog keysT_ren:={
 mixed:=by kernel_rfl
 f7:=⟨f245.name,by decide,func245.trans (congrArg some (by kernel_rfl))⟩
 f10:=⟨f279.name,by decide,func279.trans (congrArg some (by kernel_rfl))⟩
 t0:=underlying0
 a0:=isAgg0
 z0:=sizeOf0
 v0:=zeroValue0
 t4:=underlying4
 a4:=isAgg4
 z4:=sizeOf4
 v4:=zeroValue4
 t23:=underlying281
 a23:=isAgg281
 z23:=sizeOf281
 v23:=zeroValue281
 t26:=underlying9
 a26:=isAgg9
 z26:=sizeOf9
 v26:=zeroValue9
 t27:=underlying287
 a27:=isAgg287
 z27:=sizeOf287
 v27:=zeroValue287
 t28:=underlying288
 a28:=isAgg288
 z28:=sizeOf288
 v28:=zeroValue288
 t33:=underlying108
 a33:=isAgg108
 z33:=sizeOf108
 v33:=zeroValue108 }
end Go.Proofs
