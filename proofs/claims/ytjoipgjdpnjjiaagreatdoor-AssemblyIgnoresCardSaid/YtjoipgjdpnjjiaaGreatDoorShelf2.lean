import Derived.Shelf.SlIter.Nil
import Derived.Ground.GgzProg
import Derived.Shelf.SlGeneric
import Derived.Test.YtjoipgjdpnjjiaaGreatDoorProg
namespace Go.Proofs
open Tryz
open Go.Shelf
def Tryz.keysT_ren: Go.Shelf.Ren:=⟨fun|7=>266|10=>303|n=>n,fun|23=>298|26=>9|3=>22|28=>305|0=>0|27=>304|33=>98|4=>4|n=>n,fun|n=>n⟩
theorem Tryz.keysT: Go.Proofs.SlLaysZ.n7 prog keysT_ren:={
 mixed:=by kernel_rfl
 f7:=⟨f266.name,by decide,func266.trans (congrArg some (by kernel_rfl))⟩
 f10:=⟨f303.name,by decide,func303.trans (congrArg some (by kernel_rfl))⟩
 t0:=underlying0
 a0:=isAgg0
 z0:=sizeOf0
 v0:=zeroValue0
 t4:=underlying4
 a4:=isAgg4
 z4:=sizeOf4
 v4:=zeroValue4
 t23:=underlying298
 a23:=isAgg298
 z23:=sizeOf298
 v23:=zeroValue298
 t26:=underlying9
 a26:=isAgg9
 z26:=sizeOf9
 v26:=zeroValue9
 t27:=underlying304
 a27:=isAgg304
 z27:=sizeOf304
 v27:=zeroValue304
 t28:=underlying305
 a28:=isAgg305
 z28:=sizeOf305
 v28:=zeroValue305
 t33:=underlying98
 a33:=isAgg98
 z33:=sizeOf98
 v33:=zeroValue98 }
end Go.Proofs
