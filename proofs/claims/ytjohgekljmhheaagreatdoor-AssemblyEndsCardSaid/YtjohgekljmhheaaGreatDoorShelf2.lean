import Derived.Shelf.SlIter.Nil
import Derived.Ground.GgzProg
import Derived.Shelf.SlGeneric
import Derived.Test.YtjohgekljmhheaaGreatDoorProg
namespace Go.Proofs
open Tryz
open Go.Shelf
def Tryz.keysT_ren: Go.Shelf.Ren:=⟨fun|7=>249|10=>286|n=>n,fun|23=>277|26=>9|3=>22|28=>284|0=>0|27=>283|33=>97|4=>4|n=>n,fun|n=>n⟩
theorem Tryz.keysT: Go.Proofs.SlLaysZ.n7 prog keysT_ren:={
 mixed:=by kernel_rfl
 f7:=⟨f249.name,by decide,func249.trans (congrArg some (by kernel_rfl))⟩
 f10:=⟨f286.name,by decide,func286.trans (congrArg some (by kernel_rfl))⟩
 t0:=underlying0
 a0:=isAgg0
 z0:=sizeOf0
 v0:=zeroValue0
 t4:=underlying4
 a4:=isAgg4
 z4:=sizeOf4
 v4:=zeroValue4
 t23:=underlying277
 a23:=isAgg277
 z23:=sizeOf277
 v23:=zeroValue277
 t26:=underlying9
 a26:=isAgg9
 z26:=sizeOf9
 v26:=zeroValue9
 t27:=underlying283
 a27:=isAgg283
 z27:=sizeOf283
 v27:=zeroValue283
 t28:=underlying284
 a28:=isAgg284
 z28:=sizeOf284
 v28:=zeroValue284
 t33:=underlying97
 a33:=isAgg97
 z33:=sizeOf97
 v33:=zeroValue97 }
end Go.Proofs
