import Derived.Shelf.SlSortCmp.WholeK
import Derived.Ground.SlsfProg
import Derived.Shelf.SlGeneric
import Derived.Test.YtifphhgcelkflaaGreatDoorProg
namespace Go.Proofs
open Tryz
open Go.Shelf
def Tryz.sortQ_ren: Go.Shelf.Ren:=⟨fun|6=>172|15=>220|14=>219|28=>256|29=>125|20=>248|21=>249|22=>250|23=>251|24=>252|25=>253|26=>254|27=>255|46=>278|47=>279|48=>280|49=>281|50=>282|57=>310|n=>n,fun|22=>128|24=>180|25=>235|3=>3|39=>194|0=>0|53=>192|55=>152|4=>4|46=>322|45=>321|50=>135|5=>5|9=>9|66=>346|70=>350|76=>380|77=>176|n=>n,fun|n=>n⟩
theorem Tryz.sortQ: Go.Proofs.SlLaysF0.n6 prog sortQ_ren:={
 mixed:=by kernel_rfl
 f6:=⟨f172.name,by decide,func172.trans (congrArg some (by kernel_rfl))⟩
 f14:=⟨f219.name,by decide,func219.trans (congrArg some (by kernel_rfl))⟩
 f15:=func220.trans (congrArg some (by kernel_rfl))
 f20:=⟨f248.name,by decide,func248.trans (congrArg some (by kernel_rfl))⟩
 f21:=⟨f249.name,by decide,func249.trans (congrArg some (by kernel_rfl))⟩
 f22:=⟨f250.name,by decide,func250.trans (congrArg some (by kernel_rfl))⟩
 f23:=⟨f251.name,by decide,func251.trans (congrArg some (by kernel_rfl))⟩
 f24:=⟨f252.name,by decide,func252.trans (congrArg some (by kernel_rfl))⟩
 f25:=⟨f253.name,by decide,func253.trans (congrArg some (by kernel_rfl))⟩
 f26:=⟨f254.name,by decide,func254.trans (congrArg some (by kernel_rfl))⟩
 f27:=⟨f255.name,by decide,func255.trans (congrArg some (by kernel_rfl))⟩
 f28:=func256.trans (congrArg some (by kernel_rfl))
 f29:=func125.trans (congrArg some (by kernel_rfl))
 f46:=⟨f278.name,by decide,func278.trans (congrArg some (by kernel_rfl))⟩
 f47:=func279.trans (congrArg some (by kernel_rfl))
 f48:=func280.trans (congrArg some (by kernel_rfl))
 f49:=⟨f281.name,by decide,func281.trans (congrArg some (by kernel_rfl))⟩
 f50:=⟨f282.name,by decide,func282.trans (congrArg some (by kernel_rfl))⟩
 f57:=⟨f310.name,by decide,func310.trans (congrArg some (by kernel_rfl))⟩
 t0:=underlying0
 a0:=isAgg0
 z0:=sizeOf0
 v0:=zeroValue0
 t3:=underlying3
 a3:=isAgg3
 z3:=sizeOf3
 v3:=zeroValue3
 t4:=underlying4
 a4:=isAgg4
 z4:=sizeOf4
 v4:=zeroValue4
 t5:=underlying5
 a5:=isAgg5
 z5:=sizeOf5
 v5:=zeroValue5
 t9:=underlying9
 a9:=isAgg9
 z9:=sizeOf9
 v9:=zeroValue9
 t22:=underlying128
 a22:=isAgg128
 z22:=sizeOf128
 v22:=zeroValue128
 t25:=underlying235
 a25:=isAgg235
 z25:=sizeOf235
 v25:=zeroValue235
 t39:=underlying194
 a39:=isAgg194
 z39:=sizeOf194
 v39:=zeroValue194
 t45:=underlying321
 a45:=isAgg321
 z45:=sizeOf321
 v45:=zeroValue321
 t46:=underlying322
 a46:=isAgg322
 z46:=sizeOf322
 v46:=zeroValue322
 t50:=underlying135
 a50:=isAgg135
 z50:=sizeOf135
 v50:=zeroValue135
 t53:=underlying192
 a53:=isAgg192
 z53:=sizeOf192
 v53:=zeroValue192
 t55:=underlying152
 a55:=isAgg152
 z55:=sizeOf152
 v55:=zeroValue152
 t66:=underlying346
 a66:=isAgg346
 z66:=sizeOf346
 v66:=zeroValue346
 t70:=underlying350
 a70:=isAgg350
 z70:=sizeOf350
 v70:=zeroValue350
 t76:=underlying380
 a76:=isAgg380
 z76:=sizeOf380
 v76:=zeroValue380
 t77:=underlying176
 a77:=isAgg176
 z77:=sizeOf176
 v77:=zeroValue176 }
end Go.Proofs
