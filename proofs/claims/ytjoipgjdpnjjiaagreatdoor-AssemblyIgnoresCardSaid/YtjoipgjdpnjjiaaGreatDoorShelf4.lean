import Derived.Shelf.SlSortCmp.WholeK
import Derived.Ground.SlsfProg
import Derived.Shelf.SlGeneric
import Derived.Test.YtjoipgjdpnjjiaaGreatDoorProg
namespace Go.Proofs
open Tryz
open Go.Shelf
def Tryz.sortQ_ren: Go.Shelf.Ren:=⟨fun|6=>162|15=>209|14=>208|28=>246|29=>247|20=>238|21=>239|22=>240|23=>241|24=>242|25=>243|26=>244|27=>245|46=>270|47=>271|48=>272|49=>273|50=>274|57=>306|n=>n,fun|22=>131|24=>174|25=>222|3=>3|39=>250|0=>0|53=>315|55=>317|4=>4|46=>309|45=>308|50=>138|5=>5|9=>9|66=>338|70=>342|76=>376|77=>170|n=>n,fun|n=>n⟩
theorem Tryz.sortQ: Go.Proofs.SlLaysF0.n6 prog sortQ_ren:={
 mixed:=by kernel_rfl
 f6:=⟨f162.name,by decide,func162.trans (congrArg some (by kernel_rfl))⟩
 f14:=⟨f208.name,by decide,func208.trans (congrArg some (by kernel_rfl))⟩
 f15:=func209.trans (congrArg some (by kernel_rfl))
 f20:=⟨f238.name,by decide,func238.trans (congrArg some (by kernel_rfl))⟩
 f21:=⟨f239.name,by decide,func239.trans (congrArg some (by kernel_rfl))⟩
 f22:=⟨f240.name,by decide,func240.trans (congrArg some (by kernel_rfl))⟩
 f23:=⟨f241.name,by decide,func241.trans (congrArg some (by kernel_rfl))⟩
 f24:=⟨f242.name,by decide,func242.trans (congrArg some (by kernel_rfl))⟩
 f25:=⟨f243.name,by decide,func243.trans (congrArg some (by kernel_rfl))⟩
 f26:=⟨f244.name,by decide,func244.trans (congrArg some (by kernel_rfl))⟩
 f27:=⟨f245.name,by decide,func245.trans (congrArg some (by kernel_rfl))⟩
 f28:=func246.trans (congrArg some (by kernel_rfl))
 f29:=func247.trans (congrArg some (by kernel_rfl))
 f46:=⟨f270.name,by decide,func270.trans (congrArg some (by kernel_rfl))⟩
 f47:=func271.trans (congrArg some (by kernel_rfl))
 f48:=func272.trans (congrArg some (by kernel_rfl))
 f49:=⟨f273.name,by decide,func273.trans (congrArg some (by kernel_rfl))⟩
 f50:=⟨f274.name,by decide,func274.trans (congrArg some (by kernel_rfl))⟩
 f57:=⟨f306.name,by decide,func306.trans (congrArg some (by kernel_rfl))⟩
 t0:=underlying0
 a0:=isAgg0
 z0:=sizeOf0
 v0:=zeroValue0
 t3:=underlying3
 a3:=isAgg3
 z3:=sizeOf3
 v3:=zeroValue3
 t4:=underlying4
 a4:=isAgg4
 z4:=sizeOf4
 v4:=zeroValue4
 t5:=underlying5
 a5:=isAgg5
 z5:=sizeOf5
 v5:=zeroValue5
 t9:=underlying9
 a9:=isAgg9
 z9:=sizeOf9
 v9:=zeroValue9
 t22:=underlying131
 a22:=isAgg131
 z22:=sizeOf131
 v22:=zeroValue131
 t25:=underlying222
 a25:=isAgg222
 z25:=sizeOf222
 v25:=zeroValue222
 t39:=underlying250
 a39:=isAgg250
 z39:=sizeOf250
 v39:=zeroValue250
 t45:=underlying308
 a45:=isAgg308
 z45:=sizeOf308
 v45:=zeroValue308
 t46:=underlying309
 a46:=isAgg309
 z46:=sizeOf309
 v46:=zeroValue309
 t50:=underlying138
 a50:=isAgg138
 z50:=sizeOf138
 v50:=zeroValue138
 t53:=underlying315
 a53:=isAgg315
 z53:=sizeOf315
 v53:=zeroValue315
 t55:=underlying317
 a55:=isAgg317
 z55:=sizeOf317
 v55:=zeroValue317
 t66:=underlying338
 a66:=isAgg338
 z66:=sizeOf338
 v66:=zeroValue338
 t70:=underlying342
 a70:=isAgg342
 z70:=sizeOf342
 v70:=zeroValue342
 t76:=underlying376
 a76:=isAgg376
 z76:=sizeOf376
 v76:=zeroValue376
 t77:=underlying170
 a77:=isAgg170
 z77:=sizeOf170
 v77:=zeroValue170 }
end Go.Proofs
