import Derived.Shelf.SlSortCmp.WholeK
import Derived.Ground.SlsfProg
import Derived.Shelf.SlGeneric
import Derived.Test.YtjohgekljmhheaaGreatDoorProg
namespace Go.Proofs
open Tryz
open Go.Shelf
def Tryz.sortQ_ren: Go.Shelf.Ren:=⟨fun|6=>110|15=>161|14=>160|28=>211|29=>212|20=>203|21=>204|22=>205|23=>206|24=>207|25=>208|26=>209|27=>210|46=>253|47=>254|48=>255|49=>256|50=>257|57=>289|n=>n,fun|22=>82|24=>123|25=>182|3=>3|39=>237|0=>0|53=>294|55=>296|4=>4|46=>288|45=>287|50=>93|5=>5|9=>9|66=>330|70=>334|76=>365|77=>163|n=>n,fun|n=>n⟩
theorem Tryz.sortQ: Go.Proofs.SlLaysF0.n6 prog sortQ_ren:={
 mixed:=by kernel_rfl
 f6:=⟨f110.name,by decide,func110.trans (congrArg some (by kernel_rfl))⟩
 f14:=⟨f160.name,by decide,func160.trans (congrArg some (by kernel_rfl))⟩
 f15:=func161.trans (congrArg some (by kernel_rfl))
 f20:=⟨f203.name,by decide,func203.trans (congrArg some (by kernel_rfl))⟩
 f21:=⟨f204.name,by decide,func204.trans (congrArg some (by kernel_rfl))⟩
 f22:=⟨f205.name,by decide,func205.trans (congrArg some (by kernel_rfl))⟩
 f23:=⟨f206.name,by decide,func206.trans (congrArg some (by kernel_rfl))⟩
 f24:=⟨f207.name,by decide,func207.trans (congrArg some (by kernel_rfl))⟩
 f25:=⟨f208.name,by decide,func208.trans (congrArg some (by kernel_rfl))⟩
 f26:=⟨f209.name,by decide,func209.trans (congrArg some (by kernel_rfl))⟩
 f27:=⟨f210.name,by decide,func210.trans (congrArg some (by kernel_rfl))⟩
 f28:=func211.trans (congrArg some (by kernel_rfl))
 f29:=func212.trans (congrArg some (by kernel_rfl))
 f46:=⟨f253.name,by decide,func253.trans (congrArg some (by kernel_rfl))⟩
 f47:=func254.trans (congrArg some (by kernel_rfl))
 f48:=func255.trans (congrArg some (by kernel_rfl))
 f49:=⟨f256.name,by decide,func256.trans (congrArg some (by kernel_rfl))⟩
 f50:=⟨f257.name,by decide,func257.trans (congrArg some (by kernel_rfl))⟩
 f57:=⟨f289.name,by decide,func289.trans (congrArg some (by kernel_rfl))⟩
 t0:=underlying0
 a0:=isAgg0
 z0:=sizeOf0
 v0:=zeroValue0
 t3:=underlying3
 a3:=isAgg3
 z3:=sizeOf3
 v3:=zeroValue3
 t4:=underlying4
 a4:=isAgg4
 z4:=sizeOf4
 v4:=zeroValue4
 t5:=underlying5
 a5:=isAgg5
 z5:=sizeOf5
 v5:=zeroValue5
 t9:=underlying9
 a9:=isAgg9
 z9:=sizeOf9
 v9:=zeroValue9
 t22:=underlying82
 a22:=isAgg82
 z22:=sizeOf82
 v22:=zeroValue82
 t25:=underlying182
 a25:=isAgg182
 z25:=sizeOf182
 v25:=zeroValue182
 t39:=underlying237
 a39:=isAgg237
 z39:=sizeOf237
 v39:=zeroValue237
 t45:=underlying287
 a45:=isAgg287
 z45:=sizeOf287
 v45:=zeroValue287
 t46:=underlying288
 a46:=isAgg288
 z46:=sizeOf288
 v46:=zeroValue288
 t50:=underlying93
 a50:=isAgg93
 z50:=sizeOf93
 v50:=zeroValue93
 t53:=underlying294
 a53:=isAgg294
 z53:=sizeOf294
 v53:=zeroValue294
 t55:=underlying296
 a55:=isAgg296
 z55:=sizeOf296
 v55:=zeroValue296
 t66:=underlying330
 a66:=isAgg330
 z66:=sizeOf330
 v66:=zeroValue330
 t70:=underlying334
 a70:=isAgg334
 z70:=sizeOf334
 v70:=zeroValue334
 t76:=underlying365
 a76:=isAgg365
 z76:=sizeOf365
 v76:=zeroValue365
 t77:=underlying163
 a77:=isAgg163
 z77:=sizeOf163
 v77:=zeroValue163 }
end Go.Proofs
