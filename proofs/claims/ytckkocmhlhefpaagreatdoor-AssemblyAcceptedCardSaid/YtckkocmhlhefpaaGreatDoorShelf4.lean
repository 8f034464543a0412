import Derived.Shelf.SlSortCmp.WholeK
import Derived.Ground.SlsfProg
import Derived.Shelf.SlGeneric
import Derived.Test.YtckkocmhlhefpaaGreatDoorProg
namespace Go.Proofs
open Tryz
open Go.Shelf
def Tryz.sortQ_ren: Go.Shelf.Ren:=⟨fun|6=>119|15=>169|14=>168|28=>217|29=>218|20=>209|21=>210|22=>211|23=>212|24=>213|25=>214|26=>215|27=>216|46=>249|47=>250|48=>251|49=>252|50=>253|57=>282|n=>n,fun|22=>81|24=>134|25=>189|3=>3|39=>243|0=>0|53=>298|55=>300|4=>4|46=>292|45=>291|50=>173|5=>5|9=>9|66=>326|70=>330|76=>356|77=>148|n=>n,fun|n=>n⟩
theorem Tryz.sortQ: Go.Proofs.SlLaysF0.n6 prog sortQ_ren:={
 mixed:=by kernel_rfl
 f6:=⟨f119.name,by decide,func119.trans (congrArg some (by kernel_rfl))⟩
 f14:=⟨f168.name,by decide,func168.trans (congrArg some (by kernel_rfl))⟩
 f15:=func169.trans (congrArg some (by kernel_rfl))
 f20:=⟨f209.name,by decide,func209.trans (congrArg some (by kernel_rfl))⟩
 f21:=⟨f210.name,by decide,func210.trans (congrArg some (by kernel_rfl))⟩
 f22:=⟨f211.name,by decide,func211.trans (congrArg some (by kernel_rfl))⟩
 f23:=⟨f212.name,by decide,func212.trans (congrArg some (by kernel_rfl))⟩
 f24:=⟨f213.name,by decide,func213.trans (congrArg some (by kernel_rfl))⟩
 f25:=⟨f214.name,by decide,func214.trans (congrArg some (by kernel_rfl))⟩
 f26:=⟨f215.name,by decide,func215.trans (congrArg some (by kernel_rfl))⟩
 f27:=⟨f216.name,by decide,func216.trans (congrArg some (by kernel_rfl))⟩
 f28:=func217.trans (congrArg some (by kernel_rfl))
 f29:=func218.trans (congrArg some (by kernel_rfl))
 f46:=⟨f249.name,by decide,func249.trans (congrArg some (by kernel_rfl))⟩
 f47:=func250.trans (congrArg some (by kernel_rfl))
 f48:=func251.trans (congrArg some (by kernel_rfl))
 f49:=⟨f252.name,by decide,func252.trans (congrArg some (by kernel_rfl))⟩
 f50:=⟨f253.name,by decide,func253.trans (congrArg some (by kernel_rfl))⟩
 f57:=⟨f282.name,by decide,func282.trans (congrArg some (by kernel_rfl))⟩
 t0:=underlying0
 a0:=isAgg0
 z0:=sizeOf0
 v0:=zeroValue0
 t3:=underlying3
 a3:=isAgg3
 z3:=sizeOf3
 v3:=zeroValue3
 t4:=underlying4
 a4:=isAgg4
 z4:=sizeOf4
 v4:=zeroValue4
 t5:=underlying5
 a5:=isAgg5
 z5:=sizeOf5
 v5:=zeroValue5
 t9:=underlying9
 a9:=isAgg9
 z9:=sizeOf9
 v9:=zeroValue9
 t22:=underlying81
 a22:=isAgg81
 z22:=sizeOf81
 v22:=zeroValue81
 t25:=underlying189
 a25:=isAgg189
 z25:=sizeOf189
 v25:=zeroValue189
 t39:=underlying243
 a39:=isAgg243
 z39:=sizeOf243
 v39:=zeroValue243
 t45:=underlying291
 a45:=isAgg291
 z45:=sizeOf291
 v45:=zeroValue291
 t46:=underlying292
 a46:=isAgg292
 z46:=sizeOf292
 v46:=zeroValue292
 t50:=underlying173
 a50:=isAgg173
 z50:=sizeOf173
 v50:=zeroValue173
 t53:=underlying298
 a53:=isAgg298
 z53:=sizeOf298
 v53:=zeroValue298
 t55:=underlying300
 a55:=isAgg300
 z55:=sizeOf300
 v55:=zeroValue300
 t66:=underlying326
 a66:=isAgg326
 z66:=sizeOf326
 v66:=zeroValue326
 t70:=underlying330
 a70:=isAgg330
 z70:=sizeOf330
 v70:=zeroValue330
 t76:=underlying356
 a76:=isAgg356
 z76:=sizeOf356
 v76:=zeroValue356
 t77:=underlying148
 a77:=isAgg148
 z77:=sizeOf148
 v77:=zeroValue148 }
end Go.Proofs
