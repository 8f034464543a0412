import Derived.Shelf.Strings.IndexAnyAll
import Derived.Shelf.Strings.IndexAny
import Derived.Shelf.Strings.Runes
import Derived.Shelf.Strconv.Itoa3
import Derived.Shelf.LaysM
import Derived.Shelf.Small.Wraps
import Derived.Test.YtjohgekljmhheaaGreatDoorProg
namespace Go.Proofs
open Tryz
open Go.Shelf
def Tryz.laysM171_ren: Go.Shelf.Ren:=⟨fun|171=>119|243=>170|246=>221|283=>263|284=>264|285=>265|286=>266|129=>212|317=>292|318=>293|319=>294|320=>295|337=>320|338=>321|n=>n,fun|3=>3|9=>9|2=>2|4=>4|171=>344|0=>0|53=>296|37=>67|5=>5|173=>346|212=>372|51=>294|20=>20|213=>373|46=>237|232=>405|233=>406|n=>n,fun|17=>4|18=>7|19=>8|n=>n⟩
theorem Tryz.laysM171: Go.Proofs.LaysM.n171 prog laysM171_ren:={
 mixed:=by kernel_rfl
 f129:=func212.trans (congrArg some (by kernel_rfl))
 f171:=func119.trans (congrArg some (by kernel_rfl))
 f243:=func170.trans (congrArg some (by kernel_rfl))
 f246:=func221.trans (congrArg some (by kernel_rfl))
 f283:=func263.trans (congrArg some (by kernel_rfl))
 f284:=func264.trans (congrArg some (by kernel_rfl))
 f285:=func265.trans (congrArg some (by kernel_rfl))
 f286:=func266.trans (congrArg some (by kernel_rfl))
 f317:=func292.trans (congrArg some (by kernel_rfl))
 f318:=func293.trans (congrArg some (by kernel_rfl))
 f319:=func294.trans (congrArg some (by kernel_rfl))
 f320:=func295.trans (congrArg some (by kernel_rfl))
 f337:=func320.trans (congrArg some (by kernel_rfl))
 f338:=func321.trans (congrArg some (by kernel_rfl))
 t0:=underlying0
 a0:=isAgg0
 z0:=sizeOf0
 v0:=zeroValue0
 t2:=underlying2
 a2:=isAgg2
 z2:=sizeOf2
 v2:=zeroValue2
 t3:=underlying3
 a3:=isAgg3
 z3:=sizeOf3
 v3:=zeroValue3
 t4:=underlying4
 a4:=isAgg4
 z4:=sizeOf4
 v4:=zeroValue4
 t5:=underlying5
 a5:=isAgg5
 z5:=sizeOf5
 v5:=zeroValue5
 t9:=underlying9
 a9:=isAgg9
 z9:=sizeOf9
 v9:=zeroValue9
 t20:=underlying20
 a20:=isAgg20
 z20:=sizeOf20
 v20:=zeroValue20
 t37:=underlying67
 a37:=isAgg67
 z37:=sizeOf67
 v37:=zeroValue67
 t46:=underlying237
 a46:=isAgg237
 z46:=sizeOf237
 v46:=zeroValue237
 t51:=underlying294
 a51:=isAgg294
 z51:=sizeOf294
 v51:=zeroValue294
 t53:=underlying296
 a53:=isAgg296
 z53:=sizeOf296
 v53:=zeroValue296
 t171:=underlying344
 a171:=isAgg344
 z171:=sizeOf344
 v171:=zeroValue344
 t173:=underlying346
 a173:=isAgg346
 z173:=sizeOf346
 v173:=zeroValue346
 t212:=underlying372
 a212:=isAgg372
 z212:=sizeOf372
 v212:=zeroValue372
 t213:=underlying373
 a213:=isAgg373
 z213:=sizeOf373
 t232:=underlying405
 a232:=isAgg405
 z232:=sizeOf405
 v232:=zeroValue405
 t233:=underlying406
 a233:=isAgg406
 z233:=sizeOf406
 v233:=zeroValue406
 g17:=by kernel_rfl
 g18:=by kernel_rfl
 g19:=by kernel_rfl
 i0:=by kernel_rfl
 i2:=by kernel_rfl
 i3:=by kernel_rfl
 i4:=by kernel_rfl
 i5:=by kernel_rfl
 i9:=by kernel_rfl
 i20:=by kernel_rfl
 i37:=by kernel_rfl
 i46:=by kernel_rfl
 i51:=by kernel_rfl
 i53:=by kernel_rfl
 i171:=by kernel_rfl
 i173:=by kernel_rfl
 i212:=by kernel_rfl
 i232:=by kernel_rfl
 i233:=by kernel_rfl
 m17:=by kernel_rfl
 m18:=by kernel_rfl
 m19:=by kernel_rfl }
open Go.RowKit Go.Sort Go.Lib in
theorem Tryz.strconv_Itoa(n:Int) (h0:-9223372036854775808<=n) (h1:n<=9223372036854775807) (w:World) (htab:Lib.TabIs prog w "internal/strconv.uint64pow10" .u64 Lib.pow10Tab):
 Calls prog 119 #[.int .i64 n] w fun e w'=>e=.returned (.string ⟨(Lib.itoa n).toArray⟩)/\∃ k os,w'=grow (w.drewN k) os:=Any.strconv_Itoa laysM171 n h0 h1 w htab
def Tryz.lays152_ren: Go.Shelf.Ren:=⟨fun|152=>322|137=>333|119=>334|224=>335|225=>336|217=>337|266=>340|n=>n,fun|9=>9|21=>21|3=>3|4=>4|5=>5|0=>0|46=>237|n=>n,fun|n=>n⟩
theorem Tryz.lays152: Go.Proofs.Lays.n152 prog lays152_ren:={
 mixed:=by kernel_rfl
 f119:=func334.trans (congrArg some (by kernel_rfl))
 f137:=func333.trans (congrArg some (by kernel_rfl))
 f152:=func322.trans (congrArg some (by kernel_rfl))
 f217:=func337.trans (congrArg some (by kernel_rfl))
 f224:=func335.trans (congrArg some (by kernel_rfl))
 f225:=func336.trans (congrArg some (by kernel_rfl))
 f266:=func340.trans (congrArg some (by kernel_rfl))
 t0:=underlying0
 a0:=isAgg0
 z0:=sizeOf0
 v0:=zeroValue0
 t3:=underlying3
 a3:=isAgg3
 z3:=sizeOf3
 v3:=zeroValue3
 t4:=underlying4
 a4:=isAgg4
 z4:=sizeOf4
 v4:=zeroValue4
 t5:=underlying5
 a5:=isAgg5
 z5:=sizeOf5
 v5:=zeroValue5
 t9:=underlying9
 a9:=isAgg9
 z9:=sizeOf9
 v9:=zeroValue9
 t21:=underlying21
 a21:=isAgg21
 z21:=sizeOf21
 v21:=zeroValue21
 t46:=underlying237
 a46:=isAgg237
 z46:=sizeOf237
 v46:=zeroValue237 }
open Go.RowKit Go.Lib in
theorem Tryz.strings_IndexRune_ascii(s:ByteArray) (r:Int) (w:World) (h0:0<=r) (h1:r<128):
 Calls prog 322 #[.string s,.int .i32 r] w fun e w'=>e=.returned (.int .i64 (Lib.indexByte s.data.toList r.toNat.toUInt8))/\w'=w:=Any.strings_IndexRune_ascii lays152 s r w h0 h1
def Tryz.lays226_ren: Go.Shelf.Ren:=⟨fun|226=>323|n=>n,fun|3=>3|4=>4|n=>n,fun|n=>n⟩
theorem Tryz.lays226: Go.Proofs.Lays.n226 prog lays226_ren:={
 mixed:=by kernel_rfl
 f226:=func323.trans (congrArg some (by kernel_rfl))
 t3:=underlying3
 a3:=isAgg3
 z3:=sizeOf3
 v3:=zeroValue3
 t4:=underlying4
 a4:=isAgg4
 z4:=sizeOf4
 v4:=zeroValue4 }
open Go.RowKit Go.Lib in
theorem Tryz.strings_shouldUseASCIISet(n:Int) (w:World):
 Calls prog 323 #[.int .i64 n] w fun e w'=>e=.returned (.bool (decide (8<n)))/\w'=w:=Any.strings_shouldUseASCIISet lays226 n w
def Tryz.lays153_ren: Go.Shelf.Ren:=⟨fun|153=>300|152=>322|226=>323|227=>324|228=>325|137=>333|119=>334|224=>335|225=>336|217=>337|266=>340|n=>n,fun|9=>9|3=>3|4=>4|5=>5|21=>21|117=>398|116=>397|0=>0|46=>237|124=>408|n=>n,fun|n=>n⟩
theorem Tryz.lays153: Go.Proofs.Lays.n153 prog lays153_ren:={
 mixed:=by kernel_rfl
 f119:=func334.trans (congrArg some (by kernel_rfl))
 f137:=func333.trans (congrArg some (by kernel_rfl))
 f152:=func322.trans (congrArg some (by kernel_rfl))
 f153:=func300.trans (congrArg some (by kernel_rfl))
 f217:=func337.trans (congrArg some (by kernel_rfl))
 f224:=func335.trans (congrArg some (by kernel_rfl))
 f225:=func336.trans (congrArg some (by kernel_rfl))
 f226:=func323.trans (congrArg some (by kernel_rfl))
 f227:=func324.trans (congrArg some (by kernel_rfl))
 f228:=func325.trans (congrArg some (by kernel_rfl))
 f266:=func340.trans (congrArg some (by kernel_rfl))
 t0:=underlying0
 a0:=isAgg0
 z0:=sizeOf0
 v0:=zeroValue0
 t3:=underlying3
 a3:=isAgg3
 z3:=sizeOf3
 v3:=zeroValue3
 t4:=underlying4
 a4:=isAgg4
 z4:=sizeOf4
 v4:=zeroValue4
 t5:=underlying5
 a5:=isAgg5
 z5:=sizeOf5
 v5:=zeroValue5
 t9:=underlying9
 a9:=isAgg9
 z9:=sizeOf9
 v9:=zeroValue9
 t21:=underlying21
 a21:=isAgg21
 z21:=sizeOf21
 v21:=zeroValue21
 t46:=underlying237
 a46:=isAgg237
 z46:=sizeOf237
 v46:=zeroValue237
 t116:=underlying397
 a116:=isAgg397
 z116:=sizeOf397
 t117:=underlying398
 a117:=isAgg398
 z117:=sizeOf398
 v117:=zeroValue398
 t124:=underlying408
 a124:=isAgg408
 z124:=sizeOf408
 v124:=zeroValue408 }
open Go.RowKit Go.Lib in
theorem Tryz.strings_IndexAny_none(s chars:ByteArray) (w:World) (h0:chars.size=0):
 Calls prog 300 #[.string s,.string chars] w fun e w'=>e=.returned (.int .i64 (Lib.indexAny s.data.toList chars.data.toList))/\w'=w:=Any.strings_IndexAny_none lays153 s chars w h0
open Go.RowKit Go.Lib in
theorem Tryz.strings_IndexAny_one(s chars:ByteArray) (w:World) (h1:chars.size=1) (hascii:∀ (j:Nat) b,chars.data.toList[j]?=some b->b.toNat<128):
 Calls prog 300 #[.string s,.string chars] w fun e w'=>e=.returned (.int .i64 (Lib.indexAny s.data.toList chars.data.toList))/\w'=w:=Any.strings_IndexAny_one lays153 s chars w h1 hascii
open Go.RowKit Go.Lib in
theorem Tryz.strings_IndexAny_long(hv116:∀ w,(zeroValue 397).run prog w=.ok (.agg (Array.replicate 256 (.bool false))) w) (s chars:ByteArray) (w:World) (h2:2<=chars.size) (h8:8<s.size) (hs:s.size<4294967281) (hcs:chars.size<4294967281) (hascii:∀ (j:Nat) b,chars.data.toList[j]?=some b->b.toNat<128):
 Calls prog 300 #[.string s,.string chars] w fun e w'=>e=.returned (.int .i64 (Lib.indexAny s.data.toList chars.data.toList))/\w'=((w.alloc (.cells (Lib.setCells chars.data.toList) 397)).alloc (.cells (Lib.setCells chars.data.toList) 397)):=Any.strings_IndexAny_long lays153 hv116 (by kernel_rfl) s chars w h2 h8 hs hcs hascii
open Go.RowKit Go.Lib in
theorem Tryz.strings_IndexAny(hv116:∀ w,(zeroValue 397).run prog w=.ok (.agg (Array.replicate 256 (.bool false))) w) (s chars:ByteArray) (w:World) (hs:s.size<4294967281) (hcs:chars.size<4294967281) (has:∀ (j:Nat) b,s.data.toList[j]?=some b->b.toNat<128) (hac:∀ (j:Nat) b,chars.data.toList[j]?=some b->b.toNat<128):
 Calls prog 300 #[.string s,.string chars] w fun e w'=>e=.returned (.int .i64 (Lib.indexAny s.data.toList chars.data.toList))/\Below w.heap.size w w':=Any.strings_IndexAny lays153 hv116 (by kernel_rfl) s chars w hs hcs has hac
end Go.Proofs
