import Derived.Shelf.Strings.IndexAnyAll
import Derived.Shelf.Strings.IndexAny
import Derived.Shelf.Strings.Runes
import Derived.Shelf.Strconv.Itoa3
import Derived.Shelf.LaysM
import Derived.Shelf.Small.Wraps
import Derived.Test.YtifphhgcelkflaaGreatDoorProg
namespace Go.Proofs
open Tryz
open Go.Shelf
def Tryz.laysM171_ren: Go.Shelf.Ren:=⟨fun|171=>9|243=>20|246=>42|283=>83|284=>84|285=>85|286=>86|129=>125|317=>124|318=>126|319=>127|320=>128|337=>183|338=>184|n=>n,fun|3=>3|9=>9|2=>2|4=>4|171=>151|0=>0|53=>152|37=>155|5=>5|173=>156|212=>191|51=>192|20=>20|213=>193|46=>194|232=>297|233=>298|n=>n,fun|17=>0|18=>1|19=>2|n=>n⟩
theorem Tryz.laysM171: Go.Proofs.LaysM.n171 prog laysM171_ren:={
 mixed:=by kernel_rfl
 f129:=func125.trans (congrArg some (by kernel_rfl))
 f171:=func9.trans (congrArg some (by kernel_rfl))
 f243:=func20.trans (congrArg some (by kernel_rfl))
 f246:=func42.trans (congrArg some (by kernel_rfl))
 f283:=func83.trans (congrArg some (by kernel_rfl))
 f284:=func84.trans (congrArg some (by kernel_rfl))
 f285:=func85.trans (congrArg some (by kernel_rfl))
 f286:=func86.trans (congrArg some (by kernel_rfl))
 f317:=func124.trans (congrArg some (by kernel_rfl))
 f318:=func126.trans (congrArg some (by kernel_rfl))
 f319:=func127.trans (congrArg some (by kernel_rfl))
 f320:=func128.trans (congrArg some (by kernel_rfl))
 f337:=func183.trans (congrArg some (by kernel_rfl))
 f338:=func184.trans (congrArg some (by kernel_rfl))
 t0:=underlying0
 a0:=isAgg0
 z0:=sizeOf0
 v0:=zeroValue0
 t2:=underlying2
 a2:=isAgg2
 z2:=sizeOf2
 v2:=zeroValue2
 t3:=underlying3
 a3:=isAgg3
 z3:=sizeOf3
 v3:=zeroValue3
 t4:=underlying4
 a4:=isAgg4
 z4:=sizeOf4
 v4:=zeroValue4
 t5:=underlying5
 a5:=isAgg5
 z5:=sizeOf5
 v5:=zeroValue5
 t9:=underlying9
 a9:=isAgg9
 z9:=sizeOf9
 v9:=zeroValue9
 t20:=underlying20
 a20:=isAgg20
 z20:=sizeOf20
 v20:=zeroValue20
 t37:=underlying155
 a37:=isAgg155
 z37:=sizeOf155
 v37:=zeroValue155
 t46:=underlying194
 a46:=isAgg194
 z46:=sizeOf194
 v46:=zeroValue194
 t51:=underlying192
 a51:=isAgg192
 z51:=sizeOf192
 v51:=zeroValue192
 t53:=underlying152
 a53:=isAgg152
 z53:=sizeOf152
 v53:=zeroValue152
 t171:=underlying151
 a171:=isAgg151
 z171:=sizeOf151
 v171:=zeroValue151
 t173:=underlying156
 a173:=isAgg156
 z173:=sizeOf156
 v173:=zeroValue156
 t212:=underlying191
 a212:=isAgg191
 z212:=sizeOf191
 v212:=zeroValue191
 t213:=underlying193
 a213:=isAgg193
 z213:=sizeOf193
 t232:=underlying297
 a232:=isAgg297
 z232:=sizeOf297
 v232:=zeroValue297
 t233:=underlying298
 a233:=isAgg298
 z233:=sizeOf298
 v233:=zeroValue298
 g17:=by kernel_rfl
 g18:=by kernel_rfl
 g19:=by kernel_rfl
 i0:=by kernel_rfl
 i2:=by kernel_rfl
 i3:=by kernel_rfl
 i4:=by kernel_rfl
 i5:=by kernel_rfl
 i9:=by kernel_rfl
 i20:=by kernel_rfl
 i37:=by kernel_rfl
 i46:=by kernel_rfl
 i51:=by kernel_rfl
 i53:=by kernel_rfl
 i171:=by kernel_rfl
 i173:=by kernel_rfl
 i212:=by kernel_rfl
 i232:=by kernel_rfl
 i233:=by kernel_rfl
 m17:=by kernel_rfl
 m18:=by kernel_rfl
 m19:=by kernel_rfl }
open Go.RowKit Go.Sort Go.Lib in
theorem Tryz.strconv_Itoa(n:Int) (h0:-9223372036854775808<=n) (h1:n<=9223372036854775807) (w:World) (htab:Lib.TabIs prog w "internal/strconv.uint64pow10" .u64 Lib.pow10Tab):
 Calls prog 9 #[.int .i64 n] w fun e w'=>e=.returned (.string ⟨(Lib.itoa n).toArray⟩)/\∃ k os,w'=grow (w.drewN k) os:=Any.strconv_Itoa laysM171 n h0 h1 w htab
def Tryz.lays152_ren: Go.Shelf.Ren:=⟨fun|152=>286|137=>311|119=>312|224=>313|225=>314|217=>315|266=>336|n=>n,fun|9=>9|21=>21|3=>3|4=>4|5=>5|0=>0|46=>194|n=>n,fun|n=>n⟩
theorem Tryz.lays152: Go.Proofs.Lays.n152 prog lays152_ren:={
 mixed:=by kernel_rfl
 f119:=func312.trans (congrArg some (by kernel_rfl))
 f137:=func311.trans (congrArg some (by kernel_rfl))
 f152:=func286.trans (congrArg some (by kernel_rfl))
 f217:=func315.trans (congrArg some (by kernel_rfl))
 f224:=func313.trans (congrArg some (by kernel_rfl))
 f225:=func314.trans (congrArg some (by kernel_rfl))
 f266:=func336.trans (congrArg some (by kernel_rfl))
 t0:=underlying0
 a0:=isAgg0
 z0:=sizeOf0
 v0:=zeroValue0
 t3:=underlying3
 a3:=isAgg3
 z3:=sizeOf3
 v3:=zeroValue3
 t4:=underlying4
 a4:=isAgg4
 z4:=sizeOf4
 v4:=zeroValue4
 t5:=underlying5
 a5:=isAgg5
 z5:=sizeOf5
 v5:=zeroValue5
 t9:=underlying9
 a9:=isAgg9
 z9:=sizeOf9
 v9:=zeroValue9
 t21:=underlying21
 a21:=isAgg21
 z21:=sizeOf21
 v21:=zeroValue21
 t46:=underlying194
 a46:=isAgg194
 z46:=sizeOf194
 v46:=zeroValue194 }
open Go.RowKit Go.Lib in
theorem Tryz.strings_IndexRune_ascii(s:ByteArray) (r:Int) (w:World) (h0:0<=r) (h1:r<128):
 Calls prog 286 #[.string s,.int .i32 r] w fun e w'=>e=.returned (.int .i64 (Lib.indexByte s.data.toList r.toNat.toUInt8))/\w'=w:=Any.strings_IndexRune_ascii lays152 s r w h0 h1
def Tryz.lays226_ren: Go.Shelf.Ren:=⟨fun|226=>287|n=>n,fun|3=>3|4=>4|n=>n,fun|n=>n⟩
theorem Tryz.lays226: Go.Proofs.Lays.n226 prog lays226_ren:={
 mixed:=by kernel_rfl
 f226:=func287.trans (congrArg some (by kernel_rfl))
 t3:=underlying3
 a3:=isAgg3
 z3:=sizeOf3
 v3:=zeroValue3
 t4:=underlying4
 a4:=isAgg4
 z4:=sizeOf4
 v4:=zeroValue4 }
open Go.RowKit Go.Lib in
theorem Tryz.strings_shouldUseASCIISet(n:Int) (w:World):
 Calls prog 287 #[.int .i64 n] w fun e w'=>e=.returned (.bool (decide (8<n)))/\w'=w:=Any.strings_shouldUseASCIISet lays226 n w
def Tryz.lays153_ren: Go.Shelf.Ren:=⟨fun|153=>263|152=>286|226=>287|227=>288|228=>289|137=>311|119=>312|224=>313|225=>314|217=>315|266=>336|n=>n,fun|9=>9|3=>3|4=>4|5=>5|21=>21|117=>361|116=>360|0=>0|46=>194|124=>387|n=>n,fun|n=>n⟩
theorem Tryz.lays153: Go.Proofs.Lays.n153 prog lays153_ren:={
 mixed:=by kernel_rfl
 f119:=func312.trans (congrArg some (by kernel_rfl))
 f137:=func311.trans (congrArg some (by kernel_rfl))
 f152:=func286.trans (congrArg some (by kernel_rfl))
 f153:=func263.trans (congrArg some (by kernel_rfl))
 f217:=func315.trans (congrArg some (by kernel_rfl))
 f224:=func313.trans (congrArg some (by kernel_rfl))
 f225:=func314.trans (congrArg some (by kernel_rfl))
 f226:=func287.trans (congrArg some (by kernel_rfl))
 f227:=func288.trans (congrArg some (by kernel_rfl))
 f228:=func289.trans (congrArg some (by kernel_rfl))
 f266:=func336.trans (congrArg some (by kernel_rfl))
 t0:=underlying0
 a0:=isAgg0
 z0:=sizeOf0
 v0:=zeroValue0
 t3:=underlying3
 a3:=isAgg3
 z3:=sizeOf3
 v3:=zeroValue3
 t4:=underlying4
 a4:=isAgg4
 z4:=sizeOf4
 v4:=zeroValue4
 t5:=underlying5
 a5:=isAgg5
 z5:=sizeOf5
 v5:=zeroValue5
 t9:=underlying9
 a9:=isAgg9
 z9:=sizeOf9
 v9:=zeroValue9
 t21:=underlying21
 a21:=isAgg21
 z21:=sizeOf21
 v21:=zeroValue21
 t46:=underlying194
 a46:=isAgg194
 z46:=sizeOf194
 v46:=zeroValue194
 t116:=underlying360
 a116:=isAgg360
 z116:=sizeOf360
 t117:=underlying361
 a117:=isAgg361
 z117:=sizeOf361
 v117:=zeroValue361
 t124:=underlying387
 a124:=isAgg387
 z124:=sizeOf387
 v124:=zeroValue387 }
open Go.RowKit Go.Lib in
theorem Tryz.strings_IndexAny_none(s chars:ByteArray) (w:World) (h0:chars.size=0):
 Calls prog 263 #[.string s,.string chars] w fun e w'=>e=.returned (.int .i64 (Lib.indexAny s.data.toList chars.data.toList))/\w'=w:=Any.strings_IndexAny_none lays153 s chars w h0
open Go.RowKit Go.Lib in
theorem Tryz.strings_IndexAny_one(s chars:ByteArray) (w:World) (h1:chars.size=1) (hascii:∀ (j:Nat) b,chars.data.toList[j]?=some b->b.toNat<128):
 Calls prog 263 #[.string s,.string chars] w fun e w'=>e=.returned (.int .i64 (Lib.indexAny s.data.toList chars.data.toList))/\w'=w:=Any.strings_IndexAny_one lays153 s chars w h1 hascii
open Go.RowKit Go.Lib in
theorem Tryz.strings_IndexAny_long(hv116:∀ w,(zeroValue 360).run prog w=.ok (.agg (Array.replicate 256 (.bool false))) w) (s chars:ByteArray) (w:World) (h2:2<=chars.size) (h8:8<s.size) (hs:s.size<4294967281) (hcs:chars.size<4294967281) (hascii:∀ (j:Nat) b,chars.data.toList[j]?=some b->b.toNat<128):
 Calls prog 263 #[.string s,.string chars] w fun e w'=>e=.returned (.int .i64 (Lib.indexAny s.data.toList chars.data.toList))/\w'=((w.alloc (.cells (Lib.setCells chars.data.toList) 360)).alloc (.cells (Lib.setCells chars.data.toList) 360)):=Any.strings_IndexAny_long lays153 hv116 (by kernel_rfl) s chars w h2 h8 hs hcs hascii
open Go.RowKit Go.Lib in
theorem Tryz.strings_IndexAny(hv116:∀ w,(zeroValue 360).run prog w=.ok (.agg (Array.replicate 256 (.bool false))) w) (s chars:ByteArray) (w:World) (hs:s.size<4294967281) (hcs:chars.size<4294967281) (has:∀ (j:Nat) b,s.data.toList[j]?=some b->b.toNat<128) (hac:∀ (j:Nat) b,chars.data.toList[j]?=some b->b.toNat<128):
 Calls prog 263 #[.string s,.string chars] w fun e w'=>e=.returned (.int .i64 (Lib.indexAny s.data.toList chars.data.toList))/\Below w.heap.size w w':=Any.strings_IndexAny lays153 hv116 (by kernel_rfl) s chars w hs hcs has hac
end Go.Proofs
