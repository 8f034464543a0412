import Derived.Shelf.Strings.IndexAnyAll
import Derived.Shelf.Strings.IndexAny
import Derived.Shelf.Strings.Runes
import Derived.Shelf.Strconv.Itoa3
import Derived.Shelf.LaysM
import Derived.Shelf.Small.Wraps
import Derived.Test.YtjoipgjdpnjjiaaGreatDoorProg
namespace Go.Proofs
open Tryz
open Go.Shelf
def Tryz.laysM171_ren: Go.Shelf.Ren:=⟨fun|171=>165|243=>211|246=>248|283=>275|284=>276|285=>277|286=>278|129=>247|317=>307|318=>308|319=>309|320=>310|337=>336|338=>337|n=>n,fun|3=>3|9=>9|2=>2|4=>4|171=>344|0=>0|53=>317|37=>69|5=>5|173=>346|212=>379|51=>315|20=>20|213=>380|46=>250|232=>411|233=>412|n=>n,fun|17=>4|18=>7|19=>8|n=>n⟩
theorem Tryz.laysM171: Go.Proofs.LaysM.n171 prog laysM171_ren:={
 mixed:=by kernel_rfl
 f129:=func247.trans (congrArg some (by kernel_rfl))
 f171:=func165.trans (congrArg some (by kernel_rfl))
 f243:=func211.trans (congrArg some (by kernel_rfl))
 f246:=func248.trans (congrArg some (by kernel_rfl))
 f283:=func275.trans (congrArg some (by kernel_rfl))
 f284:=func276.trans (congrArg some (by kernel_rfl))
 f285:=func277.trans (congrArg some (by kernel_rfl))
 f286:=func278.trans (congrArg some (by kernel_rfl))
 f317:=func307.trans (congrArg some (by kernel_rfl))
 f318:=func308.trans (congrArg some (by kernel_rfl))
 f319:=func309.trans (congrArg some (by kernel_rfl))
 f320:=func310.trans (congrArg some (by kernel_rfl))
 f337:=func336.trans (congrArg some (by kernel_rfl))
 f338:=func337.trans (congrArg some (by kernel_rfl))
 t0:=underlying0
 a0:=isAgg0
 z0:=sizeOf0
 v0:=zeroValue0
 t2:=underlying2
 a2:=isAgg2
 z2:=sizeOf2
 v2:=zeroValue2
 t3:=underlying3
 a3:=isAgg3
 z3:=sizeOf3
 v3:=zeroValue3
 t4:=underlying4
 a4:=isAgg4
 z4:=sizeOf4
 v4:=zeroValue4
 t5:=underlying5
 a5:=isAgg5
 z5:=sizeOf5
 v5:=zeroValue5
 t9:=underlying9
 a9:=isAgg9
 z9:=sizeOf9
 v9:=zeroValue9
 t20:=underlying20
 a20:=isAgg20
 z20:=sizeOf20
 v20:=zeroValue20
 t37:=underlying69
 a37:=isAgg69
 z37:=sizeOf69
 v37:=zeroValue69
 t46:=underlying250
 a46:=isAgg250
 z46:=sizeOf250
 v46:=zeroValue250
 t51:=underlying315
 a51:=isAgg315
 z51:=sizeOf315
 v51:=zeroValue315
 t53:=underlying317
 a53:=isAgg317
 z53:=sizeOf317
 v53:=zeroValue317
 t171:=underlying344
 a171:=isAgg344
 z171:=sizeOf344
 v171:=zeroValue344
 t173:=underlying346
 a173:=isAgg346
 z173:=sizeOf346
 v173:=zeroValue346
 t212:=underlying379
 a212:=isAgg379
 z212:=sizeOf379
 v212:=zeroValue379
 t213:=underlying380
 a213:=isAgg380
 z213:=sizeOf380
 t232:=underlying411
 a232:=isAgg411
 z232:=sizeOf411
 v232:=zeroValue411
 t233:=underlying412
 a233:=isAgg412
 z233:=sizeOf412
 v233:=zeroValue412
 g17:=by kernel_rfl
 g18:=by kernel_rfl
 g19:=by kernel_rfl
 i0:=by kernel_rfl
 i2:=by kernel_rfl
 i3:=by kernel_rfl
 i4:=by kernel_rfl
 i5:=by kernel_rfl
 i9:=by kernel_rfl
 i20:=by kernel_rfl
 i37:=by kernel_rfl
 i46:=by kernel_rfl
 i51:=by kernel_rfl
 i53:=by kernel_rfl
 i171:=by kernel_rfl
 i173:=by kernel_rfl
 i212:=by kernel_rfl
 i232:=by kernel_rfl
 i233:=by kernel_rfl
 m17:=by kernel_rfl
 m18:=by kernel_rfl
 m19:=by kernel_rfl }
open Go.RowKit Go.Sort Go.Lib in
theorem Tryz.strconv_Itoa(n:Int) (h0:-9223372036854775808<=n) (h1:n<=9223372036854775807) (w:World) (htab:Lib.TabIs prog w "internal/strconv.uint64pow10" .u64 Lib.pow10Tab):
 Calls prog 165 #[.int .i64 n] w fun e w'=>e=.returned (.string ⟨(Lib.itoa n).toArray⟩)/\∃ k os,w'=grow (w.drewN k) os:=Any.strconv_Itoa laysM171 n h0 h1 w htab
def Tryz.lays152_ren: Go.Shelf.Ren:=⟨fun|152=>282|137=>311|119=>312|224=>313|225=>314|217=>315|266=>338|n=>n,fun|9=>9|21=>21|3=>3|4=>4|5=>5|0=>0|46=>250|n=>n,fun|n=>n⟩
theorem Tryz.lays152: Go.Proofs.Lays.n152 prog lays152_ren:={
 mixed:=by kernel_rfl
 f119:=func312.trans (congrArg some (by kernel_rfl))
 f137:=func311.trans (congrArg some (by kernel_rfl))
 f152:=func282.trans (congrArg some (by kernel_rfl))
 f217:=func315.trans (congrArg some (by kernel_rfl))
 f224:=func313.trans (congrArg some (by kernel_rfl))
 f225:=func314.trans (congrArg some (by kernel_rfl))
 f266:=func338.trans (congrArg some (by kernel_rfl))
 t0:=underlying0
 a0:=isAgg0
 z0:=sizeOf0
 v0:=zeroValue0
 t3:=underlying3
 a3:=isAgg3
 z3:=sizeOf3
 v3:=zeroValue3
 t4:=underlying4
 a4:=isAgg4
 z4:=sizeOf4
 v4:=zeroValue4
 t5:=underlying5
 a5:=isAgg5
 z5:=sizeOf5
 v5:=zeroValue5
 t9:=underlying9
 a9:=isAgg9
 z9:=sizeOf9
 v9:=zeroValue9
 t21:=underlying21
 a21:=isAgg21
 z21:=sizeOf21
 v21:=zeroValue21
 t46:=underlying250
 a46:=isAgg250
 z46:=sizeOf250
 v46:=zeroValue250 }
open Go.RowKit Go.Lib in
theorem Tryz.strings_IndexRune_ascii(s:ByteArray) (r:Int) (w:World) (h0:0<=r) (h1:r<128):
 Calls prog 282 #[.string s,.int .i32 r] w fun e w'=>e=.returned (.int .i64 (Lib.indexByte s.data.toList r.toNat.toUInt8))/\w'=w:=Any.strings_IndexRune_ascii lays152 s r w h0 h1
def Tryz.lays226_ren: Go.Shelf.Ren:=⟨fun|226=>283|n=>n,fun|3=>3|4=>4|n=>n,fun|n=>n⟩
theorem Tryz.lays226: Go.Proofs.Lays.n226 prog lays226_ren:={
 mixed:=by kernel_rfl
 f226:=func283.trans (congrArg some (by kernel_rfl))
 t3:=underlying3
 a3:=isAgg3
 z3:=sizeOf3
 v3:=zeroValue3
 t4:=underlying4
 a4:=isAgg4
 z4:=sizeOf4
 v4:=zeroValue4 }
open Go.RowKit Go.Lib in
theorem Tryz.strings_shouldUseASCIISet(n:Int) (w:World):
 Calls prog 283 #[.int .i64 n] w fun e w'=>e=.returned (.bool (decide (8<n)))/\w'=w:=Any.strings_shouldUseASCIISet lays226 n w
def Tryz.lays153_ren: Go.Shelf.Ren:=⟨fun|153=>255|152=>282|226=>283|227=>284|228=>285|137=>311|119=>312|224=>313|225=>314|217=>315|266=>338|n=>n,fun|9=>9|3=>3|4=>4|5=>5|21=>21|117=>357|116=>356|0=>0|46=>250|124=>386|n=>n,fun|n=>n⟩
theorem Tryz.lays153: Go.Proofs.Lays.n153 prog lays153_ren:={
 mixed:=by kernel_rfl
 f119:=func312.trans (congrArg some (by kernel_rfl))
 f137:=func311.trans (congrArg some (by kernel_rfl))
 f152:=func282.trans (congrArg some (by kernel_rfl))
 f153:=func255.trans (congrArg some (by kernel_rfl))
 f217:=func315.trans (congrArg some (by kernel_rfl))
 f224:=func313.trans (congrArg some (by kernel_rfl))
 f225:=func314.trans (congrArg some (by kernel_rfl))
 f226:=func283.trans (congrArg some (by kernel_rfl))
 f227:=func284.trans (congrArg some (by kernel_rfl))
 f228:=func285.trans (congrArg some (by kernel_rfl))
 f266:=func338.trans (congrArg some (by kernel_rfl))
 t0:=underlying0
 a0:=isAgg0
 z0:=sizeOf0
 v0:=zeroValue0
 t3:=underlying3
 a3:=isAgg3
 z3:=sizeOf3
 v3:=zeroValue3
 t4:=underlying4
 a4:=isAgg4
 z4:=sizeOf4
 v4:=zeroValue4
 t5:=underlying5
 a5:=isAgg5
 z5:=sizeOf5
 v5:=zeroValue5
 t9:=underlying9
 a9:=isAgg9
 z9:=sizeOf9
 v9:=zeroValue9
 t21:=underlying21
 a21:=isAgg21
 z21:=sizeOf21
 v21:=zeroValue21
 t46:=underlying250
 a46:=isAgg250
 z46:=sizeOf250
 v46:=zeroValue250
 t116:=underlying356
 a116:=isAgg356
 z116:=sizeOf356
 t117:=underlying357
 a117:=isAgg357
 z117:=sizeOf357
 v117:=zeroValue357
 t124:=underlying386
 a124:=isAgg386
 z124:=sizeOf386
 v124:=zeroValue386 }
open Go.RowKit Go.Lib in
theorem Tryz.strings_IndexAny_none(s chars:ByteArray) (w:World) (h0:chars.size=0):
 Calls prog 255 #[.string s,.string chars] w fun e w'=>e=.returned (.int .i64 (Lib.indexAny s.data.toList chars.data.toList))/\w'=w:=Any.strings_IndexAny_none lays153 s chars w h0
open Go.RowKit Go.Lib in
theorem Tryz.strings_IndexAny_one(s chars:ByteArray) (w:World) (h1:chars.size=1) (hascii:∀ (j:Nat) b,chars.data.toList[j]?=some b->b.toNat<128):
 Calls prog 255 #[.string s,.string chars] w fun e w'=>e=.returned (.int .i64 (Lib.indexAny s.data.toList chars.data.toList))/\w'=w:=Any.strings_IndexAny_one lays153 s chars w h1 hascii
open Go.RowKit Go.Lib in
theorem Tryz.strings_IndexAny_long(hv116:∀ w,(zeroValue 356).run prog w=.ok (.agg (Array.replicate 256 (.bool false))) w) (s chars:ByteArray) (w:World) (h2:2<=chars.size) (h8:8<s.size) (hs:s.size<4294967281) (hcs:chars.size<4294967281) (hascii:∀ (j:Nat) b,chars.data.toList[j]?=some b->b.toNat<128):
 Calls prog 255 #[.string s,.string chars] w fun e w'=>e=.returned (.int .i64 (Lib.indexAny s.data.toList chars.data.toList))/\w'=((w.alloc (.cells (Lib.setCells chars.data.toList) 356)).alloc (.cells (Lib.setCells chars.data.toList) 356)):=Any.strings_IndexAny_long lays153 hv116 (by kernel_rfl) s chars w h2 h8 hs hcs hascii
open Go.RowKit Go.Lib in
theorem Tryz.strings_IndexAny(hv116:∀ w,(zeroValue 356).run prog w=.ok (.agg (Array.replicate 256 (.bool false))) w) (s chars:ByteArray) (w:World) (hs:s.size<4294967281) (hcs:chars.size<4294967281) (has:∀ (j:Nat) b,s.data.toList[j]?=some b->b.toNat<128) (hac:∀ (j:Nat) b,chars.data.toList[j]?=some b->b.toNat<128):
 Calls prog 255 #[.string s,.string chars] w fun e w'=>e=.returned (.int .i64 (Lib.indexAny s.data.toList chars.data.toList))/\Below w.heap.size w w':=Any.strings_IndexAny lays153 hv116 (by kernel_rfl) s chars w hs hcs has hac
end Go.Proofs
