import Derived.Shelf.Strings.Builder1
import Derived.Shelf.Strings.Builder2
import Derived.Shelf.Strings.OnBuilder
import Derived.Shelf.Small.Utf8
import Derived.Shelf.Small.Bits
import Derived.Shelf.Small.Strs
import Derived.Shelf.Small.Wraps
import Derived.Shelf.Strconv.Atoi
import Derived.Shelf.Strconv.Itoa0
import Derived.Shelf.Strconv.Itoa1
import Derived.Shelf.LaysM
import Derived.Shelf.Strconv.Itoa2
import Derived.Shelf.Strconv.Itoa3
import Derived.Shelf.Strconv.AtoiErrFast
import Derived.Shelf.Strconv.ParseIntEmpty
import Derived.Shelf.Strconv.AtoiFail
import Derived.Shelf.Strconv.Clone
import Derived.Shelf.Strconv.SyntaxError
import Derived.Shelf.LaysC
import Derived.Shelf.Strconv.ToError
import Derived.Shelf.Strconv.Lower
import Derived.Shelf.Strconv.ParseUint10
import Derived.Shelf.Strconv.ParseUint10Empty
import Derived.Shelf.Strconv.ParseUint10Any
import Derived.Shelf.Strconv.ParseInt10
import Derived.Shelf.Strconv.AtoiLong
import Derived.Shelf.Strconv.AtoiInnerAll
import Derived.Shelf.Strconv.RangeError
import Derived.Shelf.Strconv.ToErrorRange
import Derived.Shelf.Strconv.AtoiAll
import Derived.Shelf.Strings.Search1
import Derived.Shelf.Strings.Search2
import Derived.Shelf.Strings.Search3
import Derived.Shelf.Strings.Count
import Derived.Shelf.Strings.Shaped
import Derived.Shelf.Strings.Prefix
import Derived.Shelf.Strings.Split
import Derived.Shelf.Strings.Replace
import Derived.Shelf.Strings.SplitShaped
import Derived.Shelf.Unicode.Latin
import Derived.Shelf.Strings.Runes
import Derived.Shelf.Strings.IndexAny
import Derived.Shelf.Strings.AsciiSet
import Derived.Shelf.Strings.IndexAnyAll
import Derived.Shelf.Unicode.DecodeSlow
import Derived.Shelf.Unicode.CaseLookup
import Derived.Shelf.Unicode.CaseConvert
import Derived.Shelf.Unicode.CaseTo
import Derived.Shelf.Unicode.CaseLaid
import Derived.Ground.SlgmProg
import Derived.Shelf.SortM.Plain
import Derived.Shelf.SortM.SortNone
import Derived.Test.YtjoipgjdpnjjiaaGreatDoorProg
namespace Go.Proofs
open Tryz
open Go.Shelf
def Tryz.lays159_ren: Go.Shelf.Ren:=⟨fun|159=>118|165=>166|166=>167|167=>171|169=>168|230=>172|204=>173|240=>212|241=>213|197=>215|118=>216|168=>217|270=>218|262=>219|276=>249|277=>250|260=>251|242=>252|313=>253|278=>279|274=>280|275=>281|n=>n,fun|9=>9|4=>4|3=>3|5=>5|72=>226|0=>0|76=>230|75=>229|107=>242|70=>224|20=>20|37=>69|127=>277|21=>21|105=>280|164=>319|162=>325|203=>323|119=>348|46=>250|139=>351|138=>350|51=>315|160=>352|208=>384|206=>382|80=>232|n=>n,fun|13=>1|3=>2|4=>3|n=>n⟩
theorem Tryz.lays159: Go.Proofs.Lays.n159 prog lays159_ren:={
 mixed:=by kernel_rfl
 f118:=func216.trans (congrArg some (by kernel_rfl))
 f159:=func118.trans (congrArg some (by kernel_rfl))
 f165:=func166.trans (congrArg some (by kernel_rfl))
 f166:=func167.trans (congrArg some (by kernel_rfl))
 f167:=func171.trans (congrArg some (by kernel_rfl))
 f168:=func217.trans (congrArg some (by kernel_rfl))
 f169:=func168.trans (congrArg some (by kernel_rfl))
 f197:=func215.trans (congrArg some (by kernel_rfl))
 f204:=func173.trans (congrArg some (by kernel_rfl))
 f230:=func172.trans (congrArg some (by kernel_rfl))
 f240:=func212.trans (congrArg some (by kernel_rfl))
 f241:=func213.trans (congrArg some (by kernel_rfl))
 f242:=func252.trans (congrArg some (by kernel_rfl))
 f260:=func251.trans (congrArg some (by kernel_rfl))
 f262:=func219.trans (congrArg some (by kernel_rfl))
 f270:=func218.trans (congrArg some (by kernel_rfl))
 f274:=func280.trans (congrArg some (by kernel_rfl))
 f275:=func281.trans (congrArg some (by kernel_rfl))
 f276:=func249.trans (congrArg some (by kernel_rfl))
 f277:=func250.trans (congrArg some (by kernel_rfl))
 f278:=func279.trans (congrArg some (by kernel_rfl))
 f313:=func253.trans (congrArg some (by kernel_rfl))
 t0:=underlying0
 a0:=isAgg0
 z0:=sizeOf0
 v0:=zeroValue0
 t3:=underlying3
 a3:=isAgg3
 z3:=sizeOf3
 v3:=zeroValue3
 t4:=underlying4
 a4:=isAgg4
 z4:=sizeOf4
 v4:=zeroValue4
 t5:=underlying5
 a5:=isAgg5
 z5:=sizeOf5
 v5:=zeroValue5
 t9:=underlying9
 a9:=isAgg9
 z9:=sizeOf9
 v9:=zeroValue9
 t20:=underlying20
 a20:=isAgg20
 z20:=sizeOf20
 v20:=zeroValue20
 t21:=underlying21
 a21:=isAgg21
 z21:=sizeOf21
 v21:=zeroValue21
 t37:=underlying69
 a37:=isAgg69
 z37:=sizeOf69
 v37:=zeroValue69
 t46:=underlying250
 a46:=isAgg250
 z46:=sizeOf250
 v46:=zeroValue250
 t51:=underlying315
 a51:=isAgg315
 z51:=sizeOf315
 v51:=zeroValue315
 t70:=underlying224
 a70:=isAgg224
 z70:=sizeOf224
 v70:=zeroValue224
 t72:=underlying226
 a72:=isAgg226
 z72:=sizeOf226
 v72:=zeroValue226
 t75:=underlying229
 a75:=isAgg229
 z75:=sizeOf229
 v75:=zeroValue229
 t76:=underlying230
 a76:=isAgg230
 z76:=sizeOf230
 v76:=zeroValue230
 t105:=underlying280
 a105:=isAgg280
 z105:=sizeOf280
 v105:=zeroValue280
 t107:=underlying242
 a107:=isAgg242
 z107:=sizeOf242
 v107:=zeroValue242
 t119:=underlying348
 a119:=isAgg348
 z119:=sizeOf348
 t127:=underlying277
 a127:=isAgg277
 z127:=sizeOf277
 v127:=zeroValue277
 t138:=underlying350
 a138:=isAgg350
 z138:=sizeOf350
 v138:=zeroValue350
 t139:=underlying351
 a139:=isAgg351
 z139:=sizeOf351
 v139:=zeroValue351
 t160:=underlying352
 a160:=isAgg352
 z160:=sizeOf352
 v160:=zeroValue352
 t162:=underlying325
 a162:=isAgg325
 z162:=sizeOf325
 v162:=zeroValue325
 t164:=underlying319
 a164:=isAgg319
 z164:=sizeOf319
 v164:=zeroValue319
 t203:=underlying323
 a203:=isAgg323
 z203:=sizeOf323
 v203:=zeroValue323
 t206:=underlying382
 a206:=isAgg382
 z206:=sizeOf382
 v206:=zeroValue382
 t208:=underlying384
 a208:=isAgg384
 z208:=sizeOf384
 v208:=zeroValue384
 g3:=by kernel_rfl
 g4:=by kernel_rfl
 g13:=by kernel_rfl }
theorem Tryz.Builder_Extra_159: Builder.Extra prog lays159_ren:={
 sizeBuilder:=by kernel_rfl
 liesBuilder:=by kernel_rfl
 t5:=underlying5
 a5:=isAgg5
 z5:=sizeOf5
 v5:=zeroValue5
 infoByte:=by kernel_rfl
 cellsByte:=by kernel_rfl
 sizeByte:=by kernel_rfl
 neB5:=by decide }
open Go.RowKit in
theorem Tryz.strings_ToLower_ascii(s:ByteArray) (w:World) (hs:s.size<=140737488355328) (hascii:∀ (j:Nat) (b:UInt8),s.data.toList[j]?=some b->b.toNat<128):
 Calls prog 118 #[.string s] w fun e w'=>e=.returned (.string ⟨(Lib.toLowerA s.data.toList).toArray⟩)/\Below w.heap.size w w':=Any.strings_ToLower_ascii lays159 Builder_Extra_159 s w hs hascii
def Tryz.lays156_ren: Go.Shelf.Ren:=⟨fun|156=>115|165=>166|166=>167|169=>168|240=>212|241=>213|276=>249|277=>250|n=>n,fun|31=>30|9=>9|3=>3|4=>4|0=>0|20=>20|72=>226|76=>230|70=>224|37=>69|75=>229|127=>277|164=>319|5=>5|80=>232|n=>n,fun|n=>n⟩
theorem Tryz.lays156: Go.Proofs.Lays.n156 prog lays156_ren:={
 mixed:=by kernel_rfl
 f156:=func115.trans (congrArg some (by kernel_rfl))
 f165:=func166.trans (congrArg some (by kernel_rfl))
 f166:=func167.trans (congrArg some (by kernel_rfl))
 f169:=func168.trans (congrArg some (by kernel_rfl))
 f240:=func212.trans (congrArg some (by kernel_rfl))
 f241:=func213.trans (congrArg some (by kernel_rfl))
 f276:=func249.trans (congrArg some (by kernel_rfl))
 f277:=func250.trans (congrArg some (by kernel_rfl))
 t0:=underlying0
 a0:=isAgg0
 z0:=sizeOf0
 v0:=zeroValue0
 t3:=underlying3
 a3:=isAgg3
 z3:=sizeOf3
 v3:=zeroValue3
 t4:=underlying4
 a4:=isAgg4
 z4:=sizeOf4
 v4:=zeroValue4
 t9:=underlying9
 a9:=isAgg9
 z9:=sizeOf9
 v9:=zeroValue9
 t20:=underlying20
 a20:=isAgg20
 z20:=sizeOf20
 v20:=zeroValue20
 t31:=underlying30
 a31:=isAgg30
 z31:=sizeOf30
 v31:=zeroValue30
 t37:=underlying69
 a37:=isAgg69
 z37:=sizeOf69
 v37:=zeroValue69
 t70:=underlying224
 a70:=isAgg224
 z70:=sizeOf224
 v70:=zeroValue224
 t72:=underlying226
 a72:=isAgg226
 z72:=sizeOf226
 v72:=zeroValue226
 t75:=underlying229
 a75:=isAgg229
 z75:=sizeOf229
 v75:=zeroValue229
 t76:=underlying230
 a76:=isAgg230
 z76:=sizeOf230
 v76:=zeroValue230
 t127:=underlying277
 a127:=isAgg277
 z127:=sizeOf277
 v127:=zeroValue277
 t164:=underlying319
 a164:=isAgg319
 z164:=sizeOf319
 v164:=zeroValue319 }
theorem Tryz.Builder_Extra_156: Builder.Extra prog lays156_ren:={
 sizeBuilder:=by kernel_rfl
 liesBuilder:=by kernel_rfl
 t5:=underlying5
 a5:=isAgg5
 z5:=sizeOf5
 v5:=zeroValue5
 infoByte:=by kernel_rfl
 cellsByte:=by kernel_rfl
 sizeByte:=by kernel_rfl
 neB5:=by decide }
open Go.RowKit in
theorem Tryz.strings_Join_none(a:Option Addr) (c:Nat) (sep:ByteArray) (w:World):
 Calls prog 115 #[.slice a 0 c,.string sep] w fun e w'=>e=.returned (.string ⟨#[]⟩)/\w'=w:=Any.strings_Join_none lays156 Builder_Extra_156 a c sep w
open Go.RowKit in
theorem Tryz.strings_Join(bk o c:Nat) (xs:List ByteArray) (sep:ByteArray) (w:World) (hcells:∀ (j:Nat) x,xs[j]?=some x->w.cell? ⟨bk,o+j,none⟩=some (.string x)) (hbk:bk<w.heap.size) (hN:xs.length<=140737488355328) (hcap:xs.length<=c) (hlen:(Lib.join (xs.map (·.data.toList)) sep.data.toList).length<=140737488355328):
 Calls prog 115 #[.slice (some ⟨bk,o,none⟩) xs.length c,.string sep] w fun e w'=>e=.returned (.string ⟨(Lib.join (xs.map (·.data.toList)) sep.data.toList).toArray⟩)/\Below w.heap.size w w':=Any.strings_Join lays156 Builder_Extra_156 bk o c xs sep w hcells hbk hN hcap hlen
def Tryz.lays106_ren: Go.Shelf.Ren:=⟨fun|106=>141|213=>191|265=>228|n=>n,fun|9=>9|3=>3|n=>n,fun|n=>n⟩
theorem Tryz.lays106: Go.Proofs.Lays.n106 prog lays106_ren:={
 mixed:=by kernel_rfl
 f106:=func141.trans (congrArg some (by kernel_rfl))
 f213:=func191.trans (congrArg some (by kernel_rfl))
 f265:=func228.trans (congrArg some (by kernel_rfl))
 t3:=underlying3
 a3:=isAgg3
 z3:=sizeOf3
 v3:=zeroValue3
 t9:=underlying9
 a9:=isAgg9
 z9:=sizeOf9
 v9:=zeroValue9 }
open Go.RowKit in
theorem Tryz.strings_Compare(a b:ByteArray) (w:World):
 Calls prog 141 #[.string a,.string b] w fun e w'=>e=.returned (.int .i64 (Lib.compareBytes a.data.toList b.data.toList))/\w'=w:=Any.strings_Compare lays106 a b w
def Tryz.lays137_ren: Go.Shelf.Ren:=⟨fun|137=>311|217=>315|266=>338|n=>n,fun|9=>9|5=>5|3=>3|n=>n,fun|n=>n⟩
theorem Tryz.lays137: Go.Proofs.Lays.n137 prog lays137_ren:={
 mixed:=by kernel_rfl
 f137:=func311.trans (congrArg some (by kernel_rfl))
 f217:=func315.trans (congrArg some (by kernel_rfl))
 f266:=func338.trans (congrArg some (by kernel_rfl))
 t3:=underlying3
 a3:=isAgg3
 z3:=sizeOf3
 v3:=zeroValue3
 t5:=underlying5
 a5:=isAgg5
 z5:=sizeOf5
 v5:=zeroValue5
 t9:=underlying9
 a9:=isAgg9
 z9:=sizeOf9
 v9:=zeroValue9 }
open Go.RowKit in
theorem Tryz.strings_IndexByte(s:ByteArray) (c:Int) (w:World):
 Calls prog 311 #[.string s,.int .u8 c] w fun e w'=>e=.returned (.int .i64 (Lib.indexByte s.data.toList c.toNat.toUInt8))/\w'=w:=Any.strings_IndexByte lays137 s c w
def Tryz.lays171_ren: Go.Shelf.Ren:=⟨fun|171=>165|243=>211|246=>248|283=>275|284=>276|285=>277|286=>278|129=>247|317=>307|318=>308|319=>309|320=>310|337=>336|338=>337|n=>n,fun|3=>3|9=>9|2=>2|4=>4|171=>344|0=>0|53=>317|37=>69|5=>5|173=>346|212=>379|51=>315|20=>20|213=>380|46=>250|232=>411|233=>412|n=>n,fun|17=>4|18=>7|19=>8|n=>n⟩
theorem Tryz.lays171: Go.Proofs.Lays.n171 prog lays171_ren:={
 mixed:=by kernel_rfl
 f129:=func247.trans (congrArg some (by kernel_rfl))
 f171:=func165.trans (congrArg some (by kernel_rfl))
 f243:=func211.trans (congrArg some (by kernel_rfl))
 f246:=func248.trans (congrArg some (by kernel_rfl))
 f283:=func275.trans (congrArg some (by kernel_rfl))
 f284:=func276.trans (congrArg some (by kernel_rfl))
 f285:=func277.trans (congrArg some (by kernel_rfl))
 f286:=func278.trans (congrArg some (by kernel_rfl))
 f317:=func307.trans (congrArg some (by kernel_rfl))
 f318:=func308.trans (congrArg some (by kernel_rfl))
 f319:=func309.trans (congrArg some (by kernel_rfl))
 f320:=func310.trans (congrArg some (by kernel_rfl))
 f337:=func336.trans (congrArg some (by kernel_rfl))
 f338:=func337.trans (congrArg some (by kernel_rfl))
 t0:=underlying0
 a0:=isAgg0
 z0:=sizeOf0
 v0:=zeroValue0
 t2:=underlying2
 a2:=isAgg2
 z2:=sizeOf2
 v2:=zeroValue2
 t3:=underlying3
 a3:=isAgg3
 z3:=sizeOf3
 v3:=zeroValue3
 t4:=underlying4
 a4:=isAgg4
 z4:=sizeOf4
 v4:=zeroValue4
 t5:=underlying5
 a5:=isAgg5
 z5:=sizeOf5
 v5:=zeroValue5
 t9:=underlying9
 a9:=isAgg9
 z9:=sizeOf9
 v9:=zeroValue9
 t20:=underlying20
 a20:=isAgg20
 z20:=sizeOf20
 v20:=zeroValue20
 t37:=underlying69
 a37:=isAgg69
 z37:=sizeOf69
 v37:=zeroValue69
 t46:=underlying250
 a46:=isAgg250
 z46:=sizeOf250
 v46:=zeroValue250
 t51:=underlying315
 a51:=isAgg315
 z51:=sizeOf315
 v51:=zeroValue315
 t53:=underlying317
 a53:=isAgg317
 z53:=sizeOf317
 v53:=zeroValue317
 t171:=underlying344
 a171:=isAgg344
 z171:=sizeOf344
 v171:=zeroValue344
 t173:=underlying346
 a173:=isAgg346
 z173:=sizeOf346
 v173:=zeroValue346
 t212:=underlying379
 a212:=isAgg379
 z212:=sizeOf379
 v212:=zeroValue379
 t213:=underlying380
 a213:=isAgg380
 z213:=sizeOf380
 t232:=underlying411
 a232:=isAgg411
 z232:=sizeOf411
 v232:=zeroValue411
 t233:=underlying412
 a233:=isAgg412
 z233:=sizeOf412
 v233:=zeroValue412
 g17:=by kernel_rfl
 g18:=by kernel_rfl
 g19:=by kernel_rfl }
open Go.RowKit Go.Sort Go.Lib in
theorem Tryz.strconv_Itoa_small(i:Nat) (hi:i<100) (w:World):
 Calls prog 165 #[.int .i64 i] w fun e w'=>e=.returned (.string ⟨(Lib.decDigits i).toArray⟩)/\w'=w:=Any.strconv_Itoa_small lays171 i hi w
def Tryz.lays99_ren: Go.Shelf.Ren:=⟨fun|99=>72|206=>113|n=>n,fun|9=>9|4=>4|3=>3|n=>n,fun|n=>n⟩
theorem Tryz.lays99: Go.Proofs.Lays.n99 prog lays99_ren:={
 mixed:=by kernel_rfl
 f99:=func72.trans (congrArg some (by kernel_rfl))
 f206:=func113.trans (congrArg some (by kernel_rfl))
 t3:=underlying3
 a3:=isAgg3
 z3:=sizeOf3
 v3:=zeroValue3
 t4:=underlying4
 a4:=isAgg4
 z4:=sizeOf4
 v4:=zeroValue4
 t9:=underlying9
 a9:=isAgg9
 z9:=sizeOf9
 v9:=zeroValue9 }
open Go.RowKit Go.Lib in
theorem Tryz.strings_HasPrefix(s p:ByteArray) (w:World):
 Calls prog 72 #[.string s,.string p] w fun e w'=>e=.returned (.bool (Lib.hasPrefix s.data.toList p.data.toList))/\w'=w:=Any.strings_HasPrefix lays99 s p w
def Tryz.lays146_ren: Go.Shelf.Ren:=⟨fun|146=>183|221=>225|268=>258|138=>256|143=>257|195=>286|197=>215|218=>287|219=>288|260=>251|217=>315|225=>314|224=>313|267=>316|266=>338|314=>339|n=>n,fun|9=>9|31=>30|3=>3|4=>4|0=>0|105=>280|21=>21|5=>5|46=>250|119=>348|139=>351|138=>350|146=>402|51=>315|n=>n,fun|1=>0|3=>2|4=>3|n=>n⟩
theorem Tryz.lays146: Go.Proofs.Lays.n146 prog lays146_ren:={
 mixed:=by kernel_rfl
 f138:=func256.trans (congrArg some (by kernel_rfl))
 f143:=func257.trans (congrArg some (by kernel_rfl))
 f146:=func183.trans (congrArg some (by kernel_rfl))
 f195:=func286.trans (congrArg some (by kernel_rfl))
 f197:=func215.trans (congrArg some (by kernel_rfl))
 f217:=func315.trans (congrArg some (by kernel_rfl))
 f218:=func287.trans (congrArg some (by kernel_rfl))
 f219:=func288.trans (congrArg some (by kernel_rfl))
 f221:=func225.trans (congrArg some (by kernel_rfl))
 f224:=func313.trans (congrArg some (by kernel_rfl))
 f225:=func314.trans (congrArg some (by kernel_rfl))
 f260:=func251.trans (congrArg some (by kernel_rfl))
 f266:=func338.trans (congrArg some (by kernel_rfl))
 f267:=func316.trans (congrArg some (by kernel_rfl))
 f268:=func258.trans (congrArg some (by kernel_rfl))
 f314:=func339.trans (congrArg some (by kernel_rfl))
 t0:=underlying0
 a0:=isAgg0
 z0:=sizeOf0
 v0:=zeroValue0
 t3:=underlying3
 a3:=isAgg3
 z3:=sizeOf3
 v3:=zeroValue3
 t4:=underlying4
 a4:=isAgg4
 z4:=sizeOf4
 v4:=zeroValue4
 t5:=underlying5
 a5:=isAgg5
 z5:=sizeOf5
 v5:=zeroValue5
 t9:=underlying9
 a9:=isAgg9
 z9:=sizeOf9
 v9:=zeroValue9
 t21:=underlying21
 a21:=isAgg21
 z21:=sizeOf21
 v21:=zeroValue21
 t31:=underlying30
 a31:=isAgg30
 z31:=sizeOf30
 v31:=zeroValue30
 t46:=underlying250
 a46:=isAgg250
 z46:=sizeOf250
 v46:=zeroValue250
 t51:=underlying315
 a51:=isAgg315
 z51:=sizeOf315
 v51:=zeroValue315
 t105:=underlying280
 a105:=isAgg280
 z105:=sizeOf280
 v105:=zeroValue280
 t119:=underlying348
 a119:=isAgg348
 z119:=sizeOf348
 t138:=underlying350
 a138:=isAgg350
 z138:=sizeOf350
 v138:=zeroValue350
 t139:=underlying351
 a139:=isAgg351
 z139:=sizeOf351
 v139:=zeroValue351
 t146:=underlying402
 a146:=isAgg402
 z146:=sizeOf402
 v146:=zeroValue402
 g1:=by kernel_rfl
 g3:=by kernel_rfl
 g4:=by kernel_rfl }
open Go.RowKit Go.Lib in
theorem Tryz.strings_Split(s sep:ByteArray) (m:Int) (w:World) (hs:s.size<4294967281) (hm:w.cell? ⟨0,0,none⟩=some (.int .i64 m)) (h1:1<=sep.size):
 Calls prog 183 #[.string s,.string sep] w fun e w'=>
 e=.returned (.slice (some ⟨w.heap.size,0,none⟩) (Lib.countB s sep+1) (Lib.countB s sep+1))/\w'=w.alloc (.cells ((Lib.splitB sep 0 (Lib.countB s sep) s).map Value.string).toArray 9):=Any.strings_Split lays146 (by kernel_rfl) s sep m w hs hm h1
def Tryz.lays155_ren: Go.Shelf.Ren:=⟨fun|155=>180|154=>223|138=>256|165=>166|143=>257|166=>167|197=>215|169=>168|195=>286|218=>287|240=>212|241=>213|219=>288|260=>251|276=>249|277=>250|217=>315|225=>314|224=>313|267=>316|266=>338|314=>339|n=>n,fun|9=>9|3=>3|4=>4|72=>226|0=>0|76=>230|105=>280|21=>21|5=>5|70=>224|20=>20|37=>69|75=>229|127=>277|164=>319|46=>250|119=>348|139=>351|138=>350|146=>402|51=>315|80=>232|n=>n,fun|1=>0|3=>2|4=>3|n=>n⟩
theorem Tryz.lays155: Go.Proofs.Lays.n155 prog lays155_ren:={
 mixed:=by kernel_rfl
 f138:=func256.trans (congrArg some (by kernel_rfl))
 f143:=func257.trans (congrArg some (by kernel_rfl))
 f154:=func223.trans (congrArg some (by kernel_rfl))
 f155:=func180.trans (congrArg some (by kernel_rfl))
 f165:=func166.trans (congrArg some (by kernel_rfl))
 f166:=func167.trans (congrArg some (by kernel_rfl))
 f169:=func168.trans (congrArg some (by kernel_rfl))
 f195:=func286.trans (congrArg some (by kernel_rfl))
 f197:=func215.trans (congrArg some (by kernel_rfl))
 f217:=func315.trans (congrArg some (by kernel_rfl))
 f218:=func287.trans (congrArg some (by kernel_rfl))
 f219:=func288.trans (congrArg some (by kernel_rfl))
 f224:=func313.trans (congrArg some (by kernel_rfl))
 f225:=func314.trans (congrArg some (by kernel_rfl))
 f240:=func212.trans (congrArg some (by kernel_rfl))
 f241:=func213.trans (congrArg some (by kernel_rfl))
 f260:=func251.trans (congrArg some (by kernel_rfl))
 f266:=func338.trans (congrArg some (by kernel_rfl))
 f267:=func316.trans (congrArg some (by kernel_rfl))
 f276:=func249.trans (congrArg some (by kernel_rfl))
 f277:=func250.trans (congrArg some (by kernel_rfl))
 f314:=func339.trans (congrArg some (by kernel_rfl))
 t0:=underlying0
 a0:=isAgg0
 z0:=sizeOf0
 v0:=zeroValue0
 t3:=underlying3
 a3:=isAgg3
 z3:=sizeOf3
 v3:=zeroValue3
 t4:=underlying4
 a4:=isAgg4
 z4:=sizeOf4
 v4:=zeroValue4
 t5:=underlying5
 a5:=isAgg5
 z5:=sizeOf5
 v5:=zeroValue5
 t9:=underlying9
 a9:=isAgg9
 z9:=sizeOf9
 v9:=zeroValue9
 t20:=underlying20
 a20:=isAgg20
 z20:=sizeOf20
 v20:=zeroValue20
 t21:=underlying21
 a21:=isAgg21
 z21:=sizeOf21
 v21:=zeroValue21
 t37:=underlying69
 a37:=isAgg69
 z37:=sizeOf69
 v37:=zeroValue69
 t46:=underlying250
 a46:=isAgg250
 z46:=sizeOf250
 v46:=zeroValue250
 t51:=underlying315
 a51:=isAgg315
 z51:=sizeOf315
 v51:=zeroValue315
 t70:=underlying224
 a70:=isAgg224
 z70:=sizeOf224
 v70:=zeroValue224
 t72:=underlying226
 a72:=isAgg226
 z72:=sizeOf226
 v72:=zeroValue226
 t75:=underlying229
 a75:=isAgg229
 z75:=sizeOf229
 v75:=zeroValue229
 t76:=underlying230
 a76:=isAgg230
 z76:=sizeOf230
 v76:=zeroValue230
 t105:=underlying280
 a105:=isAgg280
 z105:=sizeOf280
 v105:=zeroValue280
 t119:=underlying348
 a119:=isAgg348
 z119:=sizeOf348
 t127:=underlying277
 a127:=isAgg277
 z127:=sizeOf277
 v127:=zeroValue277
 t138:=underlying350
 a138:=isAgg350
 z138:=sizeOf350
 v138:=zeroValue350
 t139:=underlying351
 a139:=isAgg351
 z139:=sizeOf351
 v139:=zeroValue351
 t146:=underlying402
 a146:=isAgg402
 z146:=sizeOf402
 v146:=zeroValue402
 t164:=underlying319
 a164:=isAgg319
 z164:=sizeOf319
 v164:=zeroValue319
 g1:=by kernel_rfl
 g3:=by kernel_rfl
 g4:=by kernel_rfl }
theorem Tryz.Builder_Extra_155: Builder.Extra prog lays155_ren:={
 sizeBuilder:=by kernel_rfl
 liesBuilder:=by kernel_rfl
 t5:=underlying5
 a5:=isAgg5
 z5:=sizeOf5
 v5:=zeroValue5
 infoByte:=by kernel_rfl
 cellsByte:=by kernel_rfl
 sizeByte:=by kernel_rfl
 neB5:=by decide }
open Go.RowKit Go.Lib in
theorem Tryz.strings_ReplaceAll(s old new:ByteArray) (m:Int) (w:World) (hs:s.size<4294967281) (hm:w.cell? ⟨0,0,none⟩=some (.int .i64 m)) (h1:1<=old.size) (hlen:s.size+Lib.countB s old*new.size<=140737488355328):
 Calls prog 180 #[.string s,.string old,.string new] w fun e w'=>
 e=.returned (.string ⟨(Lib.replaceAll s.data.toList old.data.toList new.data.toList).toArray⟩)/\Below w.heap.size w w':=Any.strings_ReplaceAll lays155 Builder_Extra_155 s old new m w hs hm h1 hlen
end Go.Proofs
