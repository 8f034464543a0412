import Derived.Shelf.Strings.Builder1
import Derived.Shelf.Strings.Builder2
import Derived.Shelf.Strings.OnBuilder
import Derived.Shelf.Small.Utf8
import Derived.Shelf.Small.Bits
import Derived.Shelf.Small.Strs
import Derived.Shelf.Small.Wraps
import Derived.Shelf.Strconv.Atoi
import Derived.Shelf.Strconv.Itoa0
import Derived.Shelf.Strconv.Itoa1
import Derived.Shelf.LaysM
import Derived.Shelf.Strconv.Itoa2
import Derived.Shelf.Strconv.Itoa3
import Derived.Shelf.Strconv.AtoiErrFast
import Derived.Shelf.Strconv.ParseIntEmpty
import Derived.Shelf.Strconv.AtoiFail
import Derived.Shelf.Strconv.Clone
import Derived.Shelf.Strconv.SyntaxError
import Derived.Shelf.LaysC
import Derived.Shelf.Strconv.ToError
import Derived.Shelf.Strconv.Lower
import Derived.Shelf.Strconv.ParseUint10
import Derived.Shelf.Strconv.ParseUint10Empty
import Derived.Shelf.Strconv.ParseUint10Any
import Derived.Shelf.Strconv.ParseInt10
import Derived.Shelf.Strconv.AtoiLong
import Derived.Shelf.Strconv.AtoiInnerAll
import Derived.Shelf.Strconv.RangeError
import Derived.Shelf.Strconv.ToErrorRange
import Derived.Shelf.Strconv.AtoiAll
import Derived.Shelf.Strings.Search1
import Derived.Shelf.Strings.Search2
import Derived.Shelf.Strings.Search3
import Derived.Shelf.Strings.Count
import Derived.Shelf.Strings.Shaped
import Derived.Shelf.Strings.Prefix
import Derived.Shelf.Strings.Split
import Derived.Shelf.Strings.Replace
import Derived.Shelf.Strings.SplitShaped
import Derived.Shelf.Unicode.Latin
import Derived.Shelf.Strings.Runes
import Derived.Shelf.Strings.IndexAny
import Derived.Shelf.Strings.AsciiSet
import Derived.Shelf.Strings.IndexAnyAll
import Derived.Shelf.Unicode.DecodeSlow
import Derived.Shelf.Unicode.CaseLookup
import Derived.Shelf.Unicode.CaseConvert
import Derived.Shelf.Unicode.CaseTo
import Derived.Shelf.Unicode.CaseLaid
import Derived.Ground.SlgmProg
import Derived.Shelf.SortM.Plain
import Derived.Shelf.SortM.SortNone
import Derived.Test.YtckkocmhlhefpaaGreatDoorProg
namespace Go.Proofs
open Tryz
open Go.Shelf
def Tryz.lays159_ren: Go.Shelf.Ren:=⟨fun|159=>135|165=>172|166=>173|167=>180|169=>174|230=>181|204=>182|240=>220|241=>221|197=>224|118=>225|168=>226|270=>227|262=>228|276=>254|277=>255|260=>256|242=>257|313=>258|278=>283|274=>284|275=>285|n=>n,fun|9=>9|4=>4|3=>3|5=>5|72=>246|0=>0|76=>250|75=>249|107=>264|70=>244|20=>20|37=>67|127=>302|21=>21|105=>305|164=>332|162=>338|203=>336|119=>358|46=>243|139=>361|138=>360|51=>298|160=>362|208=>393|206=>391|80=>252|n=>n,fun|13=>1|3=>2|4=>3|n=>n⟩
theorem Tryz.lays159: Go.Proofs.Lays.n159 prog lays159_ren:={
 mixed:=by kernel_rfl
 f118:=func225.trans (congrArg some (by kernel_rfl))
 f159:=func135.trans (congrArg some (by kernel_rfl))
 f165:=func172.trans (congrArg some (by kernel_rfl))
 f166:=func173.trans (congrArg some (by kernel_rfl))
 f167:=func180.trans (congrArg some (by kernel_rfl))
 f168:=func226.trans (congrArg some (by kernel_rfl))
 f169:=func174.trans (congrArg some (by kernel_rfl))
 f197:=func224.trans (congrArg some (by kernel_rfl))
 f204:=func182.trans (congrArg some (by kernel_rfl))
 f230:=func181.trans (congrArg some (by kernel_rfl))
 f240:=func220.trans (congrArg some (by kernel_rfl))
 f241:=func221.trans (congrArg some (by kernel_rfl))
 f242:=func257.trans (congrArg some (by kernel_rfl))
 f260:=func256.trans (congrArg some (by kernel_rfl))
 f262:=func228.trans (congrArg some (by kernel_rfl))
 f270:=func227.trans (congrArg some (by kernel_rfl))
 f274:=func284.trans (congrArg some (by kernel_rfl))
 f275:=func285.trans (congrArg some (by kernel_rfl))
 f276:=func254.trans (congrArg some (by kernel_rfl))
 f277:=func255.trans (congrArg some (by kernel_rfl))
 f278:=func283.trans (congrArg some (by kernel_rfl))
 f313:=func258.trans (congrArg some (by kernel_rfl))
 t0:=underlying0
 a0:=isAgg0
 z0:=sizeOf0
 v0:=zeroValue0
 t3:=underlying3
 a3:=isAgg3
 z3:=sizeOf3
 v3:=zeroValue3
 t4:=underlying4
 a4:=isAgg4
 z4:=sizeOf4
 v4:=zeroValue4
 t5:=underlying5
 a5:=isAgg5
 z5:=sizeOf5
 v5:=zeroValue5
 t9:=underlying9
 a9:=isAgg9
 z9:=sizeOf9
 v9:=zeroValue9
 t20:=underlying20
 a20:=isAgg20
 z20:=sizeOf20
 v20:=zeroValue20
 t21:=underlying21
 a21:=isAgg21
 z21:=sizeOf21
 v21:=zeroValue21
 t37:=underlying67
 a37:=isAgg67
 z37:=sizeOf67
 v37:=zeroValue67
 t46:=underlying243
 a46:=isAgg243
 z46:=sizeOf243
 v46:=zeroValue243
 t51:=underlying298
 a51:=isAgg298
 z51:=sizeOf298
 v51:=zeroValue298
 t70:=underlying244
 a70:=isAgg244
 z70:=sizeOf244
 v70:=zeroValue244
 t72:=underlying246
 a72:=isAgg246
 z72:=sizeOf246
 v72:=zeroValue246
 t75:=underlying249
 a75:=isAgg249
 z75:=sizeOf249
 v75:=zeroValue249
 t76:=underlying250
 a76:=isAgg250
 z76:=sizeOf250
 v76:=zeroValue250
 t105:=underlying305
 a105:=isAgg305
 z105:=sizeOf305
 v105:=zeroValue305
 t107:=underlying264
 a107:=isAgg264
 z107:=sizeOf264
 v107:=zeroValue264
 t119:=underlying358
 a119:=isAgg358
 z119:=sizeOf358
 t127:=underlying302
 a127:=isAgg302
 z127:=sizeOf302
 v127:=zeroValue302
 t138:=underlying360
 a138:=isAgg360
 z138:=sizeOf360
 v138:=zeroValue360
 t139:=underlying361
 a139:=isAgg361
 z139:=sizeOf361
 v139:=zeroValue361
 t160:=underlying362
 a160:=isAgg362
 z160:=sizeOf362
 v160:=zeroValue362
 t162:=underlying338
 a162:=isAgg338
 z162:=sizeOf338
 v162:=zeroValue338
 t164:=underlying332
 a164:=isAgg332
 z164:=sizeOf332
 v164:=zeroValue332
 t203:=underlying336
 a203:=isAgg336
 z203:=sizeOf336
 v203:=zeroValue336
 t206:=underlying391
 a206:=isAgg391
 z206:=sizeOf391
 v206:=zeroValue391
 t208:=underlying393
 a208:=isAgg393
 z208:=sizeOf393
 v208:=zeroValue393
 g3:=by kernel_rfl
 g4:=by kernel_rfl
 g13:=by kernel_rfl }
theorem Tryz.Builder_Extra_159: Builder.Extra prog lays159_ren:={
 sizeBuilder:=by kernel_rfl
 liesBuilder:=by kernel_rfl
 t5:=underlying5
 a5:=isAgg5
 z5:=sizeOf5
 v5:=zeroValue5
 infoByte:=by kernel_rfl
 cellsByte:=by kernel_rfl
 sizeByte:=by kernel_rfl
 neB5:=by decide }
open Go.RowKit in
theorem Tryz.strings_ToLower_ascii(s:ByteArray) (w:World) (hs:s.size<=140737488355328) (hascii:∀ (j:Nat) (b:UInt8),s.data.toList[j]?=some b->b.toNat<128):
 Calls prog 135 #[.string s] w fun e w'=>e=.returned (.string ⟨(Lib.toLowerA s.data.toList).toArray⟩)/\Below w.heap.size w w':=Any.strings_ToLower_ascii lays159 Builder_Extra_159 s w hs hascii
def Tryz.lays156_ren: Go.Shelf.Ren:=⟨fun|156=>123|165=>172|166=>173|169=>174|240=>220|241=>221|276=>254|277=>255|n=>n,fun|31=>30|9=>9|3=>3|4=>4|0=>0|20=>20|72=>246|76=>250|70=>244|37=>67|75=>249|127=>302|164=>332|5=>5|80=>252|n=>n,fun|n=>n⟩
theorem Tryz.lays156: Go.Proofs.Lays.n156 prog lays156_ren:={
 mixed:=by kernel_rfl
 f156:=func123.trans (congrArg some (by kernel_rfl))
 f165:=func172.trans (congrArg some (by kernel_rfl))
 f166:=func173.trans (congrArg some (by kernel_rfl))
 f169:=func174.trans (congrArg some (by kernel_rfl))
 f240:=func220.trans (congrArg some (by kernel_rfl))
 f241:=func221.trans (congrArg some (by kernel_rfl))
 f276:=func254.trans (congrArg some (by kernel_rfl))
 f277:=func255.trans (congrArg some (by kernel_rfl))
 t0:=underlying0
 a0:=isAgg0
 z0:=sizeOf0
 v0:=zeroValue0
 t3:=underlying3
 a3:=isAgg3
 z3:=sizeOf3
 v3:=zeroValue3
 t4:=underlying4
 a4:=isAgg4
 z4:=sizeOf4
 v4:=zeroValue4
 t9:=underlying9
 a9:=isAgg9
 z9:=sizeOf9
 v9:=zeroValue9
 t20:=underlying20
 a20:=isAgg20
 z20:=sizeOf20
 v20:=zeroValue20
 t31:=underlying30
 a31:=isAgg30
 z31:=sizeOf30
 v31:=zeroValue30
 t37:=underlying67
 a37:=isAgg67
 z37:=sizeOf67
 v37:=zeroValue67
 t70:=underlying244
 a70:=isAgg244
 z70:=sizeOf244
 v70:=zeroValue244
 t72:=underlying246
 a72:=isAgg246
 z72:=sizeOf246
 v72:=zeroValue246
 t75:=underlying249
 a75:=isAgg249
 z75:=sizeOf249
 v75:=zeroValue249
 t76:=underlying250
 a76:=isAgg250
 z76:=sizeOf250
 v76:=zeroValue250
 t127:=underlying302
 a127:=isAgg302
 z127:=sizeOf302
 v127:=zeroValue302
 t164:=underlying332
 a164:=isAgg332
 z164:=sizeOf332
 v164:=zeroValue332 }
theorem Tryz.Builder_Extra_156: Builder.Extra prog lays156_ren:={
 sizeBuilder:=by kernel_rfl
 liesBuilder:=by kernel_rfl
 t5:=underlying5
 a5:=isAgg5
 z5:=sizeOf5
 v5:=zeroValue5
 infoByte:=by kernel_rfl
 cellsByte:=by kernel_rfl
 sizeByte:=by kernel_rfl
 neB5:=by decide }
open Go.RowKit in
theorem Tryz.strings_Join_none(a:Option Addr) (c:Nat) (sep:ByteArray) (w:World):
 Calls prog 123 #[.slice a 0 c,.string sep] w fun e w'=>e=.returned (.string ⟨#[]⟩)/\w'=w:=Any.strings_Join_none lays156 Builder_Extra_156 a c sep w
open Go.RowKit in
theorem Tryz.strings_Join(bk o c:Nat) (xs:List ByteArray) (sep:ByteArray) (w:World) (hcells:∀ (j:Nat) x,xs[j]?=some x->w.cell? ⟨bk,o+j,none⟩=some (.string x)) (hbk:bk<w.heap.size) (hN:xs.length<=140737488355328) (hcap:xs.length<=c) (hlen:(Lib.join (xs.map (·.data.toList)) sep.data.toList).length<=140737488355328):
 Calls prog 123 #[.slice (some ⟨bk,o,none⟩) xs.length c,.string sep] w fun e w'=>e=.returned (.string ⟨(Lib.join (xs.map (·.data.toList)) sep.data.toList).toArray⟩)/\Below w.heap.size w w':=Any.strings_Join lays156 Builder_Extra_156 bk o c xs sep w hcells hbk hN hcap hlen
def Tryz.lays106_ren: Go.Shelf.Ren:=⟨fun|106=>130|213=>176|265=>222|n=>n,fun|9=>9|3=>3|n=>n,fun|n=>n⟩
theorem Tryz.lays106: Go.Proofs.Lays.n106 prog lays106_ren:={
 mixed:=by kernel_rfl
 f106:=func130.trans (congrArg some (by kernel_rfl))
 f213:=func176.trans (congrArg some (by kernel_rfl))
 f265:=func222.trans (congrArg some (by kernel_rfl))
 t3:=underlying3
 a3:=isAgg3
 z3:=sizeOf3
 v3:=zeroValue3
 t9:=underlying9
 a9:=isAgg9
 z9:=sizeOf9
 v9:=zeroValue9 }
open Go.RowKit in
theorem Tryz.strings_Compare(a b:ByteArray) (w:World):
 Calls prog 130 #[.string a,.string b] w fun e w'=>e=.returned (.int .i64 (Lib.compareBytes a.data.toList b.data.toList))/\w'=w:=Any.strings_Compare lays106 a b w
def Tryz.lays137_ren: Go.Shelf.Ren:=⟨fun|137=>316|217=>320|266=>332|n=>n,fun|9=>9|5=>5|3=>3|n=>n,fun|n=>n⟩
theorem Tryz.lays137: Go.Proofs.Lays.n137 prog lays137_ren:={
 mixed:=by kernel_rfl
 f137:=func316.trans (congrArg some (by kernel_rfl))
 f217:=func320.trans (congrArg some (by kernel_rfl))
 f266:=func332.trans (congrArg some (by kernel_rfl))
 t3:=underlying3
 a3:=isAgg3
 z3:=sizeOf3
 v3:=zeroValue3
 t5:=underlying5
 a5:=isAgg5
 z5:=sizeOf5
 v5:=zeroValue5
 t9:=underlying9
 a9:=isAgg9
 z9:=sizeOf9
 v9:=zeroValue9 }
open Go.RowKit in
theorem Tryz.strings_IndexByte(s:ByteArray) (c:Int) (w:World):
 Calls prog 316 #[.string s,.int .u8 c] w fun e w'=>e=.returned (.int .i64 (Lib.indexByte s.data.toList c.toNat.toUInt8))/\w'=w:=Any.strings_IndexByte lays137 s c w
def Tryz.lays171_ren: Go.Shelf.Ren:=⟨fun|171=>200|243=>239|246=>269|283=>296|284=>297|285=>298|286=>299|129=>218|317=>324|318=>325|319=>326|320=>327|337=>334|338=>335|n=>n,fun|3=>3|9=>9|2=>2|4=>4|171=>376|0=>0|53=>300|37=>67|5=>5|173=>378|212=>401|51=>298|20=>20|213=>402|46=>243|232=>409|233=>410|n=>n,fun|17=>6|18=>7|19=>8|n=>n⟩
theorem Tryz.lays171: Go.Proofs.Lays.n171 prog lays171_ren:={
 mixed:=by kernel_rfl
 f129:=func218.trans (congrArg some (by kernel_rfl))
 f171:=func200.trans (congrArg some (by kernel_rfl))
 f243:=func239.trans (congrArg some (by kernel_rfl))
 f246:=func269.trans (congrArg some (by kernel_rfl))
 f283:=func296.trans (congrArg some (by kernel_rfl))
 f284:=func297.trans (congrArg some (by kernel_rfl))
 f285:=func298.trans (congrArg some (by kernel_rfl))
 f286:=func299.trans (congrArg some (by kernel_rfl))
 f317:=func324.trans (congrArg some (by kernel_rfl))
 f318:=func325.trans (congrArg some (by kernel_rfl))
 f319:=func326.trans (congrArg some (by kernel_rfl))
 f320:=func327.trans (congrArg some (by kernel_rfl))
 f337:=func334.trans (congrArg some (by kernel_rfl))
 f338:=func335.trans (congrArg some (by kernel_rfl))
 t0:=underlying0
 a0:=isAgg0
 z0:=sizeOf0
 v0:=zeroValue0
 t2:=underlying2
 a2:=isAgg2
 z2:=sizeOf2
 v2:=zeroValue2
 t3:=underlying3
 a3:=isAgg3
 z3:=sizeOf3
 v3:=zeroValue3
 t4:=underlying4
 a4:=isAgg4
 z4:=sizeOf4
 v4:=zeroValue4
 t5:=underlying5
 a5:=isAgg5
 z5:=sizeOf5
 v5:=zeroValue5
 t9:=underlying9
 a9:=isAgg9
 z9:=sizeOf9
 v9:=zeroValue9
 t20:=underlying20
 a20:=isAgg20
 z20:=sizeOf20
 v20:=zeroValue20
 t37:=underlying67
 a37:=isAgg67
 z37:=sizeOf67
 v37:=zeroValue67
 t46:=underlying243
 a46:=isAgg243
 z46:=sizeOf243
 v46:=zeroValue243
 t51:=underlying298
 a51:=isAgg298
 z51:=sizeOf298
 v51:=zeroValue298
 t53:=underlying300
 a53:=isAgg300
 z53:=sizeOf300
 v53:=zeroValue300
 t171:=underlying376
 a171:=isAgg376
 z171:=sizeOf376
 v171:=zeroValue376
 t173:=underlying378
 a173:=isAgg378
 z173:=sizeOf378
 v173:=zeroValue378
 t212:=underlying401
 a212:=isAgg401
 z212:=sizeOf401
 v212:=zeroValue401
 t213:=underlying402
 a213:=isAgg402
 z213:=sizeOf402
 t232:=underlying409
 a232:=isAgg409
 z232:=sizeOf409
 v232:=zeroValue409
 t233:=underlying410
 a233:=isAgg410
 z233:=sizeOf410
 v233:=zeroValue410
 g17:=by kernel_rfl
 g18:=by kernel_rfl
 g19:=by kernel_rfl }
open Go.RowKit Go.Sort Go.Lib in
theorem Tryz.strconv_Itoa_small(i:Nat) (hi:i<100) (w:World):
 Calls prog 200 #[.int .i64 i] w fun e w'=>e=.returned (.string ⟨(Lib.decDigits i).toArray⟩)/\w'=w:=Any.strconv_Itoa_small lays171 i hi w
def Tryz.lays99_ren: Go.Shelf.Ren:=⟨fun|99=>104|206=>155|n=>n,fun|9=>9|4=>4|3=>3|n=>n,fun|n=>n⟩
theorem Tryz.lays99: Go.Proofs.Lays.n99 prog lays99_ren:={
 mixed:=by kernel_rfl
 f99:=func104.trans (congrArg some (by kernel_rfl))
 f206:=func155.trans (congrArg some (by kernel_rfl))
 t3:=underlying3
 a3:=isAgg3
 z3:=sizeOf3
 v3:=zeroValue3
 t4:=underlying4
 a4:=isAgg4
 z4:=sizeOf4
 v4:=zeroValue4
 t9:=underlying9
 a9:=isAgg9
 z9:=sizeOf9
 v9:=zeroValue9 }
open Go.RowKit Go.Lib in
theorem Tryz.strings_HasPrefix(s p:ByteArray) (w:World):
 Calls prog 104 #[.string s,.string p] w fun e w'=>e=.returned (.bool (Lib.hasPrefix s.data.toList p.data.toList))/\w'=w:=Any.strings_HasPrefix lays99 s p w
def Tryz.lays146_ren: Go.Shelf.Ren:=⟨fun|146=>192|221=>234|268=>263|138=>261|143=>262|195=>290|197=>224|218=>291|219=>292|260=>256|217=>320|225=>319|224=>318|267=>321|266=>332|314=>333|n=>n,fun|9=>9|31=>30|3=>3|4=>4|0=>0|105=>305|21=>21|5=>5|46=>243|119=>358|139=>361|138=>360|146=>406|51=>298|n=>n,fun|1=>0|3=>2|4=>3|n=>n⟩
theorem Tryz.lays146: Go.Proofs.Lays.n146 prog lays146_ren:={
 mixed:=by kernel_rfl
 f138:=func261.trans (congrArg some (by kernel_rfl))
 f143:=func262.trans (congrArg some (by kernel_rfl))
 f146:=func192.trans (congrArg some (by kernel_rfl))
 f195:=func290.trans (congrArg some (by kernel_rfl))
 f197:=func224.trans (congrArg some (by kernel_rfl))
 f217:=func320.trans (congrArg some (by kernel_rfl))
 f218:=func291.trans (congrArg some (by kernel_rfl))
 f219:=func292.trans (congrArg some (by kernel_rfl))
 f221:=func234.trans (congrArg some (by kernel_rfl))
 f224:=func318.trans (congrArg some (by kernel_rfl))
 f225:=func319.trans (congrArg some (by kernel_rfl))
 f260:=func256.trans (congrArg some (by kernel_rfl))
 f266:=func332.trans (congrArg some (by kernel_rfl))
 f267:=func321.trans (congrArg some (by kernel_rfl))
 f268:=func263.trans (congrArg some (by kernel_rfl))
 f314:=func333.trans (congrArg some (by kernel_rfl))
 t0:=underlying0
 a0:=isAgg0
 z0:=sizeOf0
 v0:=zeroValue0
 t3:=underlying3
 a3:=isAgg3
 z3:=sizeOf3
 v3:=zeroValue3
 t4:=underlying4
 a4:=isAgg4
 z4:=sizeOf4
 v4:=zeroValue4
 t5:=underlying5
 a5:=isAgg5
 z5:=sizeOf5
 v5:=zeroValue5
 t9:=underlying9
 a9:=isAgg9
 z9:=sizeOf9
 v9:=zeroValue9
 t21:=underlying21
 a21:=isAgg21
 z21:=sizeOf21
 v21:=zeroValue21
 t31:=underlying30
 a31:=isAgg30
 z31:=sizeOf30
 v31:=zeroValue30
 t46:=underlying243
 a46:=isAgg243
 z46:=sizeOf243
 v46:=zeroValue243
 t51:=underlying298
 a51:=isAgg298
 z51:=sizeOf298
 v51:=zeroValue298
 t105:=underlying305
 a105:=isAgg305
 z105:=sizeOf305
 v105:=zeroValue305
 t119:=underlying358
 a119:=isAgg358
 z119:=sizeOf358
 t138:=underlying360
 a138:=isAgg360
 z138:=sizeOf360
 v138:=zeroValue360
 t139:=underlying361
 a139:=isAgg361
 z139:=sizeOf361
 v139:=zeroValue361
 t146:=underlying406
 a146:=isAgg406
 z146:=sizeOf406
 v146:=zeroValue406
 g1:=by kernel_rfl
 g3:=by kernel_rfl
 g4:=by kernel_rfl }
open Go.RowKit Go.Lib in
theorem Tryz.strings_Split(s sep:ByteArray) (m:Int) (w:World) (hs:s.size<4294967281) (hm:w.cell? ⟨0,0,none⟩=some (.int .i64 m)) (h1:1<=sep.size):
 Calls prog 192 #[.string s,.string sep] w fun e w'=>
 e=.returned (.slice (some ⟨w.heap.size,0,none⟩) (Lib.countB s sep+1) (Lib.countB s sep+1))/\w'=w.alloc (.cells ((Lib.splitB sep 0 (Lib.countB s sep) s).map Value.string).toArray 9):=Any.strings_Split lays146 (by kernel_rfl) s sep m w hs hm h1
def Tryz.lays155_ren: Go.Shelf.Ren:=⟨fun|155=>189|154=>232|138=>261|165=>172|143=>262|166=>173|197=>224|169=>174|195=>290|218=>291|240=>220|241=>221|219=>292|260=>256|276=>254|277=>255|217=>320|225=>319|224=>318|267=>321|266=>332|314=>333|n=>n,fun|9=>9|3=>3|4=>4|72=>246|0=>0|76=>250|105=>305|21=>21|5=>5|70=>244|20=>20|37=>67|75=>249|127=>302|164=>332|46=>243|119=>358|139=>361|138=>360|146=>406|51=>298|80=>252|n=>n,fun|1=>0|3=>2|4=>3|n=>n⟩
theorem Tryz.lays155: Go.Proofs.Lays.n155 prog lays155_ren:={
 mixed:=by kernel_rfl
 f138:=func261.trans (congrArg some (by kernel_rfl))
 f143:=func262.trans (congrArg some (by kernel_rfl))
 f154:=func232.trans (congrArg some (by kernel_rfl))
 f155:=func189.trans (congrArg some (by kernel_rfl))
 f165:=func172.trans (congrArg some (by kernel_rfl))
 f166:=func173.trans (congrArg some (by kernel_rfl))
 f169:=func174.trans (congrArg some (by kernel_rfl))
 f195:=func290.trans (congrArg some (by kernel_rfl))
 f197:=func224.trans (congrArg some (by kernel_rfl))
 f217:=func320.trans (congrArg some (by kernel_rfl))
 f218:=func291.trans (congrArg some (by kernel_rfl))
 f219:=func292.trans (congrArg some (by kernel_rfl))
 f224:=func318.trans (congrArg some (by kernel_rfl))
 f225:=func319.trans (congrArg some (by kernel_rfl))
 f240:=func220.trans (congrArg some (by kernel_rfl))
 f241:=func221.trans (congrArg some (by kernel_rfl))
 f260:=func256.trans (congrArg some (by kernel_rfl))
 f266:=func332.trans (congrArg some (by kernel_rfl))
 f267:=func321.trans (congrArg some (by kernel_rfl))
 f276:=func254.trans (congrArg some (by kernel_rfl))
 f277:=func255.trans (congrArg some (by kernel_rfl))
 f314:=func333.trans (congrArg some (by kernel_rfl))
 t0:=underlying0
 a0:=isAgg0
 z0:=sizeOf0
 v0:=zeroValue0
 t3:=underlying3
 a3:=isAgg3
 z3:=sizeOf3
 v3:=zeroValue3
 t4:=underlying4
 a4:=isAgg4
 z4:=sizeOf4
 v4:=zeroValue4
 t5:=underlying5
 a5:=isAgg5
 z5:=sizeOf5
 v5:=zeroValue5
 t9:=underlying9
 a9:=isAgg9
 z9:=sizeOf9
 v9:=zeroValue9
 t20:=underlying20
 a20:=isAgg20
 z20:=sizeOf20
 v20:=zeroValue20
 t21:=underlying21
 a21:=isAgg21
 z21:=sizeOf21
 v21:=zeroValue21
 t37:=underlying67
 a37:=isAgg67
 z37:=sizeOf67
 v37:=zeroValue67
 t46:=underlying243
 a46:=isAgg243
 z46:=sizeOf243
 v46:=zeroValue243
 t51:=underlying298
 a51:=isAgg298
 z51:=sizeOf298
 v51:=zeroValue298
 t70:=underlying244
 a70:=isAgg244
 z70:=sizeOf244
 v70:=zeroValue244
 t72:=underlying246
 a72:=isAgg246
 z72:=sizeOf246
 v72:=zeroValue246
 t75:=underlying249
 a75:=isAgg249
 z75:=sizeOf249
 v75:=zeroValue249
 t76:=underlying250
 a76:=isAgg250
 z76:=sizeOf250
 v76:=zeroValue250
 t105:=underlying305
 a105:=isAgg305
 z105:=sizeOf305
 v105:=zeroValue305
 t119:=underlying358
 a119:=isAgg358
 z119:=sizeOf358
 t127:=underlying302
 a127:=isAgg302
 z127:=sizeOf302
 v127:=zeroValue302
 t138:=underlying360
 a138:=isAgg360
 z138:=sizeOf360
 v138:=zeroValue360
 t139:=underlying361
 a139:=isAgg361
 z139:=sizeOf361
 v139:=zeroValue361
 t146:=underlying406
 a146:=isAgg406
 z146:=sizeOf406
 v146:=zeroValue406
 t164:=underlying332
 a164:=isAgg332
 z164:=sizeOf332
 v164:=zeroValue332
 g1:=by kernel_rfl
 g3:=by kernel_rfl
 g4:=by kernel_rfl }
theorem Tryz.Builder_Extra_155: Builder.Extra prog lays155_ren:={
 sizeBuilder:=by kernel_rfl
 liesBuilder:=by kernel_rfl
 t5:=underlying5
 a5:=isAgg5
 z5:=sizeOf5
 v5:=zeroValue5
 infoByte:=by kernel_rfl
 cellsByte:=by kernel_rfl
 sizeByte:=by kernel_rfl
 neB5:=by decide }
open Go.RowKit Go.Lib in
theorem Tryz.strings_ReplaceAll(s old new:ByteArray) (m:Int) (w:World) (hs:s.size<4294967281) (hm:w.cell? ⟨0,0,none⟩=some (.int .i64 m)) (h1:1<=old.size) (hlen:s.size+Lib.countB s old*new.size<=140737488355328):
 Calls prog 189 #[.string s,.string old,.string new] w fun e w'=>
 e=.returned (.string ⟨(Lib.replaceAll s.data.toList old.data.toList new.data.toList).toArray⟩)/\Below w.heap.size w w':=Any.strings_ReplaceAll lays155 Builder_Extra_155 s old new m w hs hm h1 hlen
end Go.Proofs
