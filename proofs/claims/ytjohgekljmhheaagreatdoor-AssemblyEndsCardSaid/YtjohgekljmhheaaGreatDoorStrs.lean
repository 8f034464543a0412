import Derived.Shelf.Strings.Builder1
import Derived.Shelf.Strings.Builder2
import Derived.Shelf.Strings.OnBuilder
import Derived.Shelf.Small.Utf8
import Derived.Shelf.Small.Bits
import Derived.Shelf.Small.Strs
import Derived.Shelf.Small.Wraps
import Derived.Shelf.Utf8.RuneCount
import Derived.Shelf.Strconv.Atoi
import Derived.Shelf.Strconv.Itoa0
import Derived.Shelf.Strconv.Itoa1
import Derived.Shelf.LaysM
import Derived.Shelf.Strconv.Itoa2
import Derived.Shelf.Strconv.Itoa3
import Derived.Shelf.Strconv.AtoiErrFast
import Derived.Shelf.Strconv.ParseIntEmpty
import Derived.Shelf.Strconv.AtoiFail
import Derived.Shelf.Strconv.Clone
import Derived.Shelf.Strconv.SyntaxError
import Derived.Shelf.LaysC
import Derived.Shelf.Strconv.ToError
import Derived.Shelf.Strconv.Lower
import Derived.Shelf.Strconv.ParseUint10
import Derived.Shelf.Strconv.ParseUint10Empty
import Derived.Shelf.Strconv.ParseUint10Any
import Derived.Shelf.Strconv.ParseInt10
import Derived.Shelf.Strconv.AtoiLong
import Derived.Shelf.Strconv.AtoiInnerAll
import Derived.Shelf.Strconv.RangeError
import Derived.Shelf.Strconv.ToErrorRange
import Derived.Shelf.Strconv.AtoiAll
import Derived.Shelf.Strings.Search1
import Derived.Shelf.Strings.Search2
import Derived.Shelf.Strings.Search3
import Derived.Shelf.Strings.Count
import Derived.Shelf.Strings.Shaped
import Derived.Shelf.Strings.Prefix
import Derived.Shelf.Strings.Split
import Derived.Shelf.Strings.Replace
import Derived.Shelf.Strings.SplitShaped
import Derived.Shelf.Unicode.Latin
import Derived.Shelf.Unicode.Decode
import Derived.Shelf.Strings.Runes
import Derived.Shelf.Strings.RuneCount
import Derived.Shelf.Strings.IndexAny
import Derived.Shelf.Strings.AsciiSet
import Derived.Shelf.Strings.IndexAnyAll
import Derived.Shelf.Strings.Explode
import Derived.Shelf.Unicode.DecodeSlow
import Derived.Shelf.Unicode.DecodeAny
import Derived.Shelf.Unicode.CaseLookup
import Derived.Shelf.Unicode.CaseConvert
import Derived.Shelf.Unicode.CaseTo
import Derived.Shelf.Unicode.CaseLaid
import Derived.Ground.Names2Prog
import Derived.Shelf.Slices.Clone
import Derived.Shelf.Slices.SearchI
import Derived.Shelf.Slices.Delete
import Derived.Shelf.Slices.Cells
import Derived.Shelf.Slices.Empties
import Derived.Ground.SlgnProg
import Derived.Shelf.SlicesE.Clone
import Derived.Ground.SlgmProg
import Derived.Shelf.SortM.Plain
import Derived.Shelf.SortM.SortNone
import Derived.Test.YtjohgekljmhheaaGreatDoorProg
namespace Go.Proofs
open Tryz
open Go.Shelf
def Tryz.lays159_ren: Go.Shelf.Ren:=⟨fun|159=>122|165=>164|166=>165|167=>173|169=>166|230=>174|204=>175|240=>214|241=>215|197=>223|118=>224|168=>225|270=>226|262=>227|276=>258|277=>259|260=>267|242=>268|313=>269|278=>296|274=>297|275=>298|n=>n,fun|9=>9|4=>4|3=>3|5=>5|72=>240|0=>0|76=>190|75=>189|107=>254|70=>238|20=>20|37=>67|127=>298|21=>21|105=>308|164=>336|162=>351|203=>349|119=>374|46=>237|139=>377|138=>376|51=>294|160=>378|208=>395|206=>393|80=>242|n=>n,fun|13=>3|3=>5|4=>6|n=>n⟩
theorem Tryz.lays159: Go.Proofs.Lays.n159 prog lays159_ren:={
 mixed:=by kernel_rfl
 f118:=func224.trans (congrArg some (by kernel_rfl))
 f159:=func122.trans (congrArg some (by kernel_rfl))
 f165:=func164.trans (congrArg some (by kernel_rfl))
 f166:=func165.trans (congrArg some (by kernel_rfl))
 f167:=func173.trans (congrArg some (by kernel_rfl))
 f168:=func225.trans (congrArg some (by kernel_rfl))
 f169:=func166.trans (congrArg some (by kernel_rfl))
 f197:=func223.trans (congrArg some (by kernel_rfl))
 f204:=func175.trans (congrArg some (by kernel_rfl))
 f230:=func174.trans (congrArg some (by kernel_rfl))
 f240:=func214.trans (congrArg some (by kernel_rfl))
 f241:=func215.trans (congrArg some (by kernel_rfl))
 f242:=func268.trans (congrArg some (by kernel_rfl))
 f260:=func267.trans (congrArg some (by kernel_rfl))
 f262:=func227.trans (congrArg some (by kernel_rfl))
 f270:=func226.trans (congrArg some (by kernel_rfl))
 f274:=func297.trans (congrArg some (by kernel_rfl))
 f275:=func298.trans (congrArg some (by kernel_rfl))
 f276:=func258.trans (congrArg some (by kernel_rfl))
 f277:=func259.trans (congrArg some (by kernel_rfl))
 f278:=func296.trans (congrArg some (by kernel_rfl))
 f313:=func269.trans (congrArg some (by kernel_rfl))
 t0:=underlying0
 a0:=isAgg0
 z0:=sizeOf0
 v0:=zeroValue0
 t3:=underlying3
 a3:=isAgg3
 z3:=sizeOf3
 v3:=zeroValue3
 t4:=underlying4
 a4:=isAgg4
 z4:=sizeOf4
 v4:=zeroValue4
 t5:=underlying5
 a5:=isAgg5
 z5:=sizeOf5
 v5:=zeroValue5
 t9:=underlying9
 a9:=isAgg9
 z9:=sizeOf9
 v9:=zeroValue9
 t20:=underlying20
 a20:=isAgg20
 z20:=sizeOf20
 v20:=zeroValue20
 t21:=underlying21
 a21:=isAgg21
 z21:=sizeOf21
 v21:=zeroValue21
 t37:=underlying67
 a37:=isAgg67
 z37:=sizeOf67
 v37:=zeroValue67
 t46:=underlying237
 a46:=isAgg237
 z46:=sizeOf237
 v46:=zeroValue237
 t51:=underlying294
 a51:=isAgg294
 z51:=sizeOf294
 v51:=zeroValue294
 t70:=underlying238
 a70:=isAgg238
 z70:=sizeOf238
 v70:=zeroValue238
 t72:=underlying240
 a72:=isAgg240
 z72:=sizeOf240
 v72:=zeroValue240
 t75:=underlying189
 a75:=isAgg189
 z75:=sizeOf189
 v75:=zeroValue189
 t76:=underlying190
 a76:=isAgg190
 z76:=sizeOf190
 v76:=zeroValue190
 t105:=underlying308
 a105:=isAgg308
 z105:=sizeOf308
 v105:=zeroValue308
 t107:=underlying254
 a107:=isAgg254
 z107:=sizeOf254
 v107:=zeroValue254
 t119:=underlying374
 a119:=isAgg374
 z119:=sizeOf374
 t127:=underlying298
 a127:=isAgg298
 z127:=sizeOf298
 v127:=zeroValue298
 t138:=underlying376
 a138:=isAgg376
 z138:=sizeOf376
 v138:=zeroValue376
 t139:=underlying377
 a139:=isAgg377
 z139:=sizeOf377
 v139:=zeroValue377
 t160:=underlying378
 a160:=isAgg378
 z160:=sizeOf378
 v160:=zeroValue378
 t162:=underlying351
 a162:=isAgg351
 z162:=sizeOf351
 v162:=zeroValue351
 t164:=underlying336
 a164:=isAgg336
 z164:=sizeOf336
 v164:=zeroValue336
 t203:=underlying349
 a203:=isAgg349
 z203:=sizeOf349
 v203:=zeroValue349
 t206:=underlying393
 a206:=isAgg393
 z206:=sizeOf393
 v206:=zeroValue393
 t208:=underlying395
 a208:=isAgg395
 z208:=sizeOf395
 v208:=zeroValue395
 g3:=by kernel_rfl
 g4:=by kernel_rfl
 g13:=by kernel_rfl }
theorem Tryz.Builder_Extra_159: Builder.Extra prog lays159_ren:={
 sizeBuilder:=by kernel_rfl
 liesBuilder:=by kernel_rfl
 t5:=underlying5
 a5:=isAgg5
 z5:=sizeOf5
 v5:=zeroValue5
 infoByte:=by kernel_rfl
 cellsByte:=by kernel_rfl
 sizeByte:=by kernel_rfl
 neB5:=by decide }
open Go.RowKit in
theorem Tryz.strings_ToLower_ascii(s:ByteArray) (w:World) (hs:s.size<=140737488355328) (hascii:∀ (j:Nat) (b:UInt8),s.data.toList[j]?=some b->b.toNat<128):
 Calls prog 122 #[.string s] w fun e w'=>e=.returned (.string ⟨(Lib.toLowerA s.data.toList).toArray⟩)/\Below w.heap.size w w':=Any.strings_ToLower_ascii lays159 Builder_Extra_159 s w hs hascii
def Tryz.lays156_ren: Go.Shelf.Ren:=⟨fun|156=>114|165=>164|166=>165|169=>166|240=>214|241=>215|276=>258|277=>259|n=>n,fun|31=>30|9=>9|3=>3|4=>4|0=>0|20=>20|72=>240|76=>190|70=>238|37=>67|75=>189|127=>298|164=>336|5=>5|80=>242|n=>n,fun|n=>n⟩
theorem Tryz.lays156: Go.Proofs.Lays.n156 prog lays156_ren:={
 mixed:=by kernel_rfl
 f156:=func114.trans (congrArg some (by kernel_rfl))
 f165:=func164.trans (congrArg some (by kernel_rfl))
 f166:=func165.trans (congrArg some (by kernel_rfl))
 f169:=func166.trans (congrArg some (by kernel_rfl))
 f240:=func214.trans (congrArg some (by kernel_rfl))
 f241:=func215.trans (congrArg some (by kernel_rfl))
 f276:=func258.trans (congrArg some (by kernel_rfl))
 f277:=func259.trans (congrArg some (by kernel_rfl))
 t0:=underlying0
 a0:=isAgg0
 z0:=sizeOf0
 v0:=zeroValue0
 t3:=underlying3
 a3:=isAgg3
 z3:=sizeOf3
 v3:=zeroValue3
 t4:=underlying4
 a4:=isAgg4
 z4:=sizeOf4
 v4:=zeroValue4
 t9:=underlying9
 a9:=isAgg9
 z9:=sizeOf9
 v9:=zeroValue9
 t20:=underlying20
 a20:=isAgg20
 z20:=sizeOf20
 v20:=zeroValue20
 t31:=underlying30
 a31:=isAgg30
 z31:=sizeOf30
 v31:=zeroValue30
 t37:=underlying67
 a37:=isAgg67
 z37:=sizeOf67
 v37:=zeroValue67
 t70:=underlying238
 a70:=isAgg238
 z70:=sizeOf238
 v70:=zeroValue238
 t72:=underlying240
 a72:=isAgg240
 z72:=sizeOf240
 v72:=zeroValue240
 t75:=underlying189
 a75:=isAgg189
 z75:=sizeOf189
 v75:=zeroValue189
 t76:=underlying190
 a76:=isAgg190
 z76:=sizeOf190
 v76:=zeroValue190
 t127:=underlying298
 a127:=isAgg298
 z127:=sizeOf298
 v127:=zeroValue298
 t164:=underlying336
 a164:=isAgg336
 z164:=sizeOf336
 v164:=zeroValue336 }
theorem Tryz.Builder_Extra_156: Builder.Extra prog lays156_ren:={
 sizeBuilder:=by kernel_rfl
 liesBuilder:=by kernel_rfl
 t5:=underlying5
 a5:=isAgg5
 z5:=sizeOf5
 v5:=zeroValue5
 infoByte:=by kernel_rfl
 cellsByte:=by kernel_rfl
 sizeByte:=by kernel_rfl
 neB5:=by decide }
open Go.RowKit in
theorem Tryz.strings_Join_none(a:Option Addr) (c:Nat) (sep:ByteArray) (w:World):
 Calls prog 114 #[.slice a 0 c,.string sep] w fun e w'=>e=.returned (.string ⟨#[]⟩)/\w'=w:=Any.strings_Join_none lays156 Builder_Extra_156 a c sep w
open Go.RowKit in
theorem Tryz.strings_Join(bk o c:Nat) (xs:List ByteArray) (sep:ByteArray) (w:World) (hcells:∀ (j:Nat) x,xs[j]?=some x->w.cell? ⟨bk,o+j,none⟩=some (.string x)) (hbk:bk<w.heap.size) (hN:xs.length<=140737488355328) (hcap:xs.length<=c) (hlen:(Lib.join (xs.map (·.data.toList)) sep.data.toList).length<=140737488355328):
 Calls prog 114 #[.slice (some ⟨bk,o,none⟩) xs.length c,.string sep] w fun e w'=>e=.returned (.string ⟨(Lib.join (xs.map (·.data.toList)) sep.data.toList).toArray⟩)/\Below w.heap.size w w':=Any.strings_Join lays156 Builder_Extra_156 bk o c xs sep w hcells hbk hN hcap hlen
def Tryz.lays106_ren: Go.Shelf.Ren:=⟨fun|106=>143|213=>193|265=>243|n=>n,fun|9=>9|3=>3|n=>n,fun|n=>n⟩
theorem Tryz.lays106: Go.Proofs.Lays.n106 prog lays106_ren:={
 mixed:=by kernel_rfl
 f106:=func143.trans (congrArg some (by kernel_rfl))
 f213:=func193.trans (congrArg some (by kernel_rfl))
 f265:=func243.trans (congrArg some (by kernel_rfl))
 t3:=underlying3
 a3:=isAgg3
 z3:=sizeOf3
 v3:=zeroValue3
 t9:=underlying9
 a9:=isAgg9
 z9:=sizeOf9
 v9:=zeroValue9 }
open Go.RowKit in
theorem Tryz.strings_Compare(a b:ByteArray) (w:World):
 Calls prog 143 #[.string a,.string b] w fun e w'=>e=.returned (.int .i64 (Lib.compareBytes a.data.toList b.data.toList))/\w'=w:=Any.strings_Compare lays106 a b w
def Tryz.lays137_ren: Go.Shelf.Ren:=⟨fun|137=>333|217=>337|266=>340|n=>n,fun|9=>9|5=>5|3=>3|n=>n,fun|n=>n⟩
theorem Tryz.lays137: Go.Proofs.Lays.n137 prog lays137_ren:={
 mixed:=by kernel_rfl
 f137:=func333.trans (congrArg some (by kernel_rfl))
 f217:=func337.trans (congrArg some (by kernel_rfl))
 f266:=func340.trans (congrArg some (by kernel_rfl))
 t3:=underlying3
 a3:=isAgg3
 z3:=sizeOf3
 v3:=zeroValue3
 t5:=underlying5
 a5:=isAgg5
 z5:=sizeOf5
 v5:=zeroValue5
 t9:=underlying9
 a9:=isAgg9
 z9:=sizeOf9
 v9:=zeroValue9 }
open Go.RowKit in
theorem Tryz.strings_IndexByte(s:ByteArray) (c:Int) (w:World):
 Calls prog 333 #[.string s,.int .u8 c] w fun e w'=>e=.returned (.int .i64 (Lib.indexByte s.data.toList c.toNat.toUInt8))/\w'=w:=Any.strings_IndexByte lays137 s c w
def Tryz.lays171_ren: Go.Shelf.Ren:=⟨fun|171=>119|243=>170|246=>221|283=>263|284=>264|285=>265|286=>266|129=>212|317=>292|318=>293|319=>294|320=>295|337=>320|338=>321|n=>n,fun|3=>3|9=>9|2=>2|4=>4|171=>344|0=>0|53=>296|37=>67|5=>5|173=>346|212=>372|51=>294|20=>20|213=>373|46=>237|232=>405|233=>406|n=>n,fun|17=>4|18=>7|19=>8|n=>n⟩
theorem Tryz.lays171: Go.Proofs.Lays.n171 prog lays171_ren:={
 mixed:=by kernel_rfl
 f129:=func212.trans (congrArg some (by kernel_rfl))
 f171:=func119.trans (congrArg some (by kernel_rfl))
 f243:=func170.trans (congrArg some (by kernel_rfl))
 f246:=func221.trans (congrArg some (by kernel_rfl))
 f283:=func263.trans (congrArg some (by kernel_rfl))
 f284:=func264.trans (congrArg some (by kernel_rfl))
 f285:=func265.trans (congrArg some (by kernel_rfl))
 f286:=func266.trans (congrArg some (by kernel_rfl))
 f317:=func292.trans (congrArg some (by kernel_rfl))
 f318:=func293.trans (congrArg some (by kernel_rfl))
 f319:=func294.trans (congrArg some (by kernel_rfl))
 f320:=func295.trans (congrArg some (by kernel_rfl))
 f337:=func320.trans (congrArg some (by kernel_rfl))
 f338:=func321.trans (congrArg some (by kernel_rfl))
 t0:=underlying0
 a0:=isAgg0
 z0:=sizeOf0
 v0:=zeroValue0
 t2:=underlying2
 a2:=isAgg2
 z2:=sizeOf2
 v2:=zeroValue2
 t3:=underlying3
 a3:=isAgg3
 z3:=sizeOf3
 v3:=zeroValue3
 t4:=underlying4
 a4:=isAgg4
 z4:=sizeOf4
 v4:=zeroValue4
 t5:=underlying5
 a5:=isAgg5
 z5:=sizeOf5
 v5:=zeroValue5
 t9:=underlying9
 a9:=isAgg9
 z9:=sizeOf9
 v9:=zeroValue9
 t20:=underlying20
 a20:=isAgg20
 z20:=sizeOf20
 v20:=zeroValue20
 t37:=underlying67
 a37:=isAgg67
 z37:=sizeOf67
 v37:=zeroValue67
 t46:=underlying237
 a46:=isAgg237
 z46:=sizeOf237
 v46:=zeroValue237
 t51:=underlying294
 a51:=isAgg294
 z51:=sizeOf294
 v51:=zeroValue294
 t53:=underlying296
 a53:=isAgg296
 z53:=sizeOf296
 v53:=zeroValue296
 t171:=underlying344
 a171:=isAgg344
 z171:=sizeOf344
 v171:=zeroValue344
 t173:=underlying346
 a173:=isAgg346
 z173:=sizeOf346
 v173:=zeroValue346
 t212:=underlying372
 a212:=isAgg372
 z212:=sizeOf372
 v212:=zeroValue372
 t213:=underlying373
 a213:=isAgg373
 z213:=sizeOf373
 t232:=underlying405
 a232:=isAgg405
 z232:=sizeOf405
 v232:=zeroValue405
 t233:=underlying406
 a233:=isAgg406
 z233:=sizeOf406
 v233:=zeroValue406
 g17:=by kernel_rfl
 g18:=by kernel_rfl
 g19:=by kernel_rfl }
open Go.RowKit Go.Sort Go.Lib in
theorem Tryz.strconv_Itoa_small(i:Nat) (hi:i<100) (w:World):
 Calls prog 119 #[.int .i64 i] w fun e w'=>e=.returned (.string ⟨(Lib.decDigits i).toArray⟩)/\w'=w:=Any.strconv_Itoa_small lays171 i hi w
def Tryz.lays99_ren: Go.Shelf.Ren:=⟨fun|99=>33|206=>61|n=>n,fun|9=>9|4=>4|3=>3|n=>n,fun|n=>n⟩
theorem Tryz.lays99: Go.Proofs.Lays.n99 prog lays99_ren:={
 mixed:=by kernel_rfl
 f99:=func33.trans (congrArg some (by kernel_rfl))
 f206:=func61.trans (congrArg some (by kernel_rfl))
 t3:=underlying3
 a3:=isAgg3
 z3:=sizeOf3
 v3:=zeroValue3
 t4:=underlying4
 a4:=isAgg4
 z4:=sizeOf4
 v4:=zeroValue4
 t9:=underlying9
 a9:=isAgg9
 z9:=sizeOf9
 v9:=zeroValue9 }
open Go.RowKit Go.Lib in
theorem Tryz.strings_HasPrefix(s p:ByteArray) (w:World):
 Calls prog 33 #[.string s,.string p] w fun e w'=>e=.returned (.bool (Lib.hasPrefix s.data.toList p.data.toList))/\w'=w:=Any.strings_HasPrefix lays99 s p w
def Tryz.lays146_ren: Go.Shelf.Ren:=⟨fun|146=>237|221=>275|268=>303|138=>301|143=>302|195=>326|197=>223|218=>327|219=>328|260=>267|217=>337|225=>336|224=>335|267=>338|266=>340|314=>341|n=>n,fun|9=>9|31=>30|3=>3|4=>4|0=>0|105=>308|21=>21|5=>5|46=>237|119=>374|139=>377|138=>376|146=>410|51=>294|n=>n,fun|1=>0|3=>5|4=>6|n=>n⟩
theorem Tryz.lays146: Go.Proofs.Lays.n146 prog lays146_ren:={
 mixed:=by kernel_rfl
 f138:=func301.trans (congrArg some (by kernel_rfl))
 f143:=func302.trans (congrArg some (by kernel_rfl))
 f146:=func237.trans (congrArg some (by kernel_rfl))
 f195:=func326.trans (congrArg some (by kernel_rfl))
 f197:=func223.trans (congrArg some (by kernel_rfl))
 f217:=func337.trans (congrArg some (by kernel_rfl))
 f218:=func327.trans (congrArg some (by kernel_rfl))
 f219:=func328.trans (congrArg some (by kernel_rfl))
 f221:=func275.trans (congrArg some (by kernel_rfl))
 f224:=func335.trans (congrArg some (by kernel_rfl))
 f225:=func336.trans (congrArg some (by kernel_rfl))
 f260:=func267.trans (congrArg some (by kernel_rfl))
 f266:=func340.trans (congrArg some (by kernel_rfl))
 f267:=func338.trans (congrArg some (by kernel_rfl))
 f268:=func303.trans (congrArg some (by kernel_rfl))
 f314:=func341.trans (congrArg some (by kernel_rfl))
 t0:=underlying0
 a0:=isAgg0
 z0:=sizeOf0
 v0:=zeroValue0
 t3:=underlying3
 a3:=isAgg3
 z3:=sizeOf3
 v3:=zeroValue3
 t4:=underlying4
 a4:=isAgg4
 z4:=sizeOf4
 v4:=zeroValue4
 t5:=underlying5
 a5:=isAgg5
 z5:=sizeOf5
 v5:=zeroValue5
 t9:=underlying9
 a9:=isAgg9
 z9:=sizeOf9
 v9:=zeroValue9
 t21:=underlying21
 a21:=isAgg21
 z21:=sizeOf21
 v21:=zeroValue21
 t31:=underlying30
 a31:=isAgg30
 z31:=sizeOf30
 v31:=zeroValue30
 t46:=underlying237
 a46:=isAgg237
 z46:=sizeOf237
 v46:=zeroValue237
 t51:=underlying294
 a51:=isAgg294
 z51:=sizeOf294
 v51:=zeroValue294
 t105:=underlying308
 a105:=isAgg308
 z105:=sizeOf308
 v105:=zeroValue308
 t119:=underlying374
 a119:=isAgg374
 z119:=sizeOf374
 t138:=underlying376
 a138:=isAgg376
 z138:=sizeOf376
 v138:=zeroValue376
 t139:=underlying377
 a139:=isAgg377
 z139:=sizeOf377
 v139:=zeroValue377
 t146:=underlying410
 a146:=isAgg410
 z146:=sizeOf410
 v146:=zeroValue410
 g1:=by kernel_rfl
 g3:=by kernel_rfl
 g4:=by kernel_rfl }
open Go.RowKit Go.Lib in
theorem Tryz.strings_Split(s sep:ByteArray) (m:Int) (w:World) (hs:s.size<4294967281) (hm:w.cell? ⟨0,0,none⟩=some (.int .i64 m)) (h1:1<=sep.size):
 Calls prog 237 #[.string s,.string sep] w fun e w'=>
 e=.returned (.slice (some ⟨w.heap.size,0,none⟩) (Lib.countB s sep+1) (Lib.countB s sep+1))/\w'=w.alloc (.cells ((Lib.splitB sep 0 (Lib.countB s sep) s).map Value.string).toArray 9):=Any.strings_Split lays146 (by kernel_rfl) s sep m w hs hm h1
def Tryz.lays155_ren: Go.Shelf.Ren:=⟨fun|155=>234|154=>273|138=>301|165=>164|143=>302|166=>165|197=>223|169=>166|195=>326|218=>327|240=>214|241=>215|219=>328|260=>267|276=>258|277=>259|217=>337|225=>336|224=>335|267=>338|266=>340|314=>341|n=>n,fun|9=>9|3=>3|4=>4|72=>240|0=>0|76=>190|105=>308|21=>21|5=>5|70=>238|20=>20|37=>67|75=>189|127=>298|164=>336|46=>237|119=>374|139=>377|138=>376|146=>410|51=>294|80=>242|n=>n,fun|1=>0|3=>5|4=>6|n=>n⟩
theorem Tryz.lays155: Go.Proofs.Lays.n155 prog lays155_ren:={
 mixed:=by kernel_rfl
 f138:=func301.trans (congrArg some (by kernel_rfl))
 f143:=func302.trans (congrArg some (by kernel_rfl))
 f154:=func273.trans (congrArg some (by kernel_rfl))
 f155:=func234.trans (congrArg some (by kernel_rfl))
 f165:=func164.trans (congrArg some (by kernel_rfl))
 f166:=func165.trans (congrArg some (by kernel_rfl))
 f169:=func166.trans (congrArg some (by kernel_rfl))
 f195:=func326.trans (congrArg some (by kernel_rfl))
 f197:=func223.trans (congrArg some (by kernel_rfl))
 f217:=func337.trans (congrArg some (by kernel_rfl))
 f218:=func327.trans (congrArg some (by kernel_rfl))
 f219:=func328.trans (congrArg some (by kernel_rfl))
 f224:=func335.trans (congrArg some (by kernel_rfl))
 f225:=func336.trans (congrArg some (by kernel_rfl))
 f240:=func214.trans (congrArg some (by kernel_rfl))
 f241:=func215.trans (congrArg some (by kernel_rfl))
 f260:=func267.trans (congrArg some (by kernel_rfl))
 f266:=func340.trans (congrArg some (by kernel_rfl))
 f267:=func338.trans (congrArg some (by kernel_rfl))
 f276:=func258.trans (congrArg some (by kernel_rfl))
 f277:=func259.trans (congrArg some (by kernel_rfl))
 f314:=func341.trans (congrArg some (by kernel_rfl))
 t0:=underlying0
 a0:=isAgg0
 z0:=sizeOf0
 v0:=zeroValue0
 t3:=underlying3
 a3:=isAgg3
 z3:=sizeOf3
 v3:=zeroValue3
 t4:=underlying4
 a4:=isAgg4
 z4:=sizeOf4
 v4:=zeroValue4
 t5:=underlying5
 a5:=isAgg5
 z5:=sizeOf5
 v5:=zeroValue5
 t9:=underlying9
 a9:=isAgg9
 z9:=sizeOf9
 v9:=zeroValue9
 t20:=underlying20
 a20:=isAgg20
 z20:=sizeOf20
 v20:=zeroValue20
 t21:=underlying21
 a21:=isAgg21
 z21:=sizeOf21
 v21:=zeroValue21
 t37:=underlying67
 a37:=isAgg67
 z37:=sizeOf67
 v37:=zeroValue67
 t46:=underlying237
 a46:=isAgg237
 z46:=sizeOf237
 v46:=zeroValue237
 t51:=underlying294
 a51:=isAgg294
 z51:=sizeOf294
 v51:=zeroValue294
 t70:=underlying238
 a70:=isAgg238
 z70:=sizeOf238
 v70:=zeroValue238
 t72:=underlying240
 a72:=isAgg240
 z72:=sizeOf240
 v72:=zeroValue240
 t75:=underlying189
 a75:=isAgg189
 z75:=sizeOf189
 v75:=zeroValue189
 t76:=underlying190
 a76:=isAgg190
 z76:=sizeOf190
 v76:=zeroValue190
 t105:=underlying308
 a105:=isAgg308
 z105:=sizeOf308
 v105:=zeroValue308
 t119:=underlying374
 a119:=isAgg374
 z119:=sizeOf374
 t127:=underlying298
 a127:=isAgg298
 z127:=sizeOf298
 v127:=zeroValue298
 t138:=underlying376
 a138:=isAgg376
 z138:=sizeOf376
 v138:=zeroValue376
 t139:=underlying377
 a139:=isAgg377
 z139:=sizeOf377
 v139:=zeroValue377
 t146:=underlying410
 a146:=isAgg410
 z146:=sizeOf410
 v146:=zeroValue410
 t164:=underlying336
 a164:=isAgg336
 z164:=sizeOf336
 v164:=zeroValue336
 g1:=by kernel_rfl
 g3:=by kernel_rfl
 g4:=by kernel_rfl }
theorem Tryz.Builder_Extra_155: Builder.Extra prog lays155_ren:={
 sizeBuilder:=by kernel_rfl
 liesBuilder:=by kernel_rfl
 t5:=underlying5
 a5:=isAgg5
 z5:=sizeOf5
 v5:=zeroValue5
 infoByte:=by kernel_rfl
 cellsByte:=by kernel_rfl
 sizeByte:=by kernel_rfl
 neB5:=by decide }
open Go.RowKit Go.Lib in
theorem Tryz.strings_ReplaceAll(s old new:ByteArray) (m:Int) (w:World) (hs:s.size<4294967281) (hm:w.cell? ⟨0,0,none⟩=some (.int .i64 m)) (h1:1<=old.size) (hlen:s.size+Lib.countB s old*new.size<=140737488355328):
 Calls prog 234 #[.string s,.string old,.string new] w fun e w'=>
 e=.returned (.string ⟨(Lib.replaceAll s.data.toList old.data.toList new.data.toList).toArray⟩)/\Below w.heap.size w w':=Any.strings_ReplaceAll lays155 Builder_Extra_155 s old new m w hs hm h1 hlen
end Go.Proofs
