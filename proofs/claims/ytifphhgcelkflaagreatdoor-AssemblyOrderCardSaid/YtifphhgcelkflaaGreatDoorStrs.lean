import Derived.Shelf.Strings.Builder1
import Derived.Shelf.Strings.Builder2
import Derived.Shelf.Strings.OnBuilder
import Derived.Shelf.Small.Utf8
import Derived.Shelf.Small.Bits
import Derived.Shelf.Small.Strs
import Derived.Shelf.Small.Wraps
import Derived.Shelf.Utf8.RuneCount
import Derived.Shelf.Strconv.Atoi
import Derived.Shelf.Strconv.Itoa0
import Derived.Shelf.Strconv.Itoa1
import Derived.Shelf.LaysM
import Derived.Shelf.Strconv.Itoa2
import Derived.Shelf.Strconv.Itoa3
import Derived.Shelf.Strconv.AtoiErrFast
import Derived.Shelf.Strconv.ParseIntEmpty
import Derived.Shelf.Strconv.AtoiFail
import Derived.Shelf.Strconv.Clone
import Derived.Shelf.Strconv.SyntaxError
import Derived.Shelf.LaysC
import Derived.Shelf.Strconv.ToError
import Derived.Shelf.Strconv.Lower
import Derived.Shelf.Strconv.ParseUint10
import Derived.Shelf.Strconv.ParseUint10Empty
import Derived.Shelf.Strconv.ParseUint10Any
import Derived.Shelf.Strconv.ParseInt10
import Derived.Shelf.Strconv.AtoiLong
import Derived.Shelf.Strconv.AtoiInnerAll
import Derived.Shelf.Strconv.RangeError
import Derived.Shelf.Strconv.ToErrorRange
import Derived.Shelf.Strconv.AtoiAll
import Derived.Shelf.Strings.Search1
import Derived.Shelf.Strings.Search2
import Derived.Shelf.Strings.Search3
import Derived.Shelf.Strings.Count
import Derived.Shelf.Strings.Shaped
import Derived.Shelf.Strings.Prefix
import Derived.Shelf.Strings.Split
import Derived.Shelf.Strings.Replace
import Derived.Shelf.Strings.SplitShaped
import Derived.Shelf.Unicode.Latin
import Derived.Shelf.Unicode.Decode
import Derived.Shelf.Strings.Runes
import Derived.Shelf.Strings.RuneCount
import Derived.Shelf.Strings.IndexAny
import Derived.Shelf.Strings.AsciiSet
import Derived.Shelf.Strings.IndexAnyAll
import Derived.Shelf.Strings.Explode
import Derived.Shelf.Unicode.DecodeSlow
import Derived.Shelf.Unicode.DecodeAny
import Derived.Shelf.Unicode.CaseLookup
import Derived.Shelf.Unicode.CaseConvert
import Derived.Shelf.Unicode.CaseTo
import Derived.Shelf.Unicode.CaseLaid
import Derived.Ground.Names2Prog
import Derived.Shelf.Slices.Clone
import Derived.Shelf.Slices.SearchI
import Derived.Shelf.Slices.Delete
import Derived.Shelf.Slices.Cells
import Derived.Shelf.Slices.Empties
import Derived.Ground.SlgnProg
import Derived.Shelf.SlicesE.Clone
import Derived.Ground.SlgmProg
import Derived.Shelf.SortM.Plain
import Derived.Shelf.SortM.SortNone
import Derived.Test.YtifphhgcelkflaaGreatDoorProg
namespace Go.Proofs
open Tryz
open Go.Shelf
def Tryz.lays159_ren: Go.Shelf.Ren:=⟨fun|159=>123|165=>175|166=>176|167=>180|169=>177|230=>181|204=>182|240=>222|241=>223|197=>225|118=>226|168=>227|270=>228|262=>229|276=>257|277=>258|260=>259|242=>260|313=>261|278=>283|274=>284|275=>285|n=>n,fun|9=>9|4=>4|3=>3|5=>5|72=>238|0=>0|76=>242|75=>241|107=>254|70=>236|20=>20|37=>155|127=>288|21=>21|105=>291|164=>327|162=>333|203=>331|119=>352|46=>194|139=>355|138=>354|51=>192|160=>356|208=>385|206=>383|80=>244|n=>n,fun|13=>4|3=>5|4=>6|n=>n⟩
theorem Tryz.lays159: Go.Proofs.Lays.n159 prog lays159_ren:={
 mixed:=by kernel_rfl
 f118:=func226.trans (congrArg some (by kernel_rfl))
 f159:=func123.trans (congrArg some (by kernel_rfl))
 f165:=func175.trans (congrArg some (by kernel_rfl))
 f166:=func176.trans (congrArg some (by kernel_rfl))
 f167:=func180.trans (congrArg some (by kernel_rfl))
 f168:=func227.trans (congrArg some (by kernel_rfl))
 f169:=func177.trans (congrArg some (by kernel_rfl))
 f197:=func225.trans (congrArg some (by kernel_rfl))
 f204:=func182.trans (congrArg some (by kernel_rfl))
 f230:=func181.trans (congrArg some (by kernel_rfl))
 f240:=func222.trans (congrArg some (by kernel_rfl))
 f241:=func223.trans (congrArg some (by kernel_rfl))
 f242:=func260.trans (congrArg some (by kernel_rfl))
 f260:=func259.trans (congrArg some (by kernel_rfl))
 f262:=func229.trans (congrArg some (by kernel_rfl))
 f270:=func228.trans (congrArg some (by kernel_rfl))
 f274:=func284.trans (congrArg some (by kernel_rfl))
 f275:=func285.trans (congrArg some (by kernel_rfl))
 f276:=func257.trans (congrArg some (by kernel_rfl))
 f277:=func258.trans (congrArg some (by kernel_rfl))
 f278:=func283.trans (congrArg some (by kernel_rfl))
 f313:=func261.trans (congrArg some (by kernel_rfl))
 t0:=underlying0
 a0:=isAgg0
 z0:=sizeOf0
 v0:=zeroValue0
 t3:=underlying3
 a3:=isAgg3
 z3:=sizeOf3
 v3:=zeroValue3
 t4:=underlying4
 a4:=isAgg4
 z4:=sizeOf4
 v4:=zeroValue4
 t5:=underlying5
 a5:=isAgg5
 z5:=sizeOf5
 v5:=zeroValue5
 t9:=underlying9
 a9:=isAgg9
 z9:=sizeOf9
 v9:=zeroValue9
 t20:=underlying20
 a20:=isAgg20
 z20:=sizeOf20
 v20:=zeroValue20
 t21:=underlying21
 a21:=isAgg21
 z21:=sizeOf21
 v21:=zeroValue21
 t37:=underlying155
 a37:=isAgg155
 z37:=sizeOf155
 v37:=zeroValue155
 t46:=underlying194
 a46:=isAgg194
 z46:=sizeOf194
 v46:=zeroValue194
 t51:=underlying192
 a51:=isAgg192
 z51:=sizeOf192
 v51:=zeroValue192
 t70:=underlying236
 a70:=isAgg236
 z70:=sizeOf236
 v70:=zeroValue236
 t72:=underlying238
 a72:=isAgg238
 z72:=sizeOf238
 v72:=zeroValue238
 t75:=underlying241
 a75:=isAgg241
 z75:=sizeOf241
 v75:=zeroValue241
 t76:=underlying242
 a76:=isAgg242
 z76:=sizeOf242
 v76:=zeroValue242
 t105:=underlying291
 a105:=isAgg291
 z105:=sizeOf291
 v105:=zeroValue291
 t107:=underlying254
 a107:=isAgg254
 z107:=sizeOf254
 v107:=zeroValue254
 t119:=underlying352
 a119:=isAgg352
 z119:=sizeOf352
 t127:=underlying288
 a127:=isAgg288
 z127:=sizeOf288
 v127:=zeroValue288
 t138:=underlying354
 a138:=isAgg354
 z138:=sizeOf354
 v138:=zeroValue354
 t139:=underlying355
 a139:=isAgg355
 z139:=sizeOf355
 v139:=zeroValue355
 t160:=underlying356
 a160:=isAgg356
 z160:=sizeOf356
 v160:=zeroValue356
 t162:=underlying333
 a162:=isAgg333
 z162:=sizeOf333
 v162:=zeroValue333
 t164:=underlying327
 a164:=isAgg327
 z164:=sizeOf327
 v164:=zeroValue327
 t203:=underlying331
 a203:=isAgg331
 z203:=sizeOf331
 v203:=zeroValue331
 t206:=underlying383
 a206:=isAgg383
 z206:=sizeOf383
 v206:=zeroValue383
 t208:=underlying385
 a208:=isAgg385
 z208:=sizeOf385
 v208:=zeroValue385
 g3:=by kernel_rfl
 g4:=by kernel_rfl
 g13:=by kernel_rfl }
theorem Tryz.Builder_Extra_159: Builder.Extra prog lays159_ren:={
 sizeBuilder:=by kernel_rfl
 liesBuilder:=by kernel_rfl
 t5:=underlying5
 a5:=isAgg5
 z5:=sizeOf5
 v5:=zeroValue5
 infoByte:=by kernel_rfl
 cellsByte:=by kernel_rfl
 sizeByte:=by kernel_rfl
 neB5:=by decide }
open Go.RowKit in
theorem Tryz.strings_ToLower_ascii(s:ByteArray) (w:World) (hs:s.size<=140737488355328) (hascii:∀ (j:Nat) (b:UInt8),s.data.toList[j]?=some b->b.toNat<128):
 Calls prog 123 #[.string s] w fun e w'=>e=.returned (.string ⟨(Lib.toLowerA s.data.toList).toArray⟩)/\Below w.heap.size w w':=Any.strings_ToLower_ascii lays159 Builder_Extra_159 s w hs hascii
def Tryz.lays156_ren: Go.Shelf.Ren:=⟨fun|156=>120|165=>175|166=>176|169=>177|240=>222|241=>223|276=>257|277=>258|n=>n,fun|31=>30|9=>9|3=>3|4=>4|0=>0|20=>20|72=>238|76=>242|70=>236|37=>155|75=>241|127=>288|164=>327|5=>5|80=>244|n=>n,fun|n=>n⟩
theorem Tryz.lays156: Go.Proofs.Lays.n156 prog lays156_ren:={
 mixed:=by kernel_rfl
 f156:=func120.trans (congrArg some (by kernel_rfl))
 f165:=func175.trans (congrArg some (by kernel_rfl))
 f166:=func176.trans (congrArg some (by kernel_rfl))
 f169:=func177.trans (congrArg some (by kernel_rfl))
 f240:=func222.trans (congrArg some (by kernel_rfl))
 f241:=func223.trans (congrArg some (by kernel_rfl))
 f276:=func257.trans (congrArg some (by kernel_rfl))
 f277:=func258.trans (congrArg some (by kernel_rfl))
 t0:=underlying0
 a0:=isAgg0
 z0:=sizeOf0
 v0:=zeroValue0
 t3:=underlying3
 a3:=isAgg3
 z3:=sizeOf3
 v3:=zeroValue3
 t4:=underlying4
 a4:=isAgg4
 z4:=sizeOf4
 v4:=zeroValue4
 t9:=underlying9
 a9:=isAgg9
 z9:=sizeOf9
 v9:=zeroValue9
 t20:=underlying20
 a20:=isAgg20
 z20:=sizeOf20
 v20:=zeroValue20
 t31:=underlying30
 a31:=isAgg30
 z31:=sizeOf30
 v31:=zeroValue30
 t37:=underlying155
 a37:=isAgg155
 z37:=sizeOf155
 v37:=zeroValue155
 t70:=underlying236
 a70:=isAgg236
 z70:=sizeOf236
 v70:=zeroValue236
 t72:=underlying238
 a72:=isAgg238
 z72:=sizeOf238
 v72:=zeroValue238
 t75:=underlying241
 a75:=isAgg241
 z75:=sizeOf241
 v75:=zeroValue241
 t76:=underlying242
 a76:=isAgg242
 z76:=sizeOf242
 v76:=zeroValue242
 t127:=underlying288
 a127:=isAgg288
 z127:=sizeOf288
 v127:=zeroValue288
 t164:=underlying327
 a164:=isAgg327
 z164:=sizeOf327
 v164:=zeroValue327 }
theorem Tryz.Builder_Extra_156: Builder.Extra prog lays156_ren:={
 sizeBuilder:=by kernel_rfl
 liesBuilder:=by kernel_rfl
 t5:=underlying5
 a5:=isAgg5
 z5:=sizeOf5
 v5:=zeroValue5
 infoByte:=by kernel_rfl
 cellsByte:=by kernel_rfl
 sizeByte:=by kernel_rfl
 neB5:=by decide }
open Go.RowKit in
theorem Tryz.strings_Join_none(a:Option Addr) (c:Nat) (sep:ByteArray) (w:World):
 Calls prog 120 #[.slice a 0 c,.string sep] w fun e w'=>e=.returned (.string ⟨#[]⟩)/\w'=w:=Any.strings_Join_none lays156 Builder_Extra_156 a c sep w
open Go.RowKit in
theorem Tryz.strings_Join(bk o c:Nat) (xs:List ByteArray) (sep:ByteArray) (w:World) (hcells:∀ (j:Nat) x,xs[j]?=some x->w.cell? ⟨bk,o+j,none⟩=some (.string x)) (hbk:bk<w.heap.size) (hN:xs.length<=140737488355328) (hcap:xs.length<=c) (hlen:(Lib.join (xs.map (·.data.toList)) sep.data.toList).length<=140737488355328):
 Calls prog 120 #[.slice (some ⟨bk,o,none⟩) xs.length c,.string sep] w fun e w'=>e=.returned (.string ⟨(Lib.join (xs.map (·.data.toList)) sep.data.toList).toArray⟩)/\Below w.heap.size w w':=Any.strings_Join lays156 Builder_Extra_156 bk o c xs sep w hcells hbk hN hcap hlen
def Tryz.lays106_ren: Go.Shelf.Ren:=⟨fun|106=>151|213=>202|265=>238|n=>n,fun|9=>9|3=>3|n=>n,fun|n=>n⟩
theorem Tryz.lays106: Go.Proofs.Lays.n106 prog lays106_ren:={
 mixed:=by kernel_rfl
 f106:=func151.trans (congrArg some (by kernel_rfl))
 f213:=func202.trans (congrArg some (by kernel_rfl))
 f265:=func238.trans (congrArg some (by kernel_rfl))
 t3:=underlying3
 a3:=isAgg3
 z3:=sizeOf3
 v3:=zeroValue3
 t9:=underlying9
 a9:=isAgg9
 z9:=sizeOf9
 v9:=zeroValue9 }
open Go.RowKit in
theorem Tryz.strings_Compare(a b:ByteArray) (w:World):
 Calls prog 151 #[.string a,.string b] w fun e w'=>e=.returned (.int .i64 (Lib.compareBytes a.data.toList b.data.toList))/\w'=w:=Any.strings_Compare lays106 a b w
def Tryz.lays137_ren: Go.Shelf.Ren:=⟨fun|137=>311|217=>315|266=>336|n=>n,fun|9=>9|5=>5|3=>3|n=>n,fun|n=>n⟩
theorem Tryz.lays137: Go.Proofs.Lays.n137 prog lays137_ren:={
 mixed:=by kernel_rfl
 f137:=func311.trans (congrArg some (by kernel_rfl))
 f217:=func315.trans (congrArg some (by kernel_rfl))
 f266:=func336.trans (congrArg some (by kernel_rfl))
 t3:=underlying3
 a3:=isAgg3
 z3:=sizeOf3
 v3:=zeroValue3
 t5:=underlying5
 a5:=isAgg5
 z5:=sizeOf5
 v5:=zeroValue5
 t9:=underlying9
 a9:=isAgg9
 z9:=sizeOf9
 v9:=zeroValue9 }
open Go.RowKit in
theorem Tryz.strings_IndexByte(s:ByteArray) (c:Int) (w:World):
 Calls prog 311 #[.string s,.int .u8 c] w fun e w'=>e=.returned (.int .i64 (Lib.indexByte s.data.toList c.toNat.toUInt8))/\w'=w:=Any.strings_IndexByte lays137 s c w
def Tryz.lays171_ren: Go.Shelf.Ren:=⟨fun|171=>9|243=>20|246=>42|283=>83|284=>84|285=>85|286=>86|129=>125|317=>124|318=>126|319=>127|320=>128|337=>183|338=>184|n=>n,fun|3=>3|9=>9|2=>2|4=>4|171=>151|0=>0|53=>152|37=>155|5=>5|173=>156|212=>191|51=>192|20=>20|213=>193|46=>194|232=>297|233=>298|n=>n,fun|17=>0|18=>1|19=>2|n=>n⟩
theorem Tryz.lays171: Go.Proofs.Lays.n171 prog lays171_ren:={
 mixed:=by kernel_rfl
 f129:=func125.trans (congrArg some (by kernel_rfl))
 f171:=func9.trans (congrArg some (by kernel_rfl))
 f243:=func20.trans (congrArg some (by kernel_rfl))
 f246:=func42.trans (congrArg some (by kernel_rfl))
 f283:=func83.trans (congrArg some (by kernel_rfl))
 f284:=func84.trans (congrArg some (by kernel_rfl))
 f285:=func85.trans (congrArg some (by kernel_rfl))
 f286:=func86.trans (congrArg some (by kernel_rfl))
 f317:=func124.trans (congrArg some (by kernel_rfl))
 f318:=func126.trans (congrArg some (by kernel_rfl))
 f319:=func127.trans (congrArg some (by kernel_rfl))
 f320:=func128.trans (congrArg some (by kernel_rfl))
 f337:=func183.trans (congrArg some (by kernel_rfl))
 f338:=func184.trans (congrArg some (by kernel_rfl))
 t0:=underlying0
 a0:=isAgg0
 z0:=sizeOf0
 v0:=zeroValue0
 t2:=underlying2
 a2:=isAgg2
 z2:=sizeOf2
 v2:=zeroValue2
 t3:=underlying3
 a3:=isAgg3
 z3:=sizeOf3
 v3:=zeroValue3
 t4:=underlying4
 a4:=isAgg4
 z4:=sizeOf4
 v4:=zeroValue4
 t5:=underlying5
 a5:=isAgg5
 z5:=sizeOf5
 v5:=zeroValue5
 t9:=underlying9
 a9:=isAgg9
 z9:=sizeOf9
 v9:=zeroValue9
 t20:=underlying20
 a20:=isAgg20
 z20:=sizeOf20
 v20:=zeroValue20
 t37:=underlying155
 a37:=isAgg155
 z37:=sizeOf155
 v37:=zeroValue155
 t46:=underlying194
 a46:=isAgg194
 z46:=sizeOf194
 v46:=zeroValue194
 t51:=underlying192
 a51:=isAgg192
 z51:=sizeOf192
 v51:=zeroValue192
 t53:=underlying152
 a53:=isAgg152
 z53:=sizeOf152
 v53:=zeroValue152
 t171:=underlying151
 a171:=isAgg151
 z171:=sizeOf151
 v171:=zeroValue151
 t173:=underlying156
 a173:=isAgg156
 z173:=sizeOf156
 v173:=zeroValue156
 t212:=underlying191
 a212:=isAgg191
 z212:=sizeOf191
 v212:=zeroValue191
 t213:=underlying193
 a213:=isAgg193
 z213:=sizeOf193
 t232:=underlying297
 a232:=isAgg297
 z232:=sizeOf297
 v232:=zeroValue297
 t233:=underlying298
 a233:=isAgg298
 z233:=sizeOf298
 v233:=zeroValue298
 g17:=by kernel_rfl
 g18:=by kernel_rfl
 g19:=by kernel_rfl }
open Go.RowKit Go.Sort Go.Lib in
theorem Tryz.strconv_Itoa_small(i:Nat) (hi:i<100) (w:World):
 Calls prog 9 #[.int .i64 i] w fun e w'=>e=.returned (.string ⟨(Lib.decDigits i).toArray⟩)/\w'=w:=Any.strconv_Itoa_small lays171 i hi w
def Tryz.lays99_ren: Go.Shelf.Ren:=⟨fun|99=>72|206=>118|n=>n,fun|9=>9|4=>4|3=>3|n=>n,fun|n=>n⟩
theorem Tryz.lays99: Go.Proofs.Lays.n99 prog lays99_ren:={
 mixed:=by kernel_rfl
 f99:=func72.trans (congrArg some (by kernel_rfl))
 f206:=func118.trans (congrArg some (by kernel_rfl))
 t3:=underlying3
 a3:=isAgg3
 z3:=sizeOf3
 v3:=zeroValue3
 t4:=underlying4
 a4:=isAgg4
 z4:=sizeOf4
 v4:=zeroValue4
 t9:=underlying9
 a9:=isAgg9
 z9:=sizeOf9
 v9:=zeroValue9 }
open Go.RowKit Go.Lib in
theorem Tryz.strings_HasPrefix(s p:ByteArray) (w:World):
 Calls prog 72 #[.string s,.string p] w fun e w'=>e=.returned (.bool (Lib.hasPrefix s.data.toList p.data.toList))/\w'=w:=Any.strings_HasPrefix lays99 s p w
def Tryz.lays146_ren: Go.Shelf.Ren:=⟨fun|146=>194|221=>235|268=>266|138=>264|143=>265|195=>290|197=>225|218=>291|219=>292|260=>259|217=>315|225=>314|224=>313|267=>316|266=>336|314=>337|n=>n,fun|9=>9|31=>30|3=>3|4=>4|0=>0|105=>291|21=>21|5=>5|46=>194|119=>352|139=>355|138=>354|146=>403|51=>192|n=>n,fun|1=>3|3=>5|4=>6|n=>n⟩
theorem Tryz.lays146: Go.Proofs.Lays.n146 prog lays146_ren:={
 mixed:=by kernel_rfl
 f138:=func264.trans (congrArg some (by kernel_rfl))
 f143:=func265.trans (congrArg some (by kernel_rfl))
 f146:=func194.trans (congrArg some (by kernel_rfl))
 f195:=func290.trans (congrArg some (by kernel_rfl))
 f197:=func225.trans (congrArg some (by kernel_rfl))
 f217:=func315.trans (congrArg some (by kernel_rfl))
 f218:=func291.trans (congrArg some (by kernel_rfl))
 f219:=func292.trans (congrArg some (by kernel_rfl))
 f221:=func235.trans (congrArg some (by kernel_rfl))
 f224:=func313.trans (congrArg some (by kernel_rfl))
 f225:=func314.trans (congrArg some (by kernel_rfl))
 f260:=func259.trans (congrArg some (by kernel_rfl))
 f266:=func336.trans (congrArg some (by kernel_rfl))
 f267:=func316.trans (congrArg some (by kernel_rfl))
 f268:=func266.trans (congrArg some (by kernel_rfl))
 f314:=func337.trans (congrArg some (by kernel_rfl))
 t0:=underlying0
 a0:=isAgg0
 z0:=sizeOf0
 v0:=zeroValue0
 t3:=underlying3
 a3:=isAgg3
 z3:=sizeOf3
 v3:=zeroValue3
 t4:=underlying4
 a4:=isAgg4
 z4:=sizeOf4
 v4:=zeroValue4
 t5:=underlying5
 a5:=isAgg5
 z5:=sizeOf5
 v5:=zeroValue5
 t9:=underlying9
 a9:=isAgg9
 z9:=sizeOf9
 v9:=zeroValue9
 t21:=underlying21
 a21:=isAgg21
 z21:=sizeOf21
 v21:=zeroValue21
 t31:=underlying30
 a31:=isAgg30
 z31:=sizeOf30
 v31:=zeroValue30
 t46:=underlying194
 a46:=isAgg194
 z46:=sizeOf194
 v46:=zeroValue194
 t51:=underlying192
 a51:=isAgg192
 z51:=sizeOf192
 v51:=zeroValue192
 t105:=underlying291
 a105:=isAgg291
 z105:=sizeOf291
 v105:=zeroValue291
 t119:=underlying352
 a119:=isAgg352
 z119:=sizeOf352
 t138:=underlying354
 a138:=isAgg354
 z138:=sizeOf354
 v138:=zeroValue354
 t139:=underlying355
 a139:=isAgg355
 z139:=sizeOf355
 v139:=zeroValue355
 t146:=underlying403
 a146:=isAgg403
 z146:=sizeOf403
 v146:=zeroValue403
 g1:=by kernel_rfl
 g3:=by kernel_rfl
 g4:=by kernel_rfl }
open Go.RowKit Go.Lib in
theorem Tryz.strings_Split(s sep:ByteArray) (m:Int) (w:World) (hs:s.size<4294967281) (hm:w.cell? ⟨3,0,none⟩=some (.int .i64 m)) (h1:1<=sep.size):
 Calls prog 194 #[.string s,.string sep] w fun e w'=>
 e=.returned (.slice (some ⟨w.heap.size,0,none⟩) (Lib.countB s sep+1) (Lib.countB s sep+1))/\w'=w.alloc (.cells ((Lib.splitB sep 0 (Lib.countB s sep) s).map Value.string).toArray 9):=Any.strings_Split lays146 (by kernel_rfl) s sep m w hs hm h1
def Tryz.lays155_ren: Go.Shelf.Ren:=⟨fun|155=>191|154=>233|138=>264|165=>175|143=>265|166=>176|197=>225|169=>177|195=>290|218=>291|240=>222|241=>223|219=>292|260=>259|276=>257|277=>258|217=>315|225=>314|224=>313|267=>316|266=>336|314=>337|n=>n,fun|9=>9|3=>3|4=>4|72=>238|0=>0|76=>242|105=>291|21=>21|5=>5|70=>236|20=>20|37=>155|75=>241|127=>288|164=>327|46=>194|119=>352|139=>355|138=>354|146=>403|51=>192|80=>244|n=>n,fun|1=>3|3=>5|4=>6|n=>n⟩
theorem Tryz.lays155: Go.Proofs.Lays.n155 prog lays155_ren:={
 mixed:=by kernel_rfl
 f138:=func264.trans (congrArg some (by kernel_rfl))
 f143:=func265.trans (congrArg some (by kernel_rfl))
 f154:=func233.trans (congrArg some (by kernel_rfl))
 f155:=func191.trans (congrArg some (by kernel_rfl))
 f165:=func175.trans (congrArg some (by kernel_rfl))
 f166:=func176.trans (congrArg some (by kernel_rfl))
 f169:=func177.trans (congrArg some (by kernel_rfl))
 f195:=func290.trans (congrArg some (by kernel_rfl))
 f197:=func225.trans (congrArg some (by kernel_rfl))
 f217:=func315.trans (congrArg some (by kernel_rfl))
 f218:=func291.trans (congrArg some (by kernel_rfl))
 f219:=func292.trans (congrArg some (by kernel_rfl))
 f224:=func313.trans (congrArg some (by kernel_rfl))
 f225:=func314.trans (congrArg some (by kernel_rfl))
 f240:=func222.trans (congrArg some (by kernel_rfl))
 f241:=func223.trans (congrArg some (by kernel_rfl))
 f260:=func259.trans (congrArg some (by kernel_rfl))
 f266:=func336.trans (congrArg some (by kernel_rfl))
 f267:=func316.trans (congrArg some (by kernel_rfl))
 f276:=func257.trans (congrArg some (by kernel_rfl))
 f277:=func258.trans (congrArg some (by kernel_rfl))
 f314:=func337.trans (congrArg some (by kernel_rfl))
 t0:=underlying0
 a0:=isAgg0
 z0:=sizeOf0
 v0:=zeroValue0
 t3:=underlying3
 a3:=isAgg3
 z3:=sizeOf3
 v3:=zeroValue3
 t4:=underlying4
 a4:=isAgg4
 z4:=sizeOf4
 v4:=zeroValue4
 t5:=underlying5
 a5:=isAgg5
 z5:=sizeOf5
 v5:=zeroValue5
 t9:=underlying9
 a9:=isAgg9
 z9:=sizeOf9
 v9:=zeroValue9
 t20:=underlying20
 a20:=isAgg20
 z20:=sizeOf20
 v20:=zeroValue20
 t21:=underlying21
 a21:=isAgg21
 z21:=sizeOf21
 v21:=zeroValue21
 t37:=underlying155
 a37:=isAgg155
 z37:=sizeOf155
 v37:=zeroValue155
 t46:=underlying194
 a46:=isAgg194
 z46:=sizeOf194
 v46:=zeroValue194
 t51:=underlying192
 a51:=isAgg192
 z51:=sizeOf192
 v51:=zeroValue192
 t70:=underlying236
 a70:=isAgg236
 z70:=sizeOf236
 v70:=zeroValue236
 t72:=underlying238
 a72:=isAgg238
 z72:=sizeOf238
 v72:=zeroValue238
 t75:=underlying241
 a75:=isAgg241
 z75:=sizeOf241
 v75:=zeroValue241
 t76:=underlying242
 a76:=isAgg242
 z76:=sizeOf242
 v76:=zeroValue242
 t105:=underlying291
 a105:=isAgg291
 z105:=sizeOf291
 v105:=zeroValue291
 t119:=underlying352
 a119:=isAgg352
 z119:=sizeOf352
 t127:=underlying288
 a127:=isAgg288
 z127:=sizeOf288
 v127:=zeroValue288
 t138:=underlying354
 a138:=isAgg354
 z138:=sizeOf354
 v138:=zeroValue354
 t139:=underlying355
 a139:=isAgg355
 z139:=sizeOf355
 v139:=zeroValue355
 t146:=underlying403
 a146:=isAgg403
 z146:=sizeOf403
 v146:=zeroValue403
 t164:=underlying327
 a164:=isAgg327
 z164:=sizeOf327
 v164:=zeroValue327
 g1:=by kernel_rfl
 g3:=by kernel_rfl
 g4:=by kernel_rfl }
theorem Tryz.Builder_Extra_155: Builder.Extra prog lays155_ren:={
 sizeBuilder:=by kernel_rfl
 liesBuilder:=by kernel_rfl
 t5:=underlying5
 a5:=isAgg5
 z5:=sizeOf5
 v5:=zeroValue5
 infoByte:=by kernel_rfl
 cellsByte:=by kernel_rfl
 sizeByte:=by kernel_rfl
 neB5:=by decide }
open Go.RowKit Go.Lib in
theorem Tryz.strings_ReplaceAll(s old new:ByteArray) (m:Int) (w:World) (hs:s.size<4294967281) (hm:w.cell? ⟨3,0,none⟩=some (.int .i64 m)) (h1:1<=old.size) (hlen:s.size+Lib.countB s old*new.size<=140737488355328):
 Calls prog 191 #[.string s,.string old,.string new] w fun e w'=>
 e=.returned (.string ⟨(Lib.replaceAll s.data.toList old.data.toList new.data.toList).toArray⟩)/\Below w.heap.size w w':=Any.strings_ReplaceAll lays155 Builder_Extra_155 s old new m w hs hm h1 hlen
end Go.Proofs
