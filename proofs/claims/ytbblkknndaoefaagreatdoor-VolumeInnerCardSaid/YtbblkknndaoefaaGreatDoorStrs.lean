/-
  DERIVED: THE SHELF's CONTRACTS AT THIS DUMP, IN PLAIN WORDS (tools/lay-plain.mjs out of 'YtbblkknndaoefaaGreatDoorStrsSrc.lean', which tools/lay-shelf.mjs wrote): THE SAME DECLARATIONS UNDER THE SAME NAMES: 'import', 'namespace', 'open', 'def', 'theorem' AND NOTHING ELSE: no command of the shelf's: FOR A HAND-IN. Each laying: the table of numbers ('.._ren') and one theorem, a field a fact of the dump's own or the kernel's comparison; each contract: ONE APPLICATION.
-/
import Derived.Shelf.Strings.Builder1
import Derived.Shelf.Strings.Builder2
import Derived.Shelf.Strings.OnBuilder
import Derived.Shelf.Small.Utf8
import Derived.Shelf.Small.Strs
import Derived.Shelf.Small.Wraps
import Derived.Shelf.Strconv.Atoi
import Derived.Shelf.Strconv.Itoa0
import Derived.Shelf.Strconv.Itoa1
import Derived.Shelf.LaysM
import Derived.Shelf.Strconv.Itoa2
import Derived.Shelf.Strconv.Itoa3
import Derived.Shelf.Strconv.AtoiErrFast
import Derived.Shelf.Strconv.ParseIntEmpty
import Derived.Shelf.Strconv.AtoiFail
import Derived.Shelf.Strconv.Clone
import Derived.Shelf.Strconv.SyntaxError
import Derived.Shelf.LaysC
import Derived.Shelf.Strconv.ToError
import Derived.Shelf.Strconv.Lower
import Derived.Shelf.Strconv.ParseUint10
import Derived.Shelf.Strconv.ParseUint10Empty
import Derived.Shelf.Strconv.ParseUint10Any
import Derived.Shelf.Strconv.ParseInt10
import Derived.Shelf.Strconv.AtoiLong
import Derived.Shelf.Strconv.AtoiInnerAll
import Derived.Shelf.Strconv.RangeError
import Derived.Shelf.Strconv.ToErrorRange
import Derived.Shelf.Strconv.AtoiAll
import Derived.Shelf.Strings.Search1
import Derived.Shelf.Strings.Search2
import Derived.Shelf.Strings.Search3
import Derived.Shelf.Strings.Count
import Derived.Shelf.Strings.Shaped
import Derived.Shelf.Strings.Prefix
import Derived.Shelf.Strings.Split
import Derived.Shelf.Strings.SplitShaped
import Derived.Shelf.Unicode.Latin
import Derived.Shelf.Strings.Runes
import Derived.Shelf.Strings.IndexAny
import Derived.Shelf.Strings.AsciiSet
import Derived.Shelf.Strings.IndexAnyAll
import Derived.Shelf.Unicode.DecodeSlow
import Derived.Shelf.Unicode.CaseLookup
import Derived.Shelf.Unicode.CaseConvert
import Derived.Shelf.Unicode.CaseTo
import Derived.Shelf.Unicode.CaseLaid
import Derived.Ground.SlgmProg
import Derived.Shelf.SortM.Plain
import Derived.Shelf.SortM.SortNone
import Derived.Test.YtbblkknndaoefaaGreatDoorProg
namespace Go.Proofs
open Go.Shelf
def Tryz.lays159_ren : Go.Shelf.Ren := ⟨fun | 159 => 139 | 165 => 172 | 166 => 173 | 167 => 174 | 169 => 175 | 230 => 176 | 204 => 177 | 240 => 205 | 241 => 206 | 197 => 207 | 118 => 208 | 168 => 209 | 270 => 210 | 262 => 211 | 276 => 232 | 277 => 233 | 260 => 234 | 242 => 235 | 313 => 236 | 278 => 242 | 274 => 243 | 275 => 244 | n => n, fun | 9 => 9 | 4 => 4 | 3 => 3 | 5 => 5 | 72 => 198 | 0 => 0 | 76 => 168 | 75 => 167 | 107 => 203 | 70 => 196 | 20 => 20 | 37 => 179 | 127 => 224 | 21 => 21 | 105 => 225 | 164 => 242 | 162 => 248 | 203 => 246 | 119 => 257 | 46 => 161 | 139 => 260 | 138 => 259 | 51 => 194 | 160 => 261 | 208 => 273 | 206 => 271 | 80 => 201 | n => n, fun | 13 => 2 | 3 => 7 | 4 => 8 | n => n⟩
theorem Tryz.lays159 : Go.Proofs.Lays.n159 Tryz.prog Tryz.lays159_ren := {
  mixed := by kernel_rfl
  f118 := Tryz.func208.trans (congrArg some (by kernel_rfl))
  f159 := Tryz.func139.trans (congrArg some (by kernel_rfl))
  f165 := Tryz.func172.trans (congrArg some (by kernel_rfl))
  f166 := Tryz.func173.trans (congrArg some (by kernel_rfl))
  f167 := Tryz.func174.trans (congrArg some (by kernel_rfl))
  f168 := Tryz.func209.trans (congrArg some (by kernel_rfl))
  f169 := Tryz.func175.trans (congrArg some (by kernel_rfl))
  f197 := Tryz.func207.trans (congrArg some (by kernel_rfl))
  f204 := Tryz.func177.trans (congrArg some (by kernel_rfl))
  f230 := Tryz.func176.trans (congrArg some (by kernel_rfl))
  f240 := Tryz.func205.trans (congrArg some (by kernel_rfl))
  f241 := Tryz.func206.trans (congrArg some (by kernel_rfl))
  f242 := Tryz.func235.trans (congrArg some (by kernel_rfl))
  f260 := Tryz.func234.trans (congrArg some (by kernel_rfl))
  f262 := Tryz.func211.trans (congrArg some (by kernel_rfl))
  f270 := Tryz.func210.trans (congrArg some (by kernel_rfl))
  f274 := Tryz.func243.trans (congrArg some (by kernel_rfl))
  f275 := Tryz.func244.trans (congrArg some (by kernel_rfl))
  f276 := Tryz.func232.trans (congrArg some (by kernel_rfl))
  f277 := Tryz.func233.trans (congrArg some (by kernel_rfl))
  f278 := Tryz.func242.trans (congrArg some (by kernel_rfl))
  f313 := Tryz.func236.trans (congrArg some (by kernel_rfl))
  t0 := Tryz.underlying0
  a0 := Tryz.isAgg0
  z0 := Tryz.sizeOf0
  v0 := Tryz.zeroValue0
  t3 := Tryz.underlying3
  a3 := Tryz.isAgg3
  z3 := Tryz.sizeOf3
  v3 := Tryz.zeroValue3
  t4 := Tryz.underlying4
  a4 := Tryz.isAgg4
  z4 := Tryz.sizeOf4
  v4 := Tryz.zeroValue4
  t5 := Tryz.underlying5
  a5 := Tryz.isAgg5
  z5 := Tryz.sizeOf5
  v5 := Tryz.zeroValue5
  t9 := Tryz.underlying9
  a9 := Tryz.isAgg9
  z9 := Tryz.sizeOf9
  v9 := Tryz.zeroValue9
  t20 := Tryz.underlying20
  a20 := Tryz.isAgg20
  z20 := Tryz.sizeOf20
  v20 := Tryz.zeroValue20
  t21 := Tryz.underlying21
  a21 := Tryz.isAgg21
  z21 := Tryz.sizeOf21
  v21 := Tryz.zeroValue21
  t37 := Tryz.underlying179
  a37 := Tryz.isAgg179
  z37 := Tryz.sizeOf179
  v37 := Tryz.zeroValue179
  t46 := Tryz.underlying161
  a46 := Tryz.isAgg161
  z46 := Tryz.sizeOf161
  v46 := Tryz.zeroValue161
  t51 := Tryz.underlying194
  a51 := Tryz.isAgg194
  z51 := Tryz.sizeOf194
  v51 := Tryz.zeroValue194
  t70 := Tryz.underlying196
  a70 := Tryz.isAgg196
  z70 := Tryz.sizeOf196
  v70 := Tryz.zeroValue196
  t72 := Tryz.underlying198
  a72 := Tryz.isAgg198
  z72 := Tryz.sizeOf198
  v72 := Tryz.zeroValue198
  t75 := Tryz.underlying167
  a75 := Tryz.isAgg167
  z75 := Tryz.sizeOf167
  v75 := Tryz.zeroValue167
  t76 := Tryz.underlying168
  a76 := Tryz.isAgg168
  z76 := Tryz.sizeOf168
  v76 := Tryz.zeroValue168
  t105 := Tryz.underlying225
  a105 := Tryz.isAgg225
  z105 := Tryz.sizeOf225
  v105 := Tryz.zeroValue225
  t107 := Tryz.underlying203
  a107 := Tryz.isAgg203
  z107 := Tryz.sizeOf203
  v107 := Tryz.zeroValue203
  t119 := Tryz.underlying257
  a119 := Tryz.isAgg257
  z119 := Tryz.sizeOf257
  t127 := Tryz.underlying224
  a127 := Tryz.isAgg224
  z127 := Tryz.sizeOf224
  v127 := Tryz.zeroValue224
  t138 := Tryz.underlying259
  a138 := Tryz.isAgg259
  z138 := Tryz.sizeOf259
  v138 := Tryz.zeroValue259
  t139 := Tryz.underlying260
  a139 := Tryz.isAgg260
  z139 := Tryz.sizeOf260
  v139 := Tryz.zeroValue260
  t160 := Tryz.underlying261
  a160 := Tryz.isAgg261
  z160 := Tryz.sizeOf261
  v160 := Tryz.zeroValue261
  t162 := Tryz.underlying248
  a162 := Tryz.isAgg248
  z162 := Tryz.sizeOf248
  v162 := Tryz.zeroValue248
  t164 := Tryz.underlying242
  a164 := Tryz.isAgg242
  z164 := Tryz.sizeOf242
  v164 := Tryz.zeroValue242
  t203 := Tryz.underlying246
  a203 := Tryz.isAgg246
  z203 := Tryz.sizeOf246
  v203 := Tryz.zeroValue246
  t206 := Tryz.underlying271
  a206 := Tryz.isAgg271
  z206 := Tryz.sizeOf271
  v206 := Tryz.zeroValue271
  t208 := Tryz.underlying273
  a208 := Tryz.isAgg273
  z208 := Tryz.sizeOf273
  v208 := Tryz.zeroValue273
  g3 := by kernel_rfl
  g4 := by kernel_rfl
  g13 := by kernel_rfl }
theorem Tryz.Builder_Extra_159 : Builder.Extra Tryz.prog Tryz.lays159_ren := {
  sizeBuilder := by kernel_rfl
  liesBuilder := by kernel_rfl
  t5 := Tryz.underlying5
  a5 := Tryz.isAgg5
  z5 := Tryz.sizeOf5
  v5 := Tryz.zeroValue5
  infoByte := by kernel_rfl
  cellsByte := by kernel_rfl
  sizeByte := by kernel_rfl
  neB5 := by decide }
open Go.RowKit in
/-- strings.ToLower: "ToLower returns s with all Unicode letters mapped to their lower case.": ON ASCII TEXT OF AT MOST 2^47 BYTES. Below the heap's end the world is as it was: where a letter turns, the call makes a builder and its buffer. (LAID: no walk: one application.) -/
theorem Tryz.strings_ToLower_ascii (s : ByteArray) (w : World) (hs : s.size ≤ 140737488355328) (hascii : ∀ (j : Nat) (b : UInt8), s.data.toList[j]? = some b → b.toNat < 128) :
    Calls Tryz.prog 139 #[.string s] w fun e w' => e = .returned (.string ⟨(Lib.toLowerA s.data.toList).toArray⟩) ∧ Below w.heap.size w w' := Any.strings_ToLower_ascii Tryz.lays159 Tryz.Builder_Extra_159 s w hs hascii
def Tryz.lays156_ren : Go.Shelf.Ren := ⟨fun | 156 => 186 | 165 => 172 | 166 => 173 | 169 => 175 | 240 => 205 | 241 => 206 | 276 => 232 | 277 => 233 | n => n, fun | 31 => 33 | 9 => 9 | 3 => 3 | 4 => 4 | 0 => 0 | 20 => 20 | 72 => 198 | 76 => 168 | 70 => 196 | 37 => 179 | 75 => 167 | 127 => 224 | 164 => 242 | 5 => 5 | 80 => 201 | n => n, fun | n => n⟩
theorem Tryz.lays156 : Go.Proofs.Lays.n156 Tryz.prog Tryz.lays156_ren := {
  mixed := by kernel_rfl
  f156 := Tryz.func186.trans (congrArg some (by kernel_rfl))
  f165 := Tryz.func172.trans (congrArg some (by kernel_rfl))
  f166 := Tryz.func173.trans (congrArg some (by kernel_rfl))
  f169 := Tryz.func175.trans (congrArg some (by kernel_rfl))
  f240 := Tryz.func205.trans (congrArg some (by kernel_rfl))
  f241 := Tryz.func206.trans (congrArg some (by kernel_rfl))
  f276 := Tryz.func232.trans (congrArg some (by kernel_rfl))
  f277 := Tryz.func233.trans (congrArg some (by kernel_rfl))
  t0 := Tryz.underlying0
  a0 := Tryz.isAgg0
  z0 := Tryz.sizeOf0
  v0 := Tryz.zeroValue0
  t3 := Tryz.underlying3
  a3 := Tryz.isAgg3
  z3 := Tryz.sizeOf3
  v3 := Tryz.zeroValue3
  t4 := Tryz.underlying4
  a4 := Tryz.isAgg4
  z4 := Tryz.sizeOf4
  v4 := Tryz.zeroValue4
  t9 := Tryz.underlying9
  a9 := Tryz.isAgg9
  z9 := Tryz.sizeOf9
  v9 := Tryz.zeroValue9
  t20 := Tryz.underlying20
  a20 := Tryz.isAgg20
  z20 := Tryz.sizeOf20
  v20 := Tryz.zeroValue20
  t31 := Tryz.underlying33
  a31 := Tryz.isAgg33
  z31 := Tryz.sizeOf33
  v31 := Tryz.zeroValue33
  t37 := Tryz.underlying179
  a37 := Tryz.isAgg179
  z37 := Tryz.sizeOf179
  v37 := Tryz.zeroValue179
  t70 := Tryz.underlying196
  a70 := Tryz.isAgg196
  z70 := Tryz.sizeOf196
  v70 := Tryz.zeroValue196
  t72 := Tryz.underlying198
  a72 := Tryz.isAgg198
  z72 := Tryz.sizeOf198
  v72 := Tryz.zeroValue198
  t75 := Tryz.underlying167
  a75 := Tryz.isAgg167
  z75 := Tryz.sizeOf167
  v75 := Tryz.zeroValue167
  t76 := Tryz.underlying168
  a76 := Tryz.isAgg168
  z76 := Tryz.sizeOf168
  v76 := Tryz.zeroValue168
  t127 := Tryz.underlying224
  a127 := Tryz.isAgg224
  z127 := Tryz.sizeOf224
  v127 := Tryz.zeroValue224
  t164 := Tryz.underlying242
  a164 := Tryz.isAgg242
  z164 := Tryz.sizeOf242
  v164 := Tryz.zeroValue242 }
theorem Tryz.Builder_Extra_156 : Builder.Extra Tryz.prog Tryz.lays156_ren := {
  sizeBuilder := by kernel_rfl
  liesBuilder := by kernel_rfl
  t5 := Tryz.underlying5
  a5 := Tryz.isAgg5
  z5 := Tryz.sizeOf5
  v5 := Tryz.zeroValue5
  infoByte := by kernel_rfl
  cellsByte := by kernel_rfl
  sizeByte := by kernel_rfl
  neB5 := by decide }
open Go.RowKit in
/-- No element: the empty string; the world is as it was. (Whatever the slice's address and capacity: a nil slice too.) (LAID: no walk: one application.) -/
theorem Tryz.strings_Join_none (a : Option Addr) (c : Nat) (sep : ByteArray) (w : World) :
    Calls Tryz.prog 186 #[.slice a 0 c, .string sep] w fun e w' => e = .returned (.string ⟨#[]⟩) ∧ w' = w := Any.strings_Join_none Tryz.lays156 Tryz.Builder_Extra_156 a c sep w
open Go.RowKit in
/-- strings.Join: "Join concatenates the elements of its first argument to create a single string. The separator string sep is placed between elements in the resulting string.": HOWEVER MANY ELEMENTS. Below the heap's end the world is as it was. (LAID: no walk: one application.) -/
theorem Tryz.strings_Join (bk o c : Nat) (xs : List ByteArray) (sep : ByteArray) (w : World) (hcells : ∀ (j : Nat) x, xs[j]? = some x → w.cell? ⟨bk, o + j, none⟩ = some (.string x)) (hbk : bk < w.heap.size) (hN : xs.length ≤ 140737488355328) (hcap : xs.length ≤ c) (hlen : (Lib.join (xs.map (·.data.toList)) sep.data.toList).length ≤ 140737488355328) :
    Calls Tryz.prog 186 #[.slice (some ⟨bk, o, none⟩) xs.length c, .string sep] w fun e w' => e = .returned (.string ⟨(Lib.join (xs.map (·.data.toList)) sep.data.toList).toArray⟩) ∧ Below w.heap.size w w' := Any.strings_Join Tryz.lays156 Tryz.Builder_Extra_156 bk o c xs sep w hcells hbk hN hcap hlen
def Tryz.lays106_ren : Go.Shelf.Ren := ⟨fun | 106 => 171 | 213 => 204 | 265 => 231 | n => n, fun | 9 => 9 | 3 => 3 | n => n, fun | n => n⟩
theorem Tryz.lays106 : Go.Proofs.Lays.n106 Tryz.prog Tryz.lays106_ren := {
  mixed := by kernel_rfl
  f106 := Tryz.func171.trans (congrArg some (by kernel_rfl))
  f213 := Tryz.func204.trans (congrArg some (by kernel_rfl))
  f265 := Tryz.func231.trans (congrArg some (by kernel_rfl))
  t3 := Tryz.underlying3
  a3 := Tryz.isAgg3
  z3 := Tryz.sizeOf3
  v3 := Tryz.zeroValue3
  t9 := Tryz.underlying9
  a9 := Tryz.isAgg9
  z9 := Tryz.sizeOf9
  v9 := Tryz.zeroValue9 }
open Go.RowKit in
/-- strings.Compare: "Compare returns an integer comparing two strings lexicographically. The result will be 0 if a == b, -1 if a < b, and +1 if a > b.": IT RETURNS 'Lib.compareBytes a b'; the world is as it was. (LAID: no walk: one application.) -/
theorem Tryz.strings_Compare (a b : ByteArray) (w : World) :
    Calls Tryz.prog 171 #[.string a, .string b] w fun e w' => e = .returned (.int .i64 (Lib.compareBytes a.data.toList b.data.toList)) ∧ w' = w := Any.strings_Compare Tryz.lays106 a b w
def Tryz.lays137_ren : Go.Shelf.Ren := ⟨fun | 137 => 140 | 217 => 178 | 266 => 212 | n => n, fun | 9 => 9 | 5 => 5 | 3 => 3 | n => n, fun | n => n⟩
theorem Tryz.lays137 : Go.Proofs.Lays.n137 Tryz.prog Tryz.lays137_ren := {
  mixed := by kernel_rfl
  f137 := Tryz.func140.trans (congrArg some (by kernel_rfl))
  f217 := Tryz.func178.trans (congrArg some (by kernel_rfl))
  f266 := Tryz.func212.trans (congrArg some (by kernel_rfl))
  t3 := Tryz.underlying3
  a3 := Tryz.isAgg3
  z3 := Tryz.sizeOf3
  v3 := Tryz.zeroValue3
  t5 := Tryz.underlying5
  a5 := Tryz.isAgg5
  z5 := Tryz.sizeOf5
  v5 := Tryz.zeroValue5
  t9 := Tryz.underlying9
  a9 := Tryz.isAgg9
  z9 := Tryz.sizeOf9
  v9 := Tryz.zeroValue9 }
open Go.RowKit in
/-- strings.IndexByte: "IndexByte returns the index of the first instance of c in s, or -1 if c is not present in s.": IT RETURNS 'Lib.indexByte s c'; the world is as it was. (LAID: no walk: one application.) -/
theorem Tryz.strings_IndexByte (s : ByteArray) (c : Int) (w : World) :
    Calls Tryz.prog 140 #[.string s, .int .u8 c] w fun e w' => e = .returned (.int .i64 (Lib.indexByte s.data.toList c.toNat.toUInt8)) ∧ w' = w := Any.strings_IndexByte Tryz.lays137 s c w
def Tryz.lays171_ren : Go.Shelf.Ren := ⟨fun | 171 => 52 | 243 => 96 | 246 => 128 | 283 => 151 | 284 => 152 | 285 => 153 | 286 => 154 | 129 => 169 | 317 => 188 | 318 => 189 | 319 => 190 | 320 => 191 | 337 => 222 | 338 => 223 | n => n, fun | 3 => 3 | 9 => 9 | 2 => 2 | 4 => 4 | 171 => 175 | 0 => 0 | 53 => 176 | 37 => 179 | 5 => 5 | 173 => 180 | 212 => 212 | 51 => 194 | 20 => 20 | 213 => 213 | 46 => 161 | 232 => 254 | 233 => 255 | n => n, fun | 17 => 0 | 18 => 5 | 19 => 6 | n => n⟩
theorem Tryz.lays171 : Go.Proofs.Lays.n171 Tryz.prog Tryz.lays171_ren := {
  mixed := by kernel_rfl
  f129 := Tryz.func169.trans (congrArg some (by kernel_rfl))
  f171 := Tryz.func52.trans (congrArg some (by kernel_rfl))
  f243 := Tryz.func96.trans (congrArg some (by kernel_rfl))
  f246 := Tryz.func128.trans (congrArg some (by kernel_rfl))
  f283 := Tryz.func151.trans (congrArg some (by kernel_rfl))
  f284 := Tryz.func152.trans (congrArg some (by kernel_rfl))
  f285 := Tryz.func153.trans (congrArg some (by kernel_rfl))
  f286 := Tryz.func154.trans (congrArg some (by kernel_rfl))
  f317 := Tryz.func188.trans (congrArg some (by kernel_rfl))
  f318 := Tryz.func189.trans (congrArg some (by kernel_rfl))
  f319 := Tryz.func190.trans (congrArg some (by kernel_rfl))
  f320 := Tryz.func191.trans (congrArg some (by kernel_rfl))
  f337 := Tryz.func222.trans (congrArg some (by kernel_rfl))
  f338 := Tryz.func223.trans (congrArg some (by kernel_rfl))
  t0 := Tryz.underlying0
  a0 := Tryz.isAgg0
  z0 := Tryz.sizeOf0
  v0 := Tryz.zeroValue0
  t2 := Tryz.underlying2
  a2 := Tryz.isAgg2
  z2 := Tryz.sizeOf2
  v2 := Tryz.zeroValue2
  t3 := Tryz.underlying3
  a3 := Tryz.isAgg3
  z3 := Tryz.sizeOf3
  v3 := Tryz.zeroValue3
  t4 := Tryz.underlying4
  a4 := Tryz.isAgg4
  z4 := Tryz.sizeOf4
  v4 := Tryz.zeroValue4
  t5 := Tryz.underlying5
  a5 := Tryz.isAgg5
  z5 := Tryz.sizeOf5
  v5 := Tryz.zeroValue5
  t9 := Tryz.underlying9
  a9 := Tryz.isAgg9
  z9 := Tryz.sizeOf9
  v9 := Tryz.zeroValue9
  t20 := Tryz.underlying20
  a20 := Tryz.isAgg20
  z20 := Tryz.sizeOf20
  v20 := Tryz.zeroValue20
  t37 := Tryz.underlying179
  a37 := Tryz.isAgg179
  z37 := Tryz.sizeOf179
  v37 := Tryz.zeroValue179
  t46 := Tryz.underlying161
  a46 := Tryz.isAgg161
  z46 := Tryz.sizeOf161
  v46 := Tryz.zeroValue161
  t51 := Tryz.underlying194
  a51 := Tryz.isAgg194
  z51 := Tryz.sizeOf194
  v51 := Tryz.zeroValue194
  t53 := Tryz.underlying176
  a53 := Tryz.isAgg176
  z53 := Tryz.sizeOf176
  v53 := Tryz.zeroValue176
  t171 := Tryz.underlying175
  a171 := Tryz.isAgg175
  z171 := Tryz.sizeOf175
  v171 := Tryz.zeroValue175
  t173 := Tryz.underlying180
  a173 := Tryz.isAgg180
  z173 := Tryz.sizeOf180
  v173 := Tryz.zeroValue180
  t212 := Tryz.underlying212
  a212 := Tryz.isAgg212
  z212 := Tryz.sizeOf212
  v212 := Tryz.zeroValue212
  t213 := Tryz.underlying213
  a213 := Tryz.isAgg213
  z213 := Tryz.sizeOf213
  t232 := Tryz.underlying254
  a232 := Tryz.isAgg254
  z232 := Tryz.sizeOf254
  v232 := Tryz.zeroValue254
  t233 := Tryz.underlying255
  a233 := Tryz.isAgg255
  z233 := Tryz.sizeOf255
  v233 := Tryz.zeroValue255
  g17 := by kernel_rfl
  g18 := by kernel_rfl
  g19 := by kernel_rfl }
open Go.RowKit Go.Sort Go.Lib in
/-- THE ROAD WITHOUT THE TABLE: 0 <= i < 100: NO PREMISE ON THE WORLD, AND THE WORLD IS AS IT WAS: a row that keeps its argument in that range need list no table ('laid = []'). (LAID: no walk: one application.) -/
theorem Tryz.strconv_Itoa_small (i : Nat) (hi : i < 100) (w : World) :
    Calls Tryz.prog 52 #[.int .i64 i] w fun e w' => e = .returned (.string ⟨(Lib.decDigits i).toArray⟩) ∧ w' = w := Any.strconv_Itoa_small Tryz.lays171 i hi w
def Tryz.lays99_ren : Go.Shelf.Ren := ⟨fun | 99 => 183 | 206 => 216 | n => n, fun | 9 => 9 | 4 => 4 | 3 => 3 | n => n, fun | n => n⟩
theorem Tryz.lays99 : Go.Proofs.Lays.n99 Tryz.prog Tryz.lays99_ren := {
  mixed := by kernel_rfl
  f99 := Tryz.func183.trans (congrArg some (by kernel_rfl))
  f206 := Tryz.func216.trans (congrArg some (by kernel_rfl))
  t3 := Tryz.underlying3
  a3 := Tryz.isAgg3
  z3 := Tryz.sizeOf3
  v3 := Tryz.zeroValue3
  t4 := Tryz.underlying4
  a4 := Tryz.isAgg4
  z4 := Tryz.sizeOf4
  v4 := Tryz.zeroValue4
  t9 := Tryz.underlying9
  a9 := Tryz.isAgg9
  z9 := Tryz.sizeOf9
  v9 := Tryz.zeroValue9 }
open Go.RowKit Go.Lib in
/-- strings.HasPrefix: "HasPrefix reports whether the string s begins with prefix.": IT RETURNS 'Lib.hasPrefix s prefix'; the world is as it was. (LAID: no walk: one application.) -/
theorem Tryz.strings_HasPrefix (s p : ByteArray) (w : World) :
    Calls Tryz.prog 183 #[.string s, .string p] w fun e w' => e = .returned (.bool (Lib.hasPrefix s.data.toList p.data.toList)) ∧ w' = w := Any.strings_HasPrefix Tryz.lays99 s p w
def Tryz.lays146_ren : Go.Shelf.Ren := ⟨fun | 146 => 137 | 221 => 170 | 268 => 201 | 138 => 202 | 143 => 203 | 195 => 228 | 197 => 207 | 218 => 229 | 219 => 230 | 260 => 234 | 217 => 178 | 225 => 215 | 224 => 214 | 267 => 241 | 266 => 212 | 314 => 247 | n => n, fun | 9 => 9 | 31 => 33 | 3 => 3 | 4 => 4 | 0 => 0 | 105 => 225 | 21 => 21 | 5 => 5 | 46 => 161 | 119 => 257 | 139 => 260 | 138 => 259 | 146 => 268 | 51 => 194 | n => n, fun | 1 => 1 | 3 => 7 | 4 => 8 | n => n⟩
theorem Tryz.lays146 : Go.Proofs.Lays.n146 Tryz.prog Tryz.lays146_ren := {
  mixed := by kernel_rfl
  f138 := Tryz.func202.trans (congrArg some (by kernel_rfl))
  f143 := Tryz.func203.trans (congrArg some (by kernel_rfl))
  f146 := Tryz.func137.trans (congrArg some (by kernel_rfl))
  f195 := Tryz.func228.trans (congrArg some (by kernel_rfl))
  f197 := Tryz.func207.trans (congrArg some (by kernel_rfl))
  f217 := Tryz.func178.trans (congrArg some (by kernel_rfl))
  f218 := Tryz.func229.trans (congrArg some (by kernel_rfl))
  f219 := Tryz.func230.trans (congrArg some (by kernel_rfl))
  f221 := Tryz.func170.trans (congrArg some (by kernel_rfl))
  f224 := Tryz.func214.trans (congrArg some (by kernel_rfl))
  f225 := Tryz.func215.trans (congrArg some (by kernel_rfl))
  f260 := Tryz.func234.trans (congrArg some (by kernel_rfl))
  f266 := Tryz.func212.trans (congrArg some (by kernel_rfl))
  f267 := Tryz.func241.trans (congrArg some (by kernel_rfl))
  f268 := Tryz.func201.trans (congrArg some (by kernel_rfl))
  f314 := Tryz.func247.trans (congrArg some (by kernel_rfl))
  t0 := Tryz.underlying0
  a0 := Tryz.isAgg0
  z0 := Tryz.sizeOf0
  v0 := Tryz.zeroValue0
  t3 := Tryz.underlying3
  a3 := Tryz.isAgg3
  z3 := Tryz.sizeOf3
  v3 := Tryz.zeroValue3
  t4 := Tryz.underlying4
  a4 := Tryz.isAgg4
  z4 := Tryz.sizeOf4
  v4 := Tryz.zeroValue4
  t5 := Tryz.underlying5
  a5 := Tryz.isAgg5
  z5 := Tryz.sizeOf5
  v5 := Tryz.zeroValue5
  t9 := Tryz.underlying9
  a9 := Tryz.isAgg9
  z9 := Tryz.sizeOf9
  v9 := Tryz.zeroValue9
  t21 := Tryz.underlying21
  a21 := Tryz.isAgg21
  z21 := Tryz.sizeOf21
  v21 := Tryz.zeroValue21
  t31 := Tryz.underlying33
  a31 := Tryz.isAgg33
  z31 := Tryz.sizeOf33
  v31 := Tryz.zeroValue33
  t46 := Tryz.underlying161
  a46 := Tryz.isAgg161
  z46 := Tryz.sizeOf161
  v46 := Tryz.zeroValue161
  t51 := Tryz.underlying194
  a51 := Tryz.isAgg194
  z51 := Tryz.sizeOf194
  v51 := Tryz.zeroValue194
  t105 := Tryz.underlying225
  a105 := Tryz.isAgg225
  z105 := Tryz.sizeOf225
  v105 := Tryz.zeroValue225
  t119 := Tryz.underlying257
  a119 := Tryz.isAgg257
  z119 := Tryz.sizeOf257
  t138 := Tryz.underlying259
  a138 := Tryz.isAgg259
  z138 := Tryz.sizeOf259
  v138 := Tryz.zeroValue259
  t139 := Tryz.underlying260
  a139 := Tryz.isAgg260
  z139 := Tryz.sizeOf260
  v139 := Tryz.zeroValue260
  t146 := Tryz.underlying268
  a146 := Tryz.isAgg268
  z146 := Tryz.sizeOf268
  v146 := Tryz.zeroValue268
  g1 := by kernel_rfl
  g3 := by kernel_rfl
  g4 := by kernel_rfl }
open Go.RowKit Go.Lib in
/-- strings.Split. (LAID: no walk: one application.) -/
theorem Tryz.strings_Split (s sep : ByteArray) (m : Int) (w : World) (hs : s.size < 4294967281) (hm : w.cell? ⟨1, 0, none⟩ = some (.int .i64 m)) (h1 : 1 ≤ sep.size) :
    Calls Tryz.prog 137 #[.string s, .string sep] w fun e w' =>
      e = .returned (.slice (some ⟨w.heap.size, 0, none⟩) (Lib.countB s sep + 1) (Lib.countB s sep + 1)) ∧ w' = w.alloc (.cells ((Lib.splitB sep 0 (Lib.countB s sep) s).map Value.string).toArray 9) := Any.strings_Split Tryz.lays146 (by kernel_rfl) s sep m w hs hm h1
end Go.Proofs
