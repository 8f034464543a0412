/-
  DERIVED: THE SHELF's CONTRACTS AT THIS DUMP, IN PLAIN WORDS (tools/lay-plain.mjs out of 'YtmieegcgeolckaaGreatDoorStrsSrc.lean', which tools/lay-shelf.mjs wrote): THE SAME DECLARATIONS UNDER THE SAME NAMES: 'import', 'namespace', 'open', 'def', 'theorem' AND NOTHING ELSE: no command of the shelf's: FOR A HAND-IN. Each laying: the table of numbers ('.._ren') and one theorem, a field a fact of the dump's own or the kernel's comparison; each contract: ONE APPLICATION.
-/
import Derived.Shelf.Strings.Builder1
import Derived.Shelf.Strings.Builder2
import Derived.Shelf.Strings.OnBuilder
import Derived.Shelf.Small.Utf8
import Derived.Shelf.Small.Strs
import Derived.Shelf.Small.Wraps
import Derived.Shelf.Strconv.Atoi
import Derived.Shelf.Strconv.Itoa0
import Derived.Shelf.Strconv.Itoa1
import Derived.Shelf.LaysM
import Derived.Shelf.Strconv.Itoa2
import Derived.Shelf.Strconv.Itoa3
import Derived.Shelf.Strconv.AtoiErrFast
import Derived.Shelf.Strconv.ParseIntEmpty
import Derived.Shelf.Strconv.AtoiFail
import Derived.Shelf.Strconv.Clone
import Derived.Shelf.Strconv.SyntaxError
import Derived.Shelf.LaysC
import Derived.Shelf.Strconv.ToError
import Derived.Shelf.Strconv.Lower
import Derived.Shelf.Strconv.ParseUint10
import Derived.Shelf.Strconv.ParseUint10Empty
import Derived.Shelf.Strconv.ParseUint10Any
import Derived.Shelf.Strconv.ParseInt10
import Derived.Shelf.Strconv.AtoiLong
import Derived.Shelf.Strconv.AtoiInnerAll
import Derived.Shelf.Strconv.RangeError
import Derived.Shelf.Strconv.ToErrorRange
import Derived.Shelf.Strconv.AtoiAll
import Derived.Shelf.Strings.Search1
import Derived.Shelf.Strings.Search2
import Derived.Shelf.Strings.Search3
import Derived.Shelf.Strings.Count
import Derived.Shelf.Strings.Shaped
import Derived.Shelf.Strings.Prefix
import Derived.Shelf.Strings.Split
import Derived.Shelf.Strings.SplitShaped
import Derived.Shelf.Unicode.Latin
import Derived.Shelf.Strings.Runes
import Derived.Shelf.Strings.IndexAny
import Derived.Shelf.Strings.AsciiSet
import Derived.Shelf.Strings.IndexAnyAll
import Derived.Shelf.Unicode.DecodeSlow
import Derived.Shelf.Unicode.CaseLookup
import Derived.Shelf.Unicode.CaseConvert
import Derived.Shelf.Unicode.CaseTo
import Derived.Shelf.Unicode.CaseLaid
import Derived.Ground.SlgmProg
import Derived.Shelf.SortM.Plain
import Derived.Shelf.SortM.SortNone
import Derived.Test.YtmieegcgeolckaaGreatDoorProg
namespace Go.Proofs
open Go.Shelf
def Tryz.lays159_ren : Go.Shelf.Ren := ⟨fun | 159 => 125 | 165 => 130 | 166 => 131 | 167 => 164 | 169 => 132 | 230 => 165 | 204 => 166 | 240 => 170 | 241 => 171 | 197 => 193 | 118 => 194 | 168 => 195 | 270 => 196 | 262 => 197 | 276 => 200 | 277 => 201 | 260 => 212 | 242 => 213 | 313 => 214 | 278 => 218 | 274 => 219 | 275 => 220 | n => n, fun | 9 => 9 | 4 => 4 | 3 => 3 | 5 => 5 | 72 => 163 | 0 => 0 | 76 => 149 | 75 => 148 | 107 => 197 | 70 => 160 | 20 => 20 | 37 => 161 | 127 => 199 | 21 => 21 | 105 => 220 | 164 => 225 | 162 => 239 | 203 => 237 | 119 => 247 | 46 => 145 | 139 => 250 | 138 => 249 | 51 => 179 | 160 => 251 | 208 => 257 | 206 => 255 | 80 => 165 | n => n, fun | 13 => 4 | 3 => 7 | 4 => 8 | n => n⟩
theorem Tryz.lays159 : Go.Proofs.Lays.n159 Tryz.prog Tryz.lays159_ren := {
  mixed := by kernel_rfl
  f118 := Tryz.func194.trans (congrArg some (by kernel_rfl))
  f159 := Tryz.func125.trans (congrArg some (by kernel_rfl))
  f165 := Tryz.func130.trans (congrArg some (by kernel_rfl))
  f166 := Tryz.func131.trans (congrArg some (by kernel_rfl))
  f167 := Tryz.func164.trans (congrArg some (by kernel_rfl))
  f168 := Tryz.func195.trans (congrArg some (by kernel_rfl))
  f169 := Tryz.func132.trans (congrArg some (by kernel_rfl))
  f197 := Tryz.func193.trans (congrArg some (by kernel_rfl))
  f204 := Tryz.func166.trans (congrArg some (by kernel_rfl))
  f230 := Tryz.func165.trans (congrArg some (by kernel_rfl))
  f240 := Tryz.func170.trans (congrArg some (by kernel_rfl))
  f241 := Tryz.func171.trans (congrArg some (by kernel_rfl))
  f242 := Tryz.func213.trans (congrArg some (by kernel_rfl))
  f260 := Tryz.func212.trans (congrArg some (by kernel_rfl))
  f262 := Tryz.func197.trans (congrArg some (by kernel_rfl))
  f270 := Tryz.func196.trans (congrArg some (by kernel_rfl))
  f274 := Tryz.func219.trans (congrArg some (by kernel_rfl))
  f275 := Tryz.func220.trans (congrArg some (by kernel_rfl))
  f276 := Tryz.func200.trans (congrArg some (by kernel_rfl))
  f277 := Tryz.func201.trans (congrArg some (by kernel_rfl))
  f278 := Tryz.func218.trans (congrArg some (by kernel_rfl))
  f313 := Tryz.func214.trans (congrArg some (by kernel_rfl))
  t0 := Tryz.underlying0
  a0 := Tryz.isAgg0
  z0 := Tryz.sizeOf0
  v0 := Tryz.zeroValue0
  t3 := Tryz.underlying3
  a3 := Tryz.isAgg3
  z3 := Tryz.sizeOf3
  v3 := Tryz.zeroValue3
  t4 := Tryz.underlying4
  a4 := Tryz.isAgg4
  z4 := Tryz.sizeOf4
  v4 := Tryz.zeroValue4
  t5 := Tryz.underlying5
  a5 := Tryz.isAgg5
  z5 := Tryz.sizeOf5
  v5 := Tryz.zeroValue5
  t9 := Tryz.underlying9
  a9 := Tryz.isAgg9
  z9 := Tryz.sizeOf9
  v9 := Tryz.zeroValue9
  t20 := Tryz.underlying20
  a20 := Tryz.isAgg20
  z20 := Tryz.sizeOf20
  v20 := Tryz.zeroValue20
  t21 := Tryz.underlying21
  a21 := Tryz.isAgg21
  z21 := Tryz.sizeOf21
  v21 := Tryz.zeroValue21
  t37 := Tryz.underlying161
  a37 := Tryz.isAgg161
  z37 := Tryz.sizeOf161
  v37 := Tryz.zeroValue161
  t46 := Tryz.underlying145
  a46 := Tryz.isAgg145
  z46 := Tryz.sizeOf145
  v46 := Tryz.zeroValue145
  t51 := Tryz.underlying179
  a51 := Tryz.isAgg179
  z51 := Tryz.sizeOf179
  v51 := Tryz.zeroValue179
  t70 := Tryz.underlying160
  a70 := Tryz.isAgg160
  z70 := Tryz.sizeOf160
  v70 := Tryz.zeroValue160
  t72 := Tryz.underlying163
  a72 := Tryz.isAgg163
  z72 := Tryz.sizeOf163
  v72 := Tryz.zeroValue163
  t75 := Tryz.underlying148
  a75 := Tryz.isAgg148
  z75 := Tryz.sizeOf148
  v75 := Tryz.zeroValue148
  t76 := Tryz.underlying149
  a76 := Tryz.isAgg149
  z76 := Tryz.sizeOf149
  v76 := Tryz.zeroValue149
  t105 := Tryz.underlying220
  a105 := Tryz.isAgg220
  z105 := Tryz.sizeOf220
  v105 := Tryz.zeroValue220
  t107 := Tryz.underlying197
  a107 := Tryz.isAgg197
  z107 := Tryz.sizeOf197
  v107 := Tryz.zeroValue197
  t119 := Tryz.underlying247
  a119 := Tryz.isAgg247
  z119 := Tryz.sizeOf247
  t127 := Tryz.underlying199
  a127 := Tryz.isAgg199
  z127 := Tryz.sizeOf199
  v127 := Tryz.zeroValue199
  t138 := Tryz.underlying249
  a138 := Tryz.isAgg249
  z138 := Tryz.sizeOf249
  v138 := Tryz.zeroValue249
  t139 := Tryz.underlying250
  a139 := Tryz.isAgg250
  z139 := Tryz.sizeOf250
  v139 := Tryz.zeroValue250
  t160 := Tryz.underlying251
  a160 := Tryz.isAgg251
  z160 := Tryz.sizeOf251
  v160 := Tryz.zeroValue251
  t162 := Tryz.underlying239
  a162 := Tryz.isAgg239
  z162 := Tryz.sizeOf239
  v162 := Tryz.zeroValue239
  t164 := Tryz.underlying225
  a164 := Tryz.isAgg225
  z164 := Tryz.sizeOf225
  v164 := Tryz.zeroValue225
  t203 := Tryz.underlying237
  a203 := Tryz.isAgg237
  z203 := Tryz.sizeOf237
  v203 := Tryz.zeroValue237
  t206 := Tryz.underlying255
  a206 := Tryz.isAgg255
  z206 := Tryz.sizeOf255
  v206 := Tryz.zeroValue255
  t208 := Tryz.underlying257
  a208 := Tryz.isAgg257
  z208 := Tryz.sizeOf257
  v208 := Tryz.zeroValue257
  g3 := by kernel_rfl
  g4 := by kernel_rfl
  g13 := by kernel_rfl }
theorem Tryz.Builder_Extra_159 : Builder.Extra Tryz.prog Tryz.lays159_ren := {
  sizeBuilder := by kernel_rfl
  liesBuilder := by kernel_rfl
  t5 := Tryz.underlying5
  a5 := Tryz.isAgg5
  z5 := Tryz.sizeOf5
  v5 := Tryz.zeroValue5
  infoByte := by kernel_rfl
  cellsByte := by kernel_rfl
  sizeByte := by kernel_rfl
  neB5 := by decide }
open Go.RowKit in
/-- strings.ToLower: "ToLower returns s with all Unicode letters mapped to their lower case.": ON ASCII TEXT OF AT MOST 2^47 BYTES. Below the heap's end the world is as it was: where a letter turns, the call makes a builder and its buffer. (LAID: no walk: one application.) -/
theorem Tryz.strings_ToLower_ascii (s : ByteArray) (w : World) (hs : s.size ≤ 140737488355328) (hascii : ∀ (j : Nat) (b : UInt8), s.data.toList[j]? = some b → b.toNat < 128) :
    Calls Tryz.prog 125 #[.string s] w fun e w' => e = .returned (.string ⟨(Lib.toLowerA s.data.toList).toArray⟩) ∧ Below w.heap.size w w' := Any.strings_ToLower_ascii Tryz.lays159 Tryz.Builder_Extra_159 s w hs hascii
def Tryz.lays156_ren : Go.Shelf.Ren := ⟨fun | 156 => 102 | 165 => 130 | 166 => 131 | 169 => 132 | 240 => 170 | 241 => 171 | 276 => 200 | 277 => 201 | n => n, fun | 31 => 27 | 9 => 9 | 3 => 3 | 4 => 4 | 0 => 0 | 20 => 20 | 72 => 163 | 76 => 149 | 70 => 160 | 37 => 161 | 75 => 148 | 127 => 199 | 164 => 225 | 5 => 5 | 80 => 165 | n => n, fun | n => n⟩
theorem Tryz.lays156 : Go.Proofs.Lays.n156 Tryz.prog Tryz.lays156_ren := {
  mixed := by kernel_rfl
  f156 := Tryz.func102.trans (congrArg some (by kernel_rfl))
  f165 := Tryz.func130.trans (congrArg some (by kernel_rfl))
  f166 := Tryz.func131.trans (congrArg some (by kernel_rfl))
  f169 := Tryz.func132.trans (congrArg some (by kernel_rfl))
  f240 := Tryz.func170.trans (congrArg some (by kernel_rfl))
  f241 := Tryz.func171.trans (congrArg some (by kernel_rfl))
  f276 := Tryz.func200.trans (congrArg some (by kernel_rfl))
  f277 := Tryz.func201.trans (congrArg some (by kernel_rfl))
  t0 := Tryz.underlying0
  a0 := Tryz.isAgg0
  z0 := Tryz.sizeOf0
  v0 := Tryz.zeroValue0
  t3 := Tryz.underlying3
  a3 := Tryz.isAgg3
  z3 := Tryz.sizeOf3
  v3 := Tryz.zeroValue3
  t4 := Tryz.underlying4
  a4 := Tryz.isAgg4
  z4 := Tryz.sizeOf4
  v4 := Tryz.zeroValue4
  t9 := Tryz.underlying9
  a9 := Tryz.isAgg9
  z9 := Tryz.sizeOf9
  v9 := Tryz.zeroValue9
  t20 := Tryz.underlying20
  a20 := Tryz.isAgg20
  z20 := Tryz.sizeOf20
  v20 := Tryz.zeroValue20
  t31 := Tryz.underlying27
  a31 := Tryz.isAgg27
  z31 := Tryz.sizeOf27
  v31 := Tryz.zeroValue27
  t37 := Tryz.underlying161
  a37 := Tryz.isAgg161
  z37 := Tryz.sizeOf161
  v37 := Tryz.zeroValue161
  t70 := Tryz.underlying160
  a70 := Tryz.isAgg160
  z70 := Tryz.sizeOf160
  v70 := Tryz.zeroValue160
  t72 := Tryz.underlying163
  a72 := Tryz.isAgg163
  z72 := Tryz.sizeOf163
  v72 := Tryz.zeroValue163
  t75 := Tryz.underlying148
  a75 := Tryz.isAgg148
  z75 := Tryz.sizeOf148
  v75 := Tryz.zeroValue148
  t76 := Tryz.underlying149
  a76 := Tryz.isAgg149
  z76 := Tryz.sizeOf149
  v76 := Tryz.zeroValue149
  t127 := Tryz.underlying199
  a127 := Tryz.isAgg199
  z127 := Tryz.sizeOf199
  v127 := Tryz.zeroValue199
  t164 := Tryz.underlying225
  a164 := Tryz.isAgg225
  z164 := Tryz.sizeOf225
  v164 := Tryz.zeroValue225 }
theorem Tryz.Builder_Extra_156 : Builder.Extra Tryz.prog Tryz.lays156_ren := {
  sizeBuilder := by kernel_rfl
  liesBuilder := by kernel_rfl
  t5 := Tryz.underlying5
  a5 := Tryz.isAgg5
  z5 := Tryz.sizeOf5
  v5 := Tryz.zeroValue5
  infoByte := by kernel_rfl
  cellsByte := by kernel_rfl
  sizeByte := by kernel_rfl
  neB5 := by decide }
open Go.RowKit in
/-- No element: the empty string; the world is as it was. (Whatever the slice's address and capacity: a nil slice too.) (LAID: no walk: one application.) -/
theorem Tryz.strings_Join_none (a : Option Addr) (c : Nat) (sep : ByteArray) (w : World) :
    Calls Tryz.prog 102 #[.slice a 0 c, .string sep] w fun e w' => e = .returned (.string ⟨#[]⟩) ∧ w' = w := Any.strings_Join_none Tryz.lays156 Tryz.Builder_Extra_156 a c sep w
open Go.RowKit in
/-- strings.Join: "Join concatenates the elements of its first argument to create a single string. The separator string sep is placed between elements in the resulting string.": HOWEVER MANY ELEMENTS. Below the heap's end the world is as it was. (LAID: no walk: one application.) -/
theorem Tryz.strings_Join (bk o c : Nat) (xs : List ByteArray) (sep : ByteArray) (w : World) (hcells : ∀ (j : Nat) x, xs[j]? = some x → w.cell? ⟨bk, o + j, none⟩ = some (.string x)) (hbk : bk < w.heap.size) (hN : xs.length ≤ 140737488355328) (hcap : xs.length ≤ c) (hlen : (Lib.join (xs.map (·.data.toList)) sep.data.toList).length ≤ 140737488355328) :
    Calls Tryz.prog 102 #[.slice (some ⟨bk, o, none⟩) xs.length c, .string sep] w fun e w' => e = .returned (.string ⟨(Lib.join (xs.map (·.data.toList)) sep.data.toList).toArray⟩) ∧ Below w.heap.size w w' := Any.strings_Join Tryz.lays156 Tryz.Builder_Extra_156 bk o c xs sep w hcells hbk hN hcap hlen
def Tryz.lays106_ren : Go.Shelf.Ren := ⟨fun | 106 => 159 | 213 => 188 | 265 => 209 | n => n, fun | 9 => 9 | 3 => 3 | n => n, fun | n => n⟩
theorem Tryz.lays106 : Go.Proofs.Lays.n106 Tryz.prog Tryz.lays106_ren := {
  mixed := by kernel_rfl
  f106 := Tryz.func159.trans (congrArg some (by kernel_rfl))
  f213 := Tryz.func188.trans (congrArg some (by kernel_rfl))
  f265 := Tryz.func209.trans (congrArg some (by kernel_rfl))
  t3 := Tryz.underlying3
  a3 := Tryz.isAgg3
  z3 := Tryz.sizeOf3
  v3 := Tryz.zeroValue3
  t9 := Tryz.underlying9
  a9 := Tryz.isAgg9
  z9 := Tryz.sizeOf9
  v9 := Tryz.zeroValue9 }
open Go.RowKit in
/-- strings.Compare: "Compare returns an integer comparing two strings lexicographically. The result will be 0 if a == b, -1 if a < b, and +1 if a > b.": IT RETURNS 'Lib.compareBytes a b'; the world is as it was. (LAID: no walk: one application.) -/
theorem Tryz.strings_Compare (a b : ByteArray) (w : World) :
    Calls Tryz.prog 159 #[.string a, .string b] w fun e w' => e = .returned (.int .i64 (Lib.compareBytes a.data.toList b.data.toList)) ∧ w' = w := Any.strings_Compare Tryz.lays106 a b w
def Tryz.lays137_ren : Go.Shelf.Ren := ⟨fun | 137 => 127 | 217 => 118 | 266 => 156 | n => n, fun | 9 => 9 | 5 => 5 | 3 => 3 | n => n, fun | n => n⟩
theorem Tryz.lays137 : Go.Proofs.Lays.n137 Tryz.prog Tryz.lays137_ren := {
  mixed := by kernel_rfl
  f137 := Tryz.func127.trans (congrArg some (by kernel_rfl))
  f217 := Tryz.func118.trans (congrArg some (by kernel_rfl))
  f266 := Tryz.func156.trans (congrArg some (by kernel_rfl))
  t3 := Tryz.underlying3
  a3 := Tryz.isAgg3
  z3 := Tryz.sizeOf3
  v3 := Tryz.zeroValue3
  t5 := Tryz.underlying5
  a5 := Tryz.isAgg5
  z5 := Tryz.sizeOf5
  v5 := Tryz.zeroValue5
  t9 := Tryz.underlying9
  a9 := Tryz.isAgg9
  z9 := Tryz.sizeOf9
  v9 := Tryz.zeroValue9 }
open Go.RowKit in
/-- strings.IndexByte: "IndexByte returns the index of the first instance of c in s, or -1 if c is not present in s.": IT RETURNS 'Lib.indexByte s c'; the world is as it was. (LAID: no walk: one application.) -/
theorem Tryz.strings_IndexByte (s : ByteArray) (c : Int) (w : World) :
    Calls Tryz.prog 127 #[.string s, .int .u8 c] w fun e w' => e = .returned (.int .i64 (Lib.indexByte s.data.toList c.toNat.toUInt8)) ∧ w' = w := Any.strings_IndexByte Tryz.lays137 s c w
def Tryz.lays171_ren : Go.Shelf.Ren := ⟨fun | 171 => 62 | 243 => 89 | 246 => 124 | 283 => 160 | 284 => 161 | 285 => 162 | 286 => 163 | 129 => 147 | 317 => 189 | 318 => 190 | 319 => 191 | 320 => 192 | 337 => 210 | 338 => 211 | n => n, fun | 3 => 3 | 9 => 9 | 2 => 2 | 4 => 4 | 171 => 191 | 0 => 0 | 53 => 181 | 37 => 161 | 5 => 5 | 173 => 193 | 212 => 218 | 51 => 179 | 20 => 20 | 213 => 219 | 46 => 145 | 232 => 245 | 233 => 246 | n => n, fun | 17 => 1 | 18 => 5 | 19 => 6 | n => n⟩
theorem Tryz.lays171 : Go.Proofs.Lays.n171 Tryz.prog Tryz.lays171_ren := {
  mixed := by kernel_rfl
  f129 := Tryz.func147.trans (congrArg some (by kernel_rfl))
  f171 := Tryz.func62.trans (congrArg some (by kernel_rfl))
  f243 := Tryz.func89.trans (congrArg some (by kernel_rfl))
  f246 := Tryz.func124.trans (congrArg some (by kernel_rfl))
  f283 := Tryz.func160.trans (congrArg some (by kernel_rfl))
  f284 := Tryz.func161.trans (congrArg some (by kernel_rfl))
  f285 := Tryz.func162.trans (congrArg some (by kernel_rfl))
  f286 := Tryz.func163.trans (congrArg some (by kernel_rfl))
  f317 := Tryz.func189.trans (congrArg some (by kernel_rfl))
  f318 := Tryz.func190.trans (congrArg some (by kernel_rfl))
  f319 := Tryz.func191.trans (congrArg some (by kernel_rfl))
  f320 := Tryz.func192.trans (congrArg some (by kernel_rfl))
  f337 := Tryz.func210.trans (congrArg some (by kernel_rfl))
  f338 := Tryz.func211.trans (congrArg some (by kernel_rfl))
  t0 := Tryz.underlying0
  a0 := Tryz.isAgg0
  z0 := Tryz.sizeOf0
  v0 := Tryz.zeroValue0
  t2 := Tryz.underlying2
  a2 := Tryz.isAgg2
  z2 := Tryz.sizeOf2
  v2 := Tryz.zeroValue2
  t3 := Tryz.underlying3
  a3 := Tryz.isAgg3
  z3 := Tryz.sizeOf3
  v3 := Tryz.zeroValue3
  t4 := Tryz.underlying4
  a4 := Tryz.isAgg4
  z4 := Tryz.sizeOf4
  v4 := Tryz.zeroValue4
  t5 := Tryz.underlying5
  a5 := Tryz.isAgg5
  z5 := Tryz.sizeOf5
  v5 := Tryz.zeroValue5
  t9 := Tryz.underlying9
  a9 := Tryz.isAgg9
  z9 := Tryz.sizeOf9
  v9 := Tryz.zeroValue9
  t20 := Tryz.underlying20
  a20 := Tryz.isAgg20
  z20 := Tryz.sizeOf20
  v20 := Tryz.zeroValue20
  t37 := Tryz.underlying161
  a37 := Tryz.isAgg161
  z37 := Tryz.sizeOf161
  v37 := Tryz.zeroValue161
  t46 := Tryz.underlying145
  a46 := Tryz.isAgg145
  z46 := Tryz.sizeOf145
  v46 := Tryz.zeroValue145
  t51 := Tryz.underlying179
  a51 := Tryz.isAgg179
  z51 := Tryz.sizeOf179
  v51 := Tryz.zeroValue179
  t53 := Tryz.underlying181
  a53 := Tryz.isAgg181
  z53 := Tryz.sizeOf181
  v53 := Tryz.zeroValue181
  t171 := Tryz.underlying191
  a171 := Tryz.isAgg191
  z171 := Tryz.sizeOf191
  v171 := Tryz.zeroValue191
  t173 := Tryz.underlying193
  a173 := Tryz.isAgg193
  z173 := Tryz.sizeOf193
  v173 := Tryz.zeroValue193
  t212 := Tryz.underlying218
  a212 := Tryz.isAgg218
  z212 := Tryz.sizeOf218
  v212 := Tryz.zeroValue218
  t213 := Tryz.underlying219
  a213 := Tryz.isAgg219
  z213 := Tryz.sizeOf219
  t232 := Tryz.underlying245
  a232 := Tryz.isAgg245
  z232 := Tryz.sizeOf245
  v232 := Tryz.zeroValue245
  t233 := Tryz.underlying246
  a233 := Tryz.isAgg246
  z233 := Tryz.sizeOf246
  v233 := Tryz.zeroValue246
  g17 := by kernel_rfl
  g18 := by kernel_rfl
  g19 := by kernel_rfl }
open Go.RowKit Go.Sort Go.Lib in
/-- THE ROAD WITHOUT THE TABLE: 0 <= i < 100: NO PREMISE ON THE WORLD, AND THE WORLD IS AS IT WAS: a row that keeps its argument in that range need list no table ('laid = []'). (LAID: no walk: one application.) -/
theorem Tryz.strconv_Itoa_small (i : Nat) (hi : i < 100) (w : World) :
    Calls Tryz.prog 62 #[.int .i64 i] w fun e w' => e = .returned (.string ⟨(Lib.decDigits i).toArray⟩) ∧ w' = w := Any.strconv_Itoa_small Tryz.lays171 i hi w
def Tryz.lays144_ren : Go.Shelf.Ren := ⟨fun | 144 => 32 | 143 => 57 | 219 => 85 | 217 => 118 | 225 => 119 | 224 => 120 | 267 => 121 | 266 => 156 | 314 => 157 | n => n, fun | 9 => 9 | 4 => 4 | 3 => 3 | 5 => 5 | 46 => 145 | 146 => 189 | 51 => 179 | n => n, fun | 1 => 0 | n => n⟩
theorem Tryz.lays144 : Go.Proofs.Lays.n144 Tryz.prog Tryz.lays144_ren := {
  mixed := by kernel_rfl
  f143 := Tryz.func57.trans (congrArg some (by kernel_rfl))
  f144 := Tryz.func32.trans (congrArg some (by kernel_rfl))
  f217 := Tryz.func118.trans (congrArg some (by kernel_rfl))
  f219 := Tryz.func85.trans (congrArg some (by kernel_rfl))
  f224 := Tryz.func120.trans (congrArg some (by kernel_rfl))
  f225 := Tryz.func119.trans (congrArg some (by kernel_rfl))
  f266 := Tryz.func156.trans (congrArg some (by kernel_rfl))
  f267 := Tryz.func121.trans (congrArg some (by kernel_rfl))
  f314 := Tryz.func157.trans (congrArg some (by kernel_rfl))
  t3 := Tryz.underlying3
  a3 := Tryz.isAgg3
  z3 := Tryz.sizeOf3
  v3 := Tryz.zeroValue3
  t4 := Tryz.underlying4
  a4 := Tryz.isAgg4
  z4 := Tryz.sizeOf4
  v4 := Tryz.zeroValue4
  t5 := Tryz.underlying5
  a5 := Tryz.isAgg5
  z5 := Tryz.sizeOf5
  v5 := Tryz.zeroValue5
  t9 := Tryz.underlying9
  a9 := Tryz.isAgg9
  z9 := Tryz.sizeOf9
  v9 := Tryz.zeroValue9
  t46 := Tryz.underlying145
  a46 := Tryz.isAgg145
  z46 := Tryz.sizeOf145
  v46 := Tryz.zeroValue145
  t51 := Tryz.underlying179
  a51 := Tryz.isAgg179
  z51 := Tryz.sizeOf179
  v51 := Tryz.zeroValue179
  t146 := Tryz.underlying189
  a146 := Tryz.isAgg189
  z146 := Tryz.sizeOf189
  v146 := Tryz.zeroValue189
  g1 := by kernel_rfl }
open Go.RowKit Go.Lib in
/-- strings.Contains: "Contains reports whether substr is within s.": AT A substr OF ONE BYTE c: IT RETURNS 'decide (0 ≤ Lib.indexByte s c)'; the world is as it was. (LAID: no walk: one application.) -/
theorem Tryz.strings_Contains_one (s : ByteArray) (c : UInt8) (w : World) :
    Calls Tryz.prog 32 #[.string s, .string ⟨#[c]⟩] w fun e w' => e = .returned (.bool (decide (0 ≤ Lib.indexByte s.data.toList c))) ∧ w' = w := Any.strings_Contains_one Tryz.lays144 s c w
def Tryz.lays99_ren : Go.Shelf.Ren := ⟨fun | 99 => 152 | 206 => 182 | n => n, fun | 9 => 9 | 4 => 4 | 3 => 3 | n => n, fun | n => n⟩
theorem Tryz.lays99 : Go.Proofs.Lays.n99 Tryz.prog Tryz.lays99_ren := {
  mixed := by kernel_rfl
  f99 := Tryz.func152.trans (congrArg some (by kernel_rfl))
  f206 := Tryz.func182.trans (congrArg some (by kernel_rfl))
  t3 := Tryz.underlying3
  a3 := Tryz.isAgg3
  z3 := Tryz.sizeOf3
  v3 := Tryz.zeroValue3
  t4 := Tryz.underlying4
  a4 := Tryz.isAgg4
  z4 := Tryz.sizeOf4
  v4 := Tryz.zeroValue4
  t9 := Tryz.underlying9
  a9 := Tryz.isAgg9
  z9 := Tryz.sizeOf9
  v9 := Tryz.zeroValue9 }
open Go.RowKit Go.Lib in
/-- strings.HasPrefix: "HasPrefix reports whether the string s begins with prefix.": IT RETURNS 'Lib.hasPrefix s prefix'; the world is as it was. (LAID: no walk: one application.) -/
theorem Tryz.strings_HasPrefix (s p : ByteArray) (w : World) :
    Calls Tryz.prog 152 #[.string s, .string p] w fun e w' => e = .returned (.bool (Lib.hasPrefix s.data.toList p.data.toList)) ∧ w' = w := Any.strings_HasPrefix Tryz.lays99 s p w
def Tryz.lays146_ren : Go.Shelf.Ren := ⟨fun | 146 => 99 | 221 => 128 | 268 => 168 | 138 => 169 | 143 => 57 | 195 => 198 | 197 => 193 | 218 => 199 | 219 => 85 | 260 => 212 | 217 => 118 | 225 => 119 | 224 => 120 | 267 => 121 | 266 => 156 | 314 => 157 | n => n, fun | 9 => 9 | 31 => 27 | 3 => 3 | 4 => 4 | 0 => 0 | 105 => 220 | 21 => 21 | 5 => 5 | 46 => 145 | 119 => 247 | 139 => 250 | 138 => 249 | 146 => 189 | 51 => 179 | n => n, fun | 1 => 0 | 3 => 7 | 4 => 8 | n => n⟩
theorem Tryz.lays146 : Go.Proofs.Lays.n146 Tryz.prog Tryz.lays146_ren := {
  mixed := by kernel_rfl
  f138 := Tryz.func169.trans (congrArg some (by kernel_rfl))
  f143 := Tryz.func57.trans (congrArg some (by kernel_rfl))
  f146 := Tryz.func99.trans (congrArg some (by kernel_rfl))
  f195 := Tryz.func198.trans (congrArg some (by kernel_rfl))
  f197 := Tryz.func193.trans (congrArg some (by kernel_rfl))
  f217 := Tryz.func118.trans (congrArg some (by kernel_rfl))
  f218 := Tryz.func199.trans (congrArg some (by kernel_rfl))
  f219 := Tryz.func85.trans (congrArg some (by kernel_rfl))
  f221 := Tryz.func128.trans (congrArg some (by kernel_rfl))
  f224 := Tryz.func120.trans (congrArg some (by kernel_rfl))
  f225 := Tryz.func119.trans (congrArg some (by kernel_rfl))
  f260 := Tryz.func212.trans (congrArg some (by kernel_rfl))
  f266 := Tryz.func156.trans (congrArg some (by kernel_rfl))
  f267 := Tryz.func121.trans (congrArg some (by kernel_rfl))
  f268 := Tryz.func168.trans (congrArg some (by kernel_rfl))
  f314 := Tryz.func157.trans (congrArg some (by kernel_rfl))
  t0 := Tryz.underlying0
  a0 := Tryz.isAgg0
  z0 := Tryz.sizeOf0
  v0 := Tryz.zeroValue0
  t3 := Tryz.underlying3
  a3 := Tryz.isAgg3
  z3 := Tryz.sizeOf3
  v3 := Tryz.zeroValue3
  t4 := Tryz.underlying4
  a4 := Tryz.isAgg4
  z4 := Tryz.sizeOf4
  v4 := Tryz.zeroValue4
  t5 := Tryz.underlying5
  a5 := Tryz.isAgg5
  z5 := Tryz.sizeOf5
  v5 := Tryz.zeroValue5
  t9 := Tryz.underlying9
  a9 := Tryz.isAgg9
  z9 := Tryz.sizeOf9
  v9 := Tryz.zeroValue9
  t21 := Tryz.underlying21
  a21 := Tryz.isAgg21
  z21 := Tryz.sizeOf21
  v21 := Tryz.zeroValue21
  t31 := Tryz.underlying27
  a31 := Tryz.isAgg27
  z31 := Tryz.sizeOf27
  v31 := Tryz.zeroValue27
  t46 := Tryz.underlying145
  a46 := Tryz.isAgg145
  z46 := Tryz.sizeOf145
  v46 := Tryz.zeroValue145
  t51 := Tryz.underlying179
  a51 := Tryz.isAgg179
  z51 := Tryz.sizeOf179
  v51 := Tryz.zeroValue179
  t105 := Tryz.underlying220
  a105 := Tryz.isAgg220
  z105 := Tryz.sizeOf220
  v105 := Tryz.zeroValue220
  t119 := Tryz.underlying247
  a119 := Tryz.isAgg247
  z119 := Tryz.sizeOf247
  t138 := Tryz.underlying249
  a138 := Tryz.isAgg249
  z138 := Tryz.sizeOf249
  v138 := Tryz.zeroValue249
  t139 := Tryz.underlying250
  a139 := Tryz.isAgg250
  z139 := Tryz.sizeOf250
  v139 := Tryz.zeroValue250
  t146 := Tryz.underlying189
  a146 := Tryz.isAgg189
  z146 := Tryz.sizeOf189
  v146 := Tryz.zeroValue189
  g1 := by kernel_rfl
  g3 := by kernel_rfl
  g4 := by kernel_rfl }
open Go.RowKit Go.Lib in
/-- strings.Split. (LAID: no walk: one application.) -/
theorem Tryz.strings_Split (s sep : ByteArray) (m : Int) (w : World) (hs : s.size < 4294967281) (hm : w.cell? ⟨0, 0, none⟩ = some (.int .i64 m)) (h1 : 1 ≤ sep.size) :
    Calls Tryz.prog 99 #[.string s, .string sep] w fun e w' =>
      e = .returned (.slice (some ⟨w.heap.size, 0, none⟩) (Lib.countB s sep + 1) (Lib.countB s sep + 1)) ∧ w' = w.alloc (.cells ((Lib.splitB sep 0 (Lib.countB s sep) s).map Value.string).toArray 9) := Any.strings_Split Tryz.lays146 (by kernel_rfl) s sep m w hs hm h1
end Go.Proofs
