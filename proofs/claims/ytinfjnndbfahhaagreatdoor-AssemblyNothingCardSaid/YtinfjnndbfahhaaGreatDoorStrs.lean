/-
  DERIVED: THE SHELF's CONTRACTS AT THIS DUMP, IN PLAIN WORDS (tools/lay-plain.mjs out of 'YtinfjnndbfahhaaGreatDoorStrsSrc.lean', which tools/lay-shelf.mjs wrote): THE SAME DECLARATIONS UNDER THE SAME NAMES: 'import', 'namespace', 'open', 'def', 'theorem' AND NOTHING ELSE: no command of the shelf's: FOR A HAND-IN. Each laying: the table of numbers ('.._ren') and one theorem, a field a fact of the dump's own or the kernel's comparison; each contract: ONE APPLICATION.
-/
import Derived.Shelf.Strings.Builder1
import Derived.Shelf.Strings.Builder2
import Derived.Shelf.Strings.OnBuilder
import Derived.Shelf.Small.Utf8
import Derived.Shelf.Small.Bits
import Derived.Shelf.Small.Strs
import Derived.Shelf.Small.Wraps
import Derived.Shelf.Strconv.Atoi
import Derived.Shelf.Strconv.Itoa0
import Derived.Shelf.Strconv.Itoa1
import Derived.Shelf.LaysM
import Derived.Shelf.Strconv.Itoa2
import Derived.Shelf.Strconv.Itoa3
import Derived.Shelf.Strconv.AtoiErrFast
import Derived.Shelf.Strconv.ParseIntEmpty
import Derived.Shelf.Strconv.AtoiFail
import Derived.Shelf.Strconv.Clone
import Derived.Shelf.Strconv.SyntaxError
import Derived.Shelf.LaysC
import Derived.Shelf.Strconv.ToError
import Derived.Shelf.Strconv.Lower
import Derived.Shelf.Strconv.ParseUint10
import Derived.Shelf.Strconv.ParseUint10Empty
import Derived.Shelf.Strconv.ParseUint10Any
import Derived.Shelf.Strconv.ParseInt10
import Derived.Shelf.Strconv.AtoiLong
import Derived.Shelf.Strconv.AtoiInnerAll
import Derived.Shelf.Strconv.RangeError
import Derived.Shelf.Strconv.ToErrorRange
import Derived.Shelf.Strconv.AtoiAll
import Derived.Shelf.Strings.Search1
import Derived.Shelf.Strings.Search2
import Derived.Shelf.Strings.Search3
import Derived.Shelf.Strings.Count
import Derived.Shelf.Strings.Shaped
import Derived.Shelf.Strings.Prefix
import Derived.Shelf.Strings.Split
import Derived.Shelf.Strings.Replace
import Derived.Shelf.Strings.SplitShaped
import Derived.Shelf.Unicode.Latin
import Derived.Shelf.Strings.Runes
import Derived.Shelf.Strings.IndexAny
import Derived.Shelf.Strings.AsciiSet
import Derived.Shelf.Strings.IndexAnyAll
import Derived.Shelf.Unicode.DecodeSlow
import Derived.Shelf.Unicode.CaseLookup
import Derived.Shelf.Unicode.CaseConvert
import Derived.Shelf.Unicode.CaseTo
import Derived.Shelf.Unicode.CaseLaid
import Derived.Ground.SlgmProg
import Derived.Shelf.SortM.Plain
import Derived.Shelf.SortM.SortNone
import Derived.Test.YtinfjnndbfahhaaGreatDoorProg
namespace Go.Proofs
open Go.Shelf
def Tryz.lays159_ren : Go.Shelf.Ren := ⟨fun | 159 => 127 | 165 => 172 | 166 => 173 | 167 => 178 | 169 => 174 | 230 => 179 | 204 => 180 | 240 => 221 | 241 => 222 | 197 => 224 | 118 => 225 | 168 => 226 | 270 => 227 | 262 => 228 | 276 => 255 | 277 => 256 | 260 => 257 | 242 => 258 | 313 => 259 | 278 => 284 | 274 => 285 | 275 => 286 | n => n, fun | 9 => 9 | 4 => 4 | 3 => 3 | 5 => 5 | 72 => 246 | 0 => 0 | 76 => 250 | 75 => 249 | 107 => 262 | 70 => 243 | 20 => 20 | 37 => 244 | 127 => 302 | 21 => 21 | 105 => 305 | 164 => 332 | 162 => 338 | 203 => 336 | 119 => 358 | 46 => 242 | 139 => 361 | 138 => 360 | 51 => 298 | 160 => 362 | 208 => 393 | 206 => 391 | 80 => 252 | n => n, fun | 13 => 1 | 3 => 2 | 4 => 3 | n => n⟩
theorem Tryz.lays159 : Go.Proofs.Lays.n159 Tryz.prog Tryz.lays159_ren := {
  mixed := by kernel_rfl
  f118 := Tryz.func225.trans (congrArg some (by kernel_rfl))
  f159 := Tryz.func127.trans (congrArg some (by kernel_rfl))
  f165 := Tryz.func172.trans (congrArg some (by kernel_rfl))
  f166 := Tryz.func173.trans (congrArg some (by kernel_rfl))
  f167 := Tryz.func178.trans (congrArg some (by kernel_rfl))
  f168 := Tryz.func226.trans (congrArg some (by kernel_rfl))
  f169 := Tryz.func174.trans (congrArg some (by kernel_rfl))
  f197 := Tryz.func224.trans (congrArg some (by kernel_rfl))
  f204 := Tryz.func180.trans (congrArg some (by kernel_rfl))
  f230 := Tryz.func179.trans (congrArg some (by kernel_rfl))
  f240 := Tryz.func221.trans (congrArg some (by kernel_rfl))
  f241 := Tryz.func222.trans (congrArg some (by kernel_rfl))
  f242 := Tryz.func258.trans (congrArg some (by kernel_rfl))
  f260 := Tryz.func257.trans (congrArg some (by kernel_rfl))
  f262 := Tryz.func228.trans (congrArg some (by kernel_rfl))
  f270 := Tryz.func227.trans (congrArg some (by kernel_rfl))
  f274 := Tryz.func285.trans (congrArg some (by kernel_rfl))
  f275 := Tryz.func286.trans (congrArg some (by kernel_rfl))
  f276 := Tryz.func255.trans (congrArg some (by kernel_rfl))
  f277 := Tryz.func256.trans (congrArg some (by kernel_rfl))
  f278 := Tryz.func284.trans (congrArg some (by kernel_rfl))
  f313 := Tryz.func259.trans (congrArg some (by kernel_rfl))
  t0 := Tryz.underlying0
  a0 := Tryz.isAgg0
  z0 := Tryz.sizeOf0
  v0 := Tryz.zeroValue0
  t3 := Tryz.underlying3
  a3 := Tryz.isAgg3
  z3 := Tryz.sizeOf3
  v3 := Tryz.zeroValue3
  t4 := Tryz.underlying4
  a4 := Tryz.isAgg4
  z4 := Tryz.sizeOf4
  v4 := Tryz.zeroValue4
  t5 := Tryz.underlying5
  a5 := Tryz.isAgg5
  z5 := Tryz.sizeOf5
  v5 := Tryz.zeroValue5
  t9 := Tryz.underlying9
  a9 := Tryz.isAgg9
  z9 := Tryz.sizeOf9
  v9 := Tryz.zeroValue9
  t20 := Tryz.underlying20
  a20 := Tryz.isAgg20
  z20 := Tryz.sizeOf20
  v20 := Tryz.zeroValue20
  t21 := Tryz.underlying21
  a21 := Tryz.isAgg21
  z21 := Tryz.sizeOf21
  v21 := Tryz.zeroValue21
  t37 := Tryz.underlying244
  a37 := Tryz.isAgg244
  z37 := Tryz.sizeOf244
  v37 := Tryz.zeroValue244
  t46 := Tryz.underlying242
  a46 := Tryz.isAgg242
  z46 := Tryz.sizeOf242
  v46 := Tryz.zeroValue242
  t51 := Tryz.underlying298
  a51 := Tryz.isAgg298
  z51 := Tryz.sizeOf298
  v51 := Tryz.zeroValue298
  t70 := Tryz.underlying243
  a70 := Tryz.isAgg243
  z70 := Tryz.sizeOf243
  v70 := Tryz.zeroValue243
  t72 := Tryz.underlying246
  a72 := Tryz.isAgg246
  z72 := Tryz.sizeOf246
  v72 := Tryz.zeroValue246
  t75 := Tryz.underlying249
  a75 := Tryz.isAgg249
  z75 := Tryz.sizeOf249
  v75 := Tryz.zeroValue249
  t76 := Tryz.underlying250
  a76 := Tryz.isAgg250
  z76 := Tryz.sizeOf250
  v76 := Tryz.zeroValue250
  t105 := Tryz.underlying305
  a105 := Tryz.isAgg305
  z105 := Tryz.sizeOf305
  v105 := Tryz.zeroValue305
  t107 := Tryz.underlying262
  a107 := Tryz.isAgg262
  z107 := Tryz.sizeOf262
  v107 := Tryz.zeroValue262
  t119 := Tryz.underlying358
  a119 := Tryz.isAgg358
  z119 := Tryz.sizeOf358
  t127 := Tryz.underlying302
  a127 := Tryz.isAgg302
  z127 := Tryz.sizeOf302
  v127 := Tryz.zeroValue302
  t138 := Tryz.underlying360
  a138 := Tryz.isAgg360
  z138 := Tryz.sizeOf360
  v138 := Tryz.zeroValue360
  t139 := Tryz.underlying361
  a139 := Tryz.isAgg361
  z139 := Tryz.sizeOf361
  v139 := Tryz.zeroValue361
  t160 := Tryz.underlying362
  a160 := Tryz.isAgg362
  z160 := Tryz.sizeOf362
  v160 := Tryz.zeroValue362
  t162 := Tryz.underlying338
  a162 := Tryz.isAgg338
  z162 := Tryz.sizeOf338
  v162 := Tryz.zeroValue338
  t164 := Tryz.underlying332
  a164 := Tryz.isAgg332
  z164 := Tryz.sizeOf332
  v164 := Tryz.zeroValue332
  t203 := Tryz.underlying336
  a203 := Tryz.isAgg336
  z203 := Tryz.sizeOf336
  v203 := Tryz.zeroValue336
  t206 := Tryz.underlying391
  a206 := Tryz.isAgg391
  z206 := Tryz.sizeOf391
  v206 := Tryz.zeroValue391
  t208 := Tryz.underlying393
  a208 := Tryz.isAgg393
  z208 := Tryz.sizeOf393
  v208 := Tryz.zeroValue393
  g3 := by kernel_rfl
  g4 := by kernel_rfl
  g13 := by kernel_rfl }
theorem Tryz.Builder_Extra_159 : Builder.Extra Tryz.prog Tryz.lays159_ren := {
  sizeBuilder := by kernel_rfl
  liesBuilder := by kernel_rfl
  t5 := Tryz.underlying5
  a5 := Tryz.isAgg5
  z5 := Tryz.sizeOf5
  v5 := Tryz.zeroValue5
  infoByte := by kernel_rfl
  cellsByte := by kernel_rfl
  sizeByte := by kernel_rfl
  neB5 := by decide }
open Go.RowKit in
/-- strings.ToLower: "ToLower returns s with all Unicode letters mapped to their lower case.": ON ASCII TEXT OF AT MOST 2^47 BYTES. Below the heap's end the world is as it was: where a letter turns, the call makes a builder and its buffer. (LAID: no walk: one application.) -/
theorem Tryz.strings_ToLower_ascii (s : ByteArray) (w : World) (hs : s.size ≤ 140737488355328) (hascii : ∀ (j : Nat) (b : UInt8), s.data.toList[j]? = some b → b.toNat < 128) :
    Calls Tryz.prog 127 #[.string s] w fun e w' => e = .returned (.string ⟨(Lib.toLowerA s.data.toList).toArray⟩) ∧ Below w.heap.size w w' := Any.strings_ToLower_ascii Tryz.lays159 Tryz.Builder_Extra_159 s w hs hascii
def Tryz.lays156_ren : Go.Shelf.Ren := ⟨fun | 156 => 121 | 165 => 172 | 166 => 173 | 169 => 174 | 240 => 221 | 241 => 222 | 276 => 255 | 277 => 256 | n => n, fun | 31 => 30 | 9 => 9 | 3 => 3 | 4 => 4 | 0 => 0 | 20 => 20 | 72 => 246 | 76 => 250 | 70 => 243 | 37 => 244 | 75 => 249 | 127 => 302 | 164 => 332 | 5 => 5 | 80 => 252 | n => n, fun | n => n⟩
theorem Tryz.lays156 : Go.Proofs.Lays.n156 Tryz.prog Tryz.lays156_ren := {
  mixed := by kernel_rfl
  f156 := Tryz.func121.trans (congrArg some (by kernel_rfl))
  f165 := Tryz.func172.trans (congrArg some (by kernel_rfl))
  f166 := Tryz.func173.trans (congrArg some (by kernel_rfl))
  f169 := Tryz.func174.trans (congrArg some (by kernel_rfl))
  f240 := Tryz.func221.trans (congrArg some (by kernel_rfl))
  f241 := Tryz.func222.trans (congrArg some (by kernel_rfl))
  f276 := Tryz.func255.trans (congrArg some (by kernel_rfl))
  f277 := Tryz.func256.trans (congrArg some (by kernel_rfl))
  t0 := Tryz.underlying0
  a0 := Tryz.isAgg0
  z0 := Tryz.sizeOf0
  v0 := Tryz.zeroValue0
  t3 := Tryz.underlying3
  a3 := Tryz.isAgg3
  z3 := Tryz.sizeOf3
  v3 := Tryz.zeroValue3
  t4 := Tryz.underlying4
  a4 := Tryz.isAgg4
  z4 := Tryz.sizeOf4
  v4 := Tryz.zeroValue4
  t9 := Tryz.underlying9
  a9 := Tryz.isAgg9
  z9 := Tryz.sizeOf9
  v9 := Tryz.zeroValue9
  t20 := Tryz.underlying20
  a20 := Tryz.isAgg20
  z20 := Tryz.sizeOf20
  v20 := Tryz.zeroValue20
  t31 := Tryz.underlying30
  a31 := Tryz.isAgg30
  z31 := Tryz.sizeOf30
  v31 := Tryz.zeroValue30
  t37 := Tryz.underlying244
  a37 := Tryz.isAgg244
  z37 := Tryz.sizeOf244
  v37 := Tryz.zeroValue244
  t70 := Tryz.underlying243
  a70 := Tryz.isAgg243
  z70 := Tryz.sizeOf243
  v70 := Tryz.zeroValue243
  t72 := Tryz.underlying246
  a72 := Tryz.isAgg246
  z72 := Tryz.sizeOf246
  v72 := Tryz.zeroValue246
  t75 := Tryz.underlying249
  a75 := Tryz.isAgg249
  z75 := Tryz.sizeOf249
  v75 := Tryz.zeroValue249
  t76 := Tryz.underlying250
  a76 := Tryz.isAgg250
  z76 := Tryz.sizeOf250
  v76 := Tryz.zeroValue250
  t127 := Tryz.underlying302
  a127 := Tryz.isAgg302
  z127 := Tryz.sizeOf302
  v127 := Tryz.zeroValue302
  t164 := Tryz.underlying332
  a164 := Tryz.isAgg332
  z164 := Tryz.sizeOf332
  v164 := Tryz.zeroValue332 }
theorem Tryz.Builder_Extra_156 : Builder.Extra Tryz.prog Tryz.lays156_ren := {
  sizeBuilder := by kernel_rfl
  liesBuilder := by kernel_rfl
  t5 := Tryz.underlying5
  a5 := Tryz.isAgg5
  z5 := Tryz.sizeOf5
  v5 := Tryz.zeroValue5
  infoByte := by kernel_rfl
  cellsByte := by kernel_rfl
  sizeByte := by kernel_rfl
  neB5 := by decide }
open Go.RowKit in
/-- No element: the empty string; the world is as it was. (Whatever the slice's address and capacity: a nil slice too.) (LAID: no walk: one application.) -/
theorem Tryz.strings_Join_none (a : Option Addr) (c : Nat) (sep : ByteArray) (w : World) :
    Calls Tryz.prog 121 #[.slice a 0 c, .string sep] w fun e w' => e = .returned (.string ⟨#[]⟩) ∧ w' = w := Any.strings_Join_none Tryz.lays156 Tryz.Builder_Extra_156 a c sep w
open Go.RowKit in
/-- strings.Join: "Join concatenates the elements of its first argument to create a single string. The separator string sep is placed between elements in the resulting string.": HOWEVER MANY ELEMENTS. Below the heap's end the world is as it was. (LAID: no walk: one application.) -/
theorem Tryz.strings_Join (bk o c : Nat) (xs : List ByteArray) (sep : ByteArray) (w : World) (hcells : ∀ (j : Nat) x, xs[j]? = some x → w.cell? ⟨bk, o + j, none⟩ = some (.string x)) (hbk : bk < w.heap.size) (hN : xs.length ≤ 140737488355328) (hcap : xs.length ≤ c) (hlen : (Lib.join (xs.map (·.data.toList)) sep.data.toList).length ≤ 140737488355328) :
    Calls Tryz.prog 121 #[.slice (some ⟨bk, o, none⟩) xs.length c, .string sep] w fun e w' => e = .returned (.string ⟨(Lib.join (xs.map (·.data.toList)) sep.data.toList).toArray⟩) ∧ Below w.heap.size w w' := Any.strings_Join Tryz.lays156 Tryz.Builder_Extra_156 bk o c xs sep w hcells hbk hN hcap hlen
def Tryz.lays106_ren : Go.Shelf.Ren := ⟨fun | 106 => 150 | 213 => 198 | 265 => 237 | n => n, fun | 9 => 9 | 3 => 3 | n => n, fun | n => n⟩
theorem Tryz.lays106 : Go.Proofs.Lays.n106 Tryz.prog Tryz.lays106_ren := {
  mixed := by kernel_rfl
  f106 := Tryz.func150.trans (congrArg some (by kernel_rfl))
  f213 := Tryz.func198.trans (congrArg some (by kernel_rfl))
  f265 := Tryz.func237.trans (congrArg some (by kernel_rfl))
  t3 := Tryz.underlying3
  a3 := Tryz.isAgg3
  z3 := Tryz.sizeOf3
  v3 := Tryz.zeroValue3
  t9 := Tryz.underlying9
  a9 := Tryz.isAgg9
  z9 := Tryz.sizeOf9
  v9 := Tryz.zeroValue9 }
open Go.RowKit in
/-- strings.Compare: "Compare returns an integer comparing two strings lexicographically. The result will be 0 if a == b, -1 if a < b, and +1 if a > b.": IT RETURNS 'Lib.compareBytes a b'; the world is as it was. (LAID: no walk: one application.) -/
theorem Tryz.strings_Compare (a b : ByteArray) (w : World) :
    Calls Tryz.prog 150 #[.string a, .string b] w fun e w' => e = .returned (.int .i64 (Lib.compareBytes a.data.toList b.data.toList)) ∧ w' = w := Any.strings_Compare Tryz.lays106 a b w
def Tryz.lays137_ren : Go.Shelf.Ren := ⟨fun | 137 => 317 | 217 => 321 | 266 => 333 | n => n, fun | 9 => 9 | 5 => 5 | 3 => 3 | n => n, fun | n => n⟩
theorem Tryz.lays137 : Go.Proofs.Lays.n137 Tryz.prog Tryz.lays137_ren := {
  mixed := by kernel_rfl
  f137 := Tryz.func317.trans (congrArg some (by kernel_rfl))
  f217 := Tryz.func321.trans (congrArg some (by kernel_rfl))
  f266 := Tryz.func333.trans (congrArg some (by kernel_rfl))
  t3 := Tryz.underlying3
  a3 := Tryz.isAgg3
  z3 := Tryz.sizeOf3
  v3 := Tryz.zeroValue3
  t5 := Tryz.underlying5
  a5 := Tryz.isAgg5
  z5 := Tryz.sizeOf5
  v5 := Tryz.zeroValue5
  t9 := Tryz.underlying9
  a9 := Tryz.isAgg9
  z9 := Tryz.sizeOf9
  v9 := Tryz.zeroValue9 }
open Go.RowKit in
/-- strings.IndexByte: "IndexByte returns the index of the first instance of c in s, or -1 if c is not present in s.": IT RETURNS 'Lib.indexByte s c'; the world is as it was. (LAID: no walk: one application.) -/
theorem Tryz.strings_IndexByte (s : ByteArray) (c : Int) (w : World) :
    Calls Tryz.prog 317 #[.string s, .int .u8 c] w fun e w' => e = .returned (.int .i64 (Lib.indexByte s.data.toList c.toNat.toUInt8)) ∧ w' = w := Any.strings_IndexByte Tryz.lays137 s c w
def Tryz.lays171_ren : Go.Shelf.Ren := ⟨fun | 171 => 201 | 243 => 240 | 246 => 270 | 283 => 297 | 284 => 298 | 285 => 299 | 286 => 300 | 129 => 219 | 317 => 325 | 318 => 326 | 319 => 327 | 320 => 328 | 337 => 335 | 338 => 336 | n => n, fun | 3 => 3 | 9 => 9 | 2 => 2 | 4 => 4 | 171 => 376 | 0 => 0 | 53 => 300 | 37 => 244 | 5 => 5 | 173 => 378 | 212 => 401 | 51 => 298 | 20 => 20 | 213 => 402 | 46 => 242 | 232 => 409 | 233 => 410 | n => n, fun | 17 => 6 | 18 => 7 | 19 => 8 | n => n⟩
theorem Tryz.lays171 : Go.Proofs.Lays.n171 Tryz.prog Tryz.lays171_ren := {
  mixed := by kernel_rfl
  f129 := Tryz.func219.trans (congrArg some (by kernel_rfl))
  f171 := Tryz.func201.trans (congrArg some (by kernel_rfl))
  f243 := Tryz.func240.trans (congrArg some (by kernel_rfl))
  f246 := Tryz.func270.trans (congrArg some (by kernel_rfl))
  f283 := Tryz.func297.trans (congrArg some (by kernel_rfl))
  f284 := Tryz.func298.trans (congrArg some (by kernel_rfl))
  f285 := Tryz.func299.trans (congrArg some (by kernel_rfl))
  f286 := Tryz.func300.trans (congrArg some (by kernel_rfl))
  f317 := Tryz.func325.trans (congrArg some (by kernel_rfl))
  f318 := Tryz.func326.trans (congrArg some (by kernel_rfl))
  f319 := Tryz.func327.trans (congrArg some (by kernel_rfl))
  f320 := Tryz.func328.trans (congrArg some (by kernel_rfl))
  f337 := Tryz.func335.trans (congrArg some (by kernel_rfl))
  f338 := Tryz.func336.trans (congrArg some (by kernel_rfl))
  t0 := Tryz.underlying0
  a0 := Tryz.isAgg0
  z0 := Tryz.sizeOf0
  v0 := Tryz.zeroValue0
  t2 := Tryz.underlying2
  a2 := Tryz.isAgg2
  z2 := Tryz.sizeOf2
  v2 := Tryz.zeroValue2
  t3 := Tryz.underlying3
  a3 := Tryz.isAgg3
  z3 := Tryz.sizeOf3
  v3 := Tryz.zeroValue3
  t4 := Tryz.underlying4
  a4 := Tryz.isAgg4
  z4 := Tryz.sizeOf4
  v4 := Tryz.zeroValue4
  t5 := Tryz.underlying5
  a5 := Tryz.isAgg5
  z5 := Tryz.sizeOf5
  v5 := Tryz.zeroValue5
  t9 := Tryz.underlying9
  a9 := Tryz.isAgg9
  z9 := Tryz.sizeOf9
  v9 := Tryz.zeroValue9
  t20 := Tryz.underlying20
  a20 := Tryz.isAgg20
  z20 := Tryz.sizeOf20
  v20 := Tryz.zeroValue20
  t37 := Tryz.underlying244
  a37 := Tryz.isAgg244
  z37 := Tryz.sizeOf244
  v37 := Tryz.zeroValue244
  t46 := Tryz.underlying242
  a46 := Tryz.isAgg242
  z46 := Tryz.sizeOf242
  v46 := Tryz.zeroValue242
  t51 := Tryz.underlying298
  a51 := Tryz.isAgg298
  z51 := Tryz.sizeOf298
  v51 := Tryz.zeroValue298
  t53 := Tryz.underlying300
  a53 := Tryz.isAgg300
  z53 := Tryz.sizeOf300
  v53 := Tryz.zeroValue300
  t171 := Tryz.underlying376
  a171 := Tryz.isAgg376
  z171 := Tryz.sizeOf376
  v171 := Tryz.zeroValue376
  t173 := Tryz.underlying378
  a173 := Tryz.isAgg378
  z173 := Tryz.sizeOf378
  v173 := Tryz.zeroValue378
  t212 := Tryz.underlying401
  a212 := Tryz.isAgg401
  z212 := Tryz.sizeOf401
  v212 := Tryz.zeroValue401
  t213 := Tryz.underlying402
  a213 := Tryz.isAgg402
  z213 := Tryz.sizeOf402
  t232 := Tryz.underlying409
  a232 := Tryz.isAgg409
  z232 := Tryz.sizeOf409
  v232 := Tryz.zeroValue409
  t233 := Tryz.underlying410
  a233 := Tryz.isAgg410
  z233 := Tryz.sizeOf410
  v233 := Tryz.zeroValue410
  g17 := by kernel_rfl
  g18 := by kernel_rfl
  g19 := by kernel_rfl }
open Go.RowKit Go.Sort Go.Lib in
/-- THE ROAD WITHOUT THE TABLE: 0 <= i < 100: NO PREMISE ON THE WORLD, AND THE WORLD IS AS IT WAS: a row that keeps its argument in that range need list no table ('laid = []'). (LAID: no walk: one application.) -/
theorem Tryz.strconv_Itoa_small (i : Nat) (hi : i < 100) (w : World) :
    Calls Tryz.prog 201 #[.int .i64 i] w fun e w' => e = .returned (.string ⟨(Lib.decDigits i).toArray⟩) ∧ w' = w := Any.strconv_Itoa_small Tryz.lays171 i hi w
def Tryz.lays99_ren : Go.Shelf.Ren := ⟨fun | 99 => 100 | 206 => 155 | n => n, fun | 9 => 9 | 4 => 4 | 3 => 3 | n => n, fun | n => n⟩
theorem Tryz.lays99 : Go.Proofs.Lays.n99 Tryz.prog Tryz.lays99_ren := {
  mixed := by kernel_rfl
  f99 := Tryz.func100.trans (congrArg some (by kernel_rfl))
  f206 := Tryz.func155.trans (congrArg some (by kernel_rfl))
  t3 := Tryz.underlying3
  a3 := Tryz.isAgg3
  z3 := Tryz.sizeOf3
  v3 := Tryz.zeroValue3
  t4 := Tryz.underlying4
  a4 := Tryz.isAgg4
  z4 := Tryz.sizeOf4
  v4 := Tryz.zeroValue4
  t9 := Tryz.underlying9
  a9 := Tryz.isAgg9
  z9 := Tryz.sizeOf9
  v9 := Tryz.zeroValue9 }
open Go.RowKit Go.Lib in
/-- strings.HasPrefix: "HasPrefix reports whether the string s begins with prefix.": IT RETURNS 'Lib.hasPrefix s prefix'; the world is as it was. (LAID: no walk: one application.) -/
theorem Tryz.strings_HasPrefix (s p : ByteArray) (w : World) :
    Calls Tryz.prog 100 #[.string s, .string p] w fun e w' => e = .returned (.bool (Lib.hasPrefix s.data.toList p.data.toList)) ∧ w' = w := Any.strings_HasPrefix Tryz.lays99 s p w
def Tryz.lays146_ren : Go.Shelf.Ren := ⟨fun | 146 => 190 | 221 => 234 | 268 => 264 | 138 => 262 | 143 => 263 | 195 => 291 | 197 => 224 | 218 => 292 | 219 => 293 | 260 => 257 | 217 => 321 | 225 => 320 | 224 => 319 | 267 => 322 | 266 => 333 | 314 => 334 | n => n, fun | 9 => 9 | 31 => 30 | 3 => 3 | 4 => 4 | 0 => 0 | 105 => 305 | 21 => 21 | 5 => 5 | 46 => 242 | 119 => 358 | 139 => 361 | 138 => 360 | 146 => 406 | 51 => 298 | n => n, fun | 1 => 0 | 3 => 2 | 4 => 3 | n => n⟩
theorem Tryz.lays146 : Go.Proofs.Lays.n146 Tryz.prog Tryz.lays146_ren := {
  mixed := by kernel_rfl
  f138 := Tryz.func262.trans (congrArg some (by kernel_rfl))
  f143 := Tryz.func263.trans (congrArg some (by kernel_rfl))
  f146 := Tryz.func190.trans (congrArg some (by kernel_rfl))
  f195 := Tryz.func291.trans (congrArg some (by kernel_rfl))
  f197 := Tryz.func224.trans (congrArg some (by kernel_rfl))
  f217 := Tryz.func321.trans (congrArg some (by kernel_rfl))
  f218 := Tryz.func292.trans (congrArg some (by kernel_rfl))
  f219 := Tryz.func293.trans (congrArg some (by kernel_rfl))
  f221 := Tryz.func234.trans (congrArg some (by kernel_rfl))
  f224 := Tryz.func319.trans (congrArg some (by kernel_rfl))
  f225 := Tryz.func320.trans (congrArg some (by kernel_rfl))
  f260 := Tryz.func257.trans (congrArg some (by kernel_rfl))
  f266 := Tryz.func333.trans (congrArg some (by kernel_rfl))
  f267 := Tryz.func322.trans (congrArg some (by kernel_rfl))
  f268 := Tryz.func264.trans (congrArg some (by kernel_rfl))
  f314 := Tryz.func334.trans (congrArg some (by kernel_rfl))
  t0 := Tryz.underlying0
  a0 := Tryz.isAgg0
  z0 := Tryz.sizeOf0
  v0 := Tryz.zeroValue0
  t3 := Tryz.underlying3
  a3 := Tryz.isAgg3
  z3 := Tryz.sizeOf3
  v3 := Tryz.zeroValue3
  t4 := Tryz.underlying4
  a4 := Tryz.isAgg4
  z4 := Tryz.sizeOf4
  v4 := Tryz.zeroValue4
  t5 := Tryz.underlying5
  a5 := Tryz.isAgg5
  z5 := Tryz.sizeOf5
  v5 := Tryz.zeroValue5
  t9 := Tryz.underlying9
  a9 := Tryz.isAgg9
  z9 := Tryz.sizeOf9
  v9 := Tryz.zeroValue9
  t21 := Tryz.underlying21
  a21 := Tryz.isAgg21
  z21 := Tryz.sizeOf21
  v21 := Tryz.zeroValue21
  t31 := Tryz.underlying30
  a31 := Tryz.isAgg30
  z31 := Tryz.sizeOf30
  v31 := Tryz.zeroValue30
  t46 := Tryz.underlying242
  a46 := Tryz.isAgg242
  z46 := Tryz.sizeOf242
  v46 := Tryz.zeroValue242
  t51 := Tryz.underlying298
  a51 := Tryz.isAgg298
  z51 := Tryz.sizeOf298
  v51 := Tryz.zeroValue298
  t105 := Tryz.underlying305
  a105 := Tryz.isAgg305
  z105 := Tryz.sizeOf305
  v105 := Tryz.zeroValue305
  t119 := Tryz.underlying358
  a119 := Tryz.isAgg358
  z119 := Tryz.sizeOf358
  t138 := Tryz.underlying360
  a138 := Tryz.isAgg360
  z138 := Tryz.sizeOf360
  v138 := Tryz.zeroValue360
  t139 := Tryz.underlying361
  a139 := Tryz.isAgg361
  z139 := Tryz.sizeOf361
  v139 := Tryz.zeroValue361
  t146 := Tryz.underlying406
  a146 := Tryz.isAgg406
  z146 := Tryz.sizeOf406
  v146 := Tryz.zeroValue406
  g1 := by kernel_rfl
  g3 := by kernel_rfl
  g4 := by kernel_rfl }
open Go.RowKit Go.Lib in
/-- strings.Split. (LAID: no walk: one application.) -/
theorem Tryz.strings_Split (s sep : ByteArray) (m : Int) (w : World) (hs : s.size < 4294967281) (hm : w.cell? ⟨0, 0, none⟩ = some (.int .i64 m)) (h1 : 1 ≤ sep.size) :
    Calls Tryz.prog 190 #[.string s, .string sep] w fun e w' =>
      e = .returned (.slice (some ⟨w.heap.size, 0, none⟩) (Lib.countB s sep + 1) (Lib.countB s sep + 1)) ∧ w' = w.alloc (.cells ((Lib.splitB sep 0 (Lib.countB s sep) s).map Value.string).toArray 9) := Any.strings_Split Tryz.lays146 (by kernel_rfl) s sep m w hs hm h1
def Tryz.lays155_ren : Go.Shelf.Ren := ⟨fun | 155 => 187 | 154 => 232 | 138 => 262 | 165 => 172 | 143 => 263 | 166 => 173 | 197 => 224 | 169 => 174 | 195 => 291 | 218 => 292 | 240 => 221 | 241 => 222 | 219 => 293 | 260 => 257 | 276 => 255 | 277 => 256 | 217 => 321 | 225 => 320 | 224 => 319 | 267 => 322 | 266 => 333 | 314 => 334 | n => n, fun | 9 => 9 | 3 => 3 | 4 => 4 | 72 => 246 | 0 => 0 | 76 => 250 | 105 => 305 | 21 => 21 | 5 => 5 | 70 => 243 | 20 => 20 | 37 => 244 | 75 => 249 | 127 => 302 | 164 => 332 | 46 => 242 | 119 => 358 | 139 => 361 | 138 => 360 | 146 => 406 | 51 => 298 | 80 => 252 | n => n, fun | 1 => 0 | 3 => 2 | 4 => 3 | n => n⟩
theorem Tryz.lays155 : Go.Proofs.Lays.n155 Tryz.prog Tryz.lays155_ren := {
  mixed := by kernel_rfl
  f138 := Tryz.func262.trans (congrArg some (by kernel_rfl))
  f143 := Tryz.func263.trans (congrArg some (by kernel_rfl))
  f154 := Tryz.func232.trans (congrArg some (by kernel_rfl))
  f155 := Tryz.func187.trans (congrArg some (by kernel_rfl))
  f165 := Tryz.func172.trans (congrArg some (by kernel_rfl))
  f166 := Tryz.func173.trans (congrArg some (by kernel_rfl))
  f169 := Tryz.func174.trans (congrArg some (by kernel_rfl))
  f195 := Tryz.func291.trans (congrArg some (by kernel_rfl))
  f197 := Tryz.func224.trans (congrArg some (by kernel_rfl))
  f217 := Tryz.func321.trans (congrArg some (by kernel_rfl))
  f218 := Tryz.func292.trans (congrArg some (by kernel_rfl))
  f219 := Tryz.func293.trans (congrArg some (by kernel_rfl))
  f224 := Tryz.func319.trans (congrArg some (by kernel_rfl))
  f225 := Tryz.func320.trans (congrArg some (by kernel_rfl))
  f240 := Tryz.func221.trans (congrArg some (by kernel_rfl))
  f241 := Tryz.func222.trans (congrArg some (by kernel_rfl))
  f260 := Tryz.func257.trans (congrArg some (by kernel_rfl))
  f266 := Tryz.func333.trans (congrArg some (by kernel_rfl))
  f267 := Tryz.func322.trans (congrArg some (by kernel_rfl))
  f276 := Tryz.func255.trans (congrArg some (by kernel_rfl))
  f277 := Tryz.func256.trans (congrArg some (by kernel_rfl))
  f314 := Tryz.func334.trans (congrArg some (by kernel_rfl))
  t0 := Tryz.underlying0
  a0 := Tryz.isAgg0
  z0 := Tryz.sizeOf0
  v0 := Tryz.zeroValue0
  t3 := Tryz.underlying3
  a3 := Tryz.isAgg3
  z3 := Tryz.sizeOf3
  v3 := Tryz.zeroValue3
  t4 := Tryz.underlying4
  a4 := Tryz.isAgg4
  z4 := Tryz.sizeOf4
  v4 := Tryz.zeroValue4
  t5 := Tryz.underlying5
  a5 := Tryz.isAgg5
  z5 := Tryz.sizeOf5
  v5 := Tryz.zeroValue5
  t9 := Tryz.underlying9
  a9 := Tryz.isAgg9
  z9 := Tryz.sizeOf9
  v9 := Tryz.zeroValue9
  t20 := Tryz.underlying20
  a20 := Tryz.isAgg20
  z20 := Tryz.sizeOf20
  v20 := Tryz.zeroValue20
  t21 := Tryz.underlying21
  a21 := Tryz.isAgg21
  z21 := Tryz.sizeOf21
  v21 := Tryz.zeroValue21
  t37 := Tryz.underlying244
  a37 := Tryz.isAgg244
  z37 := Tryz.sizeOf244
  v37 := Tryz.zeroValue244
  t46 := Tryz.underlying242
  a46 := Tryz.isAgg242
  z46 := Tryz.sizeOf242
  v46 := Tryz.zeroValue242
  t51 := Tryz.underlying298
  a51 := Tryz.isAgg298
  z51 := Tryz.sizeOf298
  v51 := Tryz.zeroValue298
  t70 := Tryz.underlying243
  a70 := Tryz.isAgg243
  z70 := Tryz.sizeOf243
  v70 := Tryz.zeroValue243
  t72 := Tryz.underlying246
  a72 := Tryz.isAgg246
  z72 := Tryz.sizeOf246
  v72 := Tryz.zeroValue246
  t75 := Tryz.underlying249
  a75 := Tryz.isAgg249
  z75 := Tryz.sizeOf249
  v75 := Tryz.zeroValue249
  t76 := Tryz.underlying250
  a76 := Tryz.isAgg250
  z76 := Tryz.sizeOf250
  v76 := Tryz.zeroValue250
  t105 := Tryz.underlying305
  a105 := Tryz.isAgg305
  z105 := Tryz.sizeOf305
  v105 := Tryz.zeroValue305
  t119 := Tryz.underlying358
  a119 := Tryz.isAgg358
  z119 := Tryz.sizeOf358
  t127 := Tryz.underlying302
  a127 := Tryz.isAgg302
  z127 := Tryz.sizeOf302
  v127 := Tryz.zeroValue302
  t138 := Tryz.underlying360
  a138 := Tryz.isAgg360
  z138 := Tryz.sizeOf360
  v138 := Tryz.zeroValue360
  t139 := Tryz.underlying361
  a139 := Tryz.isAgg361
  z139 := Tryz.sizeOf361
  v139 := Tryz.zeroValue361
  t146 := Tryz.underlying406
  a146 := Tryz.isAgg406
  z146 := Tryz.sizeOf406
  v146 := Tryz.zeroValue406
  t164 := Tryz.underlying332
  a164 := Tryz.isAgg332
  z164 := Tryz.sizeOf332
  v164 := Tryz.zeroValue332
  g1 := by kernel_rfl
  g3 := by kernel_rfl
  g4 := by kernel_rfl }
theorem Tryz.Builder_Extra_155 : Builder.Extra Tryz.prog Tryz.lays155_ren := {
  sizeBuilder := by kernel_rfl
  liesBuilder := by kernel_rfl
  t5 := Tryz.underlying5
  a5 := Tryz.isAgg5
  z5 := Tryz.sizeOf5
  v5 := Tryz.zeroValue5
  infoByte := by kernel_rfl
  cellsByte := by kernel_rfl
  sizeByte := by kernel_rfl
  neB5 := by decide }
open Go.RowKit Go.Lib in
/-- strings.ReplaceAll: "ReplaceAll returns a copy of the string s with all non-overlapping instances of old replaced by new.": AT AN old THAT IS NOT EMPTY: 'Lib.replaceAll s old new'. (LAID: no walk: one application.) -/
theorem Tryz.strings_ReplaceAll (s old new : ByteArray) (m : Int) (w : World) (hs : s.size < 4294967281) (hm : w.cell? ⟨0, 0, none⟩ = some (.int .i64 m)) (h1 : 1 ≤ old.size) (hlen : s.size + Lib.countB s old * new.size ≤ 140737488355328) :
    Calls Tryz.prog 187 #[.string s, .string old, .string new] w fun e w' =>
      e = .returned (.string ⟨(Lib.replaceAll s.data.toList old.data.toList new.data.toList).toArray⟩) ∧ Below w.heap.size w w' := Any.strings_ReplaceAll Tryz.lays155 Tryz.Builder_Extra_155 s old new m w hs hm h1 hlen
end Go.Proofs
