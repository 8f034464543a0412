/-
  DERIVED: THE SHELF's CONTRACTS AT THIS DUMP, IN PLAIN WORDS (tools/lay-plain.mjs out of 'YtcibciippghooaaGreatDoorStrsSrc.lean', which tools/lay-shelf.mjs wrote): THE SAME DECLARATIONS UNDER THE SAME NAMES: 'import', 'namespace', 'open', 'def', 'theorem' AND NOTHING ELSE: no command of the shelf's: FOR A HAND-IN. Each laying: the table of numbers ('.._ren') and one theorem, a field a fact of the dump's own or the kernel's comparison; each contract: ONE APPLICATION.
-/
import Derived.Shelf.Strings.Builder1
import Derived.Shelf.Strings.Builder2
import Derived.Shelf.Strings.OnBuilder
import Derived.Shelf.Small.Utf8
import Derived.Shelf.Small.Bits
import Derived.Shelf.Small.Strs
import Derived.Shelf.Small.Wraps
import Derived.Shelf.Utf8.RuneCount
import Derived.Shelf.Strconv.Atoi
import Derived.Shelf.Strconv.Itoa0
import Derived.Shelf.Strconv.Itoa1
import Derived.Shelf.LaysM
import Derived.Shelf.Strconv.Itoa2
import Derived.Shelf.Strconv.Itoa3
import Derived.Shelf.Strconv.AtoiErrFast
import Derived.Shelf.Strconv.ParseIntEmpty
import Derived.Shelf.Strconv.AtoiFail
import Derived.Shelf.Strconv.Clone
import Derived.Shelf.Strconv.SyntaxError
import Derived.Shelf.LaysC
import Derived.Shelf.Strconv.ToError
import Derived.Shelf.Strconv.Lower
import Derived.Shelf.Strconv.ParseUint10
import Derived.Shelf.Strconv.ParseUint10Empty
import Derived.Shelf.Strconv.ParseUint10Any
import Derived.Shelf.Strconv.ParseInt10
import Derived.Shelf.Strconv.AtoiLong
import Derived.Shelf.Strconv.AtoiInnerAll
import Derived.Shelf.Strconv.RangeError
import Derived.Shelf.Strconv.ToErrorRange
import Derived.Shelf.Strconv.AtoiAll
import Derived.Shelf.Strings.Search1
import Derived.Shelf.Strings.Search2
import Derived.Shelf.Strings.Search3
import Derived.Shelf.Strings.Count
import Derived.Shelf.Strings.Shaped
import Derived.Shelf.Strings.Prefix
import Derived.Shelf.Strings.Split
import Derived.Shelf.Strings.SplitShaped
import Derived.Shelf.Unicode.Latin
import Derived.Shelf.Unicode.Decode
import Derived.Shelf.Strings.Runes
import Derived.Shelf.Strings.RuneCount
import Derived.Shelf.Strings.IndexAny
import Derived.Shelf.Strings.AsciiSet
import Derived.Shelf.Strings.IndexAnyAll
import Derived.Shelf.Strings.Explode
import Derived.Shelf.Unicode.DecodeSlow
import Derived.Shelf.Unicode.DecodeAny
import Derived.Shelf.Unicode.CaseLookup
import Derived.Shelf.Unicode.CaseConvert
import Derived.Shelf.Unicode.CaseTo
import Derived.Shelf.Unicode.CaseLaid
import Derived.Ground.Names2Prog
import Derived.Shelf.Slices.Clone
import Derived.Shelf.Slices.SearchI
import Derived.Ground.SlgnProg
import Derived.Shelf.SlicesE.Clone
import Derived.Ground.SlgmProg
import Derived.Shelf.SortM.Plain
import Derived.Shelf.SortM.SortNone
import Derived.Test.YtcibciippghooaaGreatDoorProg
namespace Go.Proofs
open Go.Shelf
def Tryz.lays159_ren : Go.Shelf.Ren := ⟨fun | 159 => 144 | 165 => 101 | 166 => 102 | 167 => 171 | 169 => 103 | 230 => 172 | 204 => 173 | 240 => 141 | 241 => 142 | 197 => 166 | 118 => 189 | 168 => 190 | 270 => 191 | 262 => 192 | 276 => 169 | 277 => 170 | 260 => 187 | 242 => 198 | 313 => 199 | 278 => 202 | 274 => 203 | 275 => 204 | n => n, fun | 9 => 9 | 4 => 4 | 3 => 3 | 5 => 5 | 72 => 148 | 0 => 0 | 76 => 152 | 75 => 151 | 107 => 208 | 70 => 146 | 20 => 20 | 37 => 126 | 127 => 183 | 21 => 21 | 105 => 201 | 164 => 203 | 162 => 240 | 203 => 238 | 119 => 231 | 46 => 135 | 139 => 234 | 138 => 233 | 51 => 162 | 160 => 245 | 208 => 251 | 206 => 249 | 80 => 154 | n => n, fun | 13 => 8 | 3 => 6 | 4 => 7 | n => n⟩
theorem Tryz.lays159 : Go.Proofs.Lays.n159 Tryz.prog Tryz.lays159_ren := {
  mixed := by kernel_rfl
  f118 := Tryz.func189.trans (congrArg some (by kernel_rfl))
  f159 := Tryz.func144.trans (congrArg some (by kernel_rfl))
  f165 := Tryz.func101.trans (congrArg some (by kernel_rfl))
  f166 := Tryz.func102.trans (congrArg some (by kernel_rfl))
  f167 := Tryz.func171.trans (congrArg some (by kernel_rfl))
  f168 := Tryz.func190.trans (congrArg some (by kernel_rfl))
  f169 := Tryz.func103.trans (congrArg some (by kernel_rfl))
  f197 := Tryz.func166.trans (congrArg some (by kernel_rfl))
  f204 := Tryz.func173.trans (congrArg some (by kernel_rfl))
  f230 := Tryz.func172.trans (congrArg some (by kernel_rfl))
  f240 := Tryz.func141.trans (congrArg some (by kernel_rfl))
  f241 := Tryz.func142.trans (congrArg some (by kernel_rfl))
  f242 := Tryz.func198.trans (congrArg some (by kernel_rfl))
  f260 := Tryz.func187.trans (congrArg some (by kernel_rfl))
  f262 := Tryz.func192.trans (congrArg some (by kernel_rfl))
  f270 := Tryz.func191.trans (congrArg some (by kernel_rfl))
  f274 := Tryz.func203.trans (congrArg some (by kernel_rfl))
  f275 := Tryz.func204.trans (congrArg some (by kernel_rfl))
  f276 := Tryz.func169.trans (congrArg some (by kernel_rfl))
  f277 := Tryz.func170.trans (congrArg some (by kernel_rfl))
  f278 := Tryz.func202.trans (congrArg some (by kernel_rfl))
  f313 := Tryz.func199.trans (congrArg some (by kernel_rfl))
  t0 := Tryz.underlying0
  a0 := Tryz.isAgg0
  z0 := Tryz.sizeOf0
  v0 := Tryz.zeroValue0
  t3 := Tryz.underlying3
  a3 := Tryz.isAgg3
  z3 := Tryz.sizeOf3
  v3 := Tryz.zeroValue3
  t4 := Tryz.underlying4
  a4 := Tryz.isAgg4
  z4 := Tryz.sizeOf4
  v4 := Tryz.zeroValue4
  t5 := Tryz.underlying5
  a5 := Tryz.isAgg5
  z5 := Tryz.sizeOf5
  v5 := Tryz.zeroValue5
  t9 := Tryz.underlying9
  a9 := Tryz.isAgg9
  z9 := Tryz.sizeOf9
  v9 := Tryz.zeroValue9
  t20 := Tryz.underlying20
  a20 := Tryz.isAgg20
  z20 := Tryz.sizeOf20
  v20 := Tryz.zeroValue20
  t21 := Tryz.underlying21
  a21 := Tryz.isAgg21
  z21 := Tryz.sizeOf21
  v21 := Tryz.zeroValue21
  t37 := Tryz.underlying126
  a37 := Tryz.isAgg126
  z37 := Tryz.sizeOf126
  v37 := Tryz.zeroValue126
  t46 := Tryz.underlying135
  a46 := Tryz.isAgg135
  z46 := Tryz.sizeOf135
  v46 := Tryz.zeroValue135
  t51 := Tryz.underlying162
  a51 := Tryz.isAgg162
  z51 := Tryz.sizeOf162
  v51 := Tryz.zeroValue162
  t70 := Tryz.underlying146
  a70 := Tryz.isAgg146
  z70 := Tryz.sizeOf146
  v70 := Tryz.zeroValue146
  t72 := Tryz.underlying148
  a72 := Tryz.isAgg148
  z72 := Tryz.sizeOf148
  v72 := Tryz.zeroValue148
  t75 := Tryz.underlying151
  a75 := Tryz.isAgg151
  z75 := Tryz.sizeOf151
  v75 := Tryz.zeroValue151
  t76 := Tryz.underlying152
  a76 := Tryz.isAgg152
  z76 := Tryz.sizeOf152
  v76 := Tryz.zeroValue152
  t105 := Tryz.underlying201
  a105 := Tryz.isAgg201
  z105 := Tryz.sizeOf201
  v105 := Tryz.zeroValue201
  t107 := Tryz.underlying208
  a107 := Tryz.isAgg208
  z107 := Tryz.sizeOf208
  v107 := Tryz.zeroValue208
  t119 := Tryz.underlying231
  a119 := Tryz.isAgg231
  z119 := Tryz.sizeOf231
  t127 := Tryz.underlying183
  a127 := Tryz.isAgg183
  z127 := Tryz.sizeOf183
  v127 := Tryz.zeroValue183
  t138 := Tryz.underlying233
  a138 := Tryz.isAgg233
  z138 := Tryz.sizeOf233
  v138 := Tryz.zeroValue233
  t139 := Tryz.underlying234
  a139 := Tryz.isAgg234
  z139 := Tryz.sizeOf234
  v139 := Tryz.zeroValue234
  t160 := Tryz.underlying245
  a160 := Tryz.isAgg245
  z160 := Tryz.sizeOf245
  v160 := Tryz.zeroValue245
  t162 := Tryz.underlying240
  a162 := Tryz.isAgg240
  z162 := Tryz.sizeOf240
  v162 := Tryz.zeroValue240
  t164 := Tryz.underlying203
  a164 := Tryz.isAgg203
  z164 := Tryz.sizeOf203
  v164 := Tryz.zeroValue203
  t203 := Tryz.underlying238
  a203 := Tryz.isAgg238
  z203 := Tryz.sizeOf238
  v203 := Tryz.zeroValue238
  t206 := Tryz.underlying249
  a206 := Tryz.isAgg249
  z206 := Tryz.sizeOf249
  v206 := Tryz.zeroValue249
  t208 := Tryz.underlying251
  a208 := Tryz.isAgg251
  z208 := Tryz.sizeOf251
  v208 := Tryz.zeroValue251
  g3 := by kernel_rfl
  g4 := by kernel_rfl
  g13 := by kernel_rfl }
theorem Tryz.Builder_Extra_159 : Builder.Extra Tryz.prog Tryz.lays159_ren := {
  sizeBuilder := by kernel_rfl
  liesBuilder := by kernel_rfl
  t5 := Tryz.underlying5
  a5 := Tryz.isAgg5
  z5 := Tryz.sizeOf5
  v5 := Tryz.zeroValue5
  infoByte := by kernel_rfl
  cellsByte := by kernel_rfl
  sizeByte := by kernel_rfl
  neB5 := by decide }
open Go.RowKit in
/-- strings.ToLower: "ToLower returns s with all Unicode letters mapped to their lower case.": ON ASCII TEXT OF AT MOST 2^47 BYTES. Below the heap's end the world is as it was: where a letter turns, the call makes a builder and its buffer. (LAID: no walk: one application.) -/
theorem Tryz.strings_ToLower_ascii (s : ByteArray) (w : World) (hs : s.size ≤ 140737488355328) (hascii : ∀ (j : Nat) (b : UInt8), s.data.toList[j]? = some b → b.toNat < 128) :
    Calls Tryz.prog 144 #[.string s] w fun e w' => e = .returned (.string ⟨(Lib.toLowerA s.data.toList).toArray⟩) ∧ Below w.heap.size w w' := Any.strings_ToLower_ascii Tryz.lays159 Tryz.Builder_Extra_159 s w hs hascii
def Tryz.lays156_ren : Go.Shelf.Ren := ⟨fun | 156 => 72 | 165 => 101 | 166 => 102 | 169 => 103 | 240 => 141 | 241 => 142 | 276 => 169 | 277 => 170 | n => n, fun | 31 => 27 | 9 => 9 | 3 => 3 | 4 => 4 | 0 => 0 | 20 => 20 | 72 => 148 | 76 => 152 | 70 => 146 | 37 => 126 | 75 => 151 | 127 => 183 | 164 => 203 | 5 => 5 | 80 => 154 | n => n, fun | n => n⟩
theorem Tryz.lays156 : Go.Proofs.Lays.n156 Tryz.prog Tryz.lays156_ren := {
  mixed := by kernel_rfl
  f156 := Tryz.func72.trans (congrArg some (by kernel_rfl))
  f165 := Tryz.func101.trans (congrArg some (by kernel_rfl))
  f166 := Tryz.func102.trans (congrArg some (by kernel_rfl))
  f169 := Tryz.func103.trans (congrArg some (by kernel_rfl))
  f240 := Tryz.func141.trans (congrArg some (by kernel_rfl))
  f241 := Tryz.func142.trans (congrArg some (by kernel_rfl))
  f276 := Tryz.func169.trans (congrArg some (by kernel_rfl))
  f277 := Tryz.func170.trans (congrArg some (by kernel_rfl))
  t0 := Tryz.underlying0
  a0 := Tryz.isAgg0
  z0 := Tryz.sizeOf0
  v0 := Tryz.zeroValue0
  t3 := Tryz.underlying3
  a3 := Tryz.isAgg3
  z3 := Tryz.sizeOf3
  v3 := Tryz.zeroValue3
  t4 := Tryz.underlying4
  a4 := Tryz.isAgg4
  z4 := Tryz.sizeOf4
  v4 := Tryz.zeroValue4
  t9 := Tryz.underlying9
  a9 := Tryz.isAgg9
  z9 := Tryz.sizeOf9
  v9 := Tryz.zeroValue9
  t20 := Tryz.underlying20
  a20 := Tryz.isAgg20
  z20 := Tryz.sizeOf20
  v20 := Tryz.zeroValue20
  t31 := Tryz.underlying27
  a31 := Tryz.isAgg27
  z31 := Tryz.sizeOf27
  v31 := Tryz.zeroValue27
  t37 := Tryz.underlying126
  a37 := Tryz.isAgg126
  z37 := Tryz.sizeOf126
  v37 := Tryz.zeroValue126
  t70 := Tryz.underlying146
  a70 := Tryz.isAgg146
  z70 := Tryz.sizeOf146
  v70 := Tryz.zeroValue146
  t72 := Tryz.underlying148
  a72 := Tryz.isAgg148
  z72 := Tryz.sizeOf148
  v72 := Tryz.zeroValue148
  t75 := Tryz.underlying151
  a75 := Tryz.isAgg151
  z75 := Tryz.sizeOf151
  v75 := Tryz.zeroValue151
  t76 := Tryz.underlying152
  a76 := Tryz.isAgg152
  z76 := Tryz.sizeOf152
  v76 := Tryz.zeroValue152
  t127 := Tryz.underlying183
  a127 := Tryz.isAgg183
  z127 := Tryz.sizeOf183
  v127 := Tryz.zeroValue183
  t164 := Tryz.underlying203
  a164 := Tryz.isAgg203
  z164 := Tryz.sizeOf203
  v164 := Tryz.zeroValue203 }
theorem Tryz.Builder_Extra_156 : Builder.Extra Tryz.prog Tryz.lays156_ren := {
  sizeBuilder := by kernel_rfl
  liesBuilder := by kernel_rfl
  t5 := Tryz.underlying5
  a5 := Tryz.isAgg5
  z5 := Tryz.sizeOf5
  v5 := Tryz.zeroValue5
  infoByte := by kernel_rfl
  cellsByte := by kernel_rfl
  sizeByte := by kernel_rfl
  neB5 := by decide }
open Go.RowKit in
/-- No element: the empty string; the world is as it was. (Whatever the slice's address and capacity: a nil slice too.) (LAID: no walk: one application.) -/
theorem Tryz.strings_Join_none (a : Option Addr) (c : Nat) (sep : ByteArray) (w : World) :
    Calls Tryz.prog 72 #[.slice a 0 c, .string sep] w fun e w' => e = .returned (.string ⟨#[]⟩) ∧ w' = w := Any.strings_Join_none Tryz.lays156 Tryz.Builder_Extra_156 a c sep w
open Go.RowKit in
/-- strings.Join: "Join concatenates the elements of its first argument to create a single string. The separator string sep is placed between elements in the resulting string.": HOWEVER MANY ELEMENTS. Below the heap's end the world is as it was. (LAID: no walk: one application.) -/
theorem Tryz.strings_Join (bk o c : Nat) (xs : List ByteArray) (sep : ByteArray) (w : World) (hcells : ∀ (j : Nat) x, xs[j]? = some x → w.cell? ⟨bk, o + j, none⟩ = some (.string x)) (hbk : bk < w.heap.size) (hN : xs.length ≤ 140737488355328) (hcap : xs.length ≤ c) (hlen : (Lib.join (xs.map (·.data.toList)) sep.data.toList).length ≤ 140737488355328) :
    Calls Tryz.prog 72 #[.slice (some ⟨bk, o, none⟩) xs.length c, .string sep] w fun e w' => e = .returned (.string ⟨(Lib.join (xs.map (·.data.toList)) sep.data.toList).toArray⟩) ∧ Below w.heap.size w w' := Any.strings_Join Tryz.lays156 Tryz.Builder_Extra_156 bk o c xs sep w hcells hbk hN hcap hlen
def Tryz.lays137_ren : Go.Shelf.Ren := ⟨fun | 137 => 98 | 217 => 137 | 266 => 164 | n => n, fun | 9 => 9 | 5 => 5 | 3 => 3 | n => n, fun | n => n⟩
theorem Tryz.lays137 : Go.Proofs.Lays.n137 Tryz.prog Tryz.lays137_ren := {
  mixed := by kernel_rfl
  f137 := Tryz.func98.trans (congrArg some (by kernel_rfl))
  f217 := Tryz.func137.trans (congrArg some (by kernel_rfl))
  f266 := Tryz.func164.trans (congrArg some (by kernel_rfl))
  t3 := Tryz.underlying3
  a3 := Tryz.isAgg3
  z3 := Tryz.sizeOf3
  v3 := Tryz.zeroValue3
  t5 := Tryz.underlying5
  a5 := Tryz.isAgg5
  z5 := Tryz.sizeOf5
  v5 := Tryz.zeroValue5
  t9 := Tryz.underlying9
  a9 := Tryz.isAgg9
  z9 := Tryz.sizeOf9
  v9 := Tryz.zeroValue9 }
open Go.RowKit in
/-- strings.IndexByte: "IndexByte returns the index of the first instance of c in s, or -1 if c is not present in s.": IT RETURNS 'Lib.indexByte s c'; the world is as it was. (LAID: no walk: one application.) -/
theorem Tryz.strings_IndexByte (s : ByteArray) (c : Int) (w : World) :
    Calls Tryz.prog 98 #[.string s, .int .u8 c] w fun e w' => e = .returned (.int .i64 (Lib.indexByte s.data.toList c.toNat.toUInt8)) ∧ w' = w := Any.strings_IndexByte Tryz.lays137 s c w
def Tryz.lays171_ren : Go.Shelf.Ren := ⟨fun | 171 => 13 | 243 => 31 | 246 => 52 | 283 => 77 | 284 => 78 | 285 => 79 | 286 => 80 | 129 => 110 | 317 => 109 | 318 => 111 | 319 => 112 | 320 => 113 | 337 => 145 | 338 => 146 | n => n, fun | 3 => 3 | 9 => 9 | 2 => 2 | 4 => 4 | 171 => 122 | 0 => 0 | 53 => 123 | 37 => 126 | 5 => 5 | 173 => 127 | 212 => 161 | 51 => 162 | 20 => 20 | 213 => 163 | 46 => 135 | 232 => 209 | 233 => 210 | n => n, fun | 17 => 0 | 18 => 1 | 19 => 2 | n => n⟩
theorem Tryz.lays171 : Go.Proofs.Lays.n171 Tryz.prog Tryz.lays171_ren := {
  mixed := by kernel_rfl
  f129 := Tryz.func110.trans (congrArg some (by kernel_rfl))
  f171 := Tryz.func13.trans (congrArg some (by kernel_rfl))
  f243 := Tryz.func31.trans (congrArg some (by kernel_rfl))
  f246 := Tryz.func52.trans (congrArg some (by kernel_rfl))
  f283 := Tryz.func77.trans (congrArg some (by kernel_rfl))
  f284 := Tryz.func78.trans (congrArg some (by kernel_rfl))
  f285 := Tryz.func79.trans (congrArg some (by kernel_rfl))
  f286 := Tryz.func80.trans (congrArg some (by kernel_rfl))
  f317 := Tryz.func109.trans (congrArg some (by kernel_rfl))
  f318 := Tryz.func111.trans (congrArg some (by kernel_rfl))
  f319 := Tryz.func112.trans (congrArg some (by kernel_rfl))
  f320 := Tryz.func113.trans (congrArg some (by kernel_rfl))
  f337 := Tryz.func145.trans (congrArg some (by kernel_rfl))
  f338 := Tryz.func146.trans (congrArg some (by kernel_rfl))
  t0 := Tryz.underlying0
  a0 := Tryz.isAgg0
  z0 := Tryz.sizeOf0
  v0 := Tryz.zeroValue0
  t2 := Tryz.underlying2
  a2 := Tryz.isAgg2
  z2 := Tryz.sizeOf2
  v2 := Tryz.zeroValue2
  t3 := Tryz.underlying3
  a3 := Tryz.isAgg3
  z3 := Tryz.sizeOf3
  v3 := Tryz.zeroValue3
  t4 := Tryz.underlying4
  a4 := Tryz.isAgg4
  z4 := Tryz.sizeOf4
  v4 := Tryz.zeroValue4
  t5 := Tryz.underlying5
  a5 := Tryz.isAgg5
  z5 := Tryz.sizeOf5
  v5 := Tryz.zeroValue5
  t9 := Tryz.underlying9
  a9 := Tryz.isAgg9
  z9 := Tryz.sizeOf9
  v9 := Tryz.zeroValue9
  t20 := Tryz.underlying20
  a20 := Tryz.isAgg20
  z20 := Tryz.sizeOf20
  v20 := Tryz.zeroValue20
  t37 := Tryz.underlying126
  a37 := Tryz.isAgg126
  z37 := Tryz.sizeOf126
  v37 := Tryz.zeroValue126
  t46 := Tryz.underlying135
  a46 := Tryz.isAgg135
  z46 := Tryz.sizeOf135
  v46 := Tryz.zeroValue135
  t51 := Tryz.underlying162
  a51 := Tryz.isAgg162
  z51 := Tryz.sizeOf162
  v51 := Tryz.zeroValue162
  t53 := Tryz.underlying123
  a53 := Tryz.isAgg123
  z53 := Tryz.sizeOf123
  v53 := Tryz.zeroValue123
  t171 := Tryz.underlying122
  a171 := Tryz.isAgg122
  z171 := Tryz.sizeOf122
  v171 := Tryz.zeroValue122
  t173 := Tryz.underlying127
  a173 := Tryz.isAgg127
  z173 := Tryz.sizeOf127
  v173 := Tryz.zeroValue127
  t212 := Tryz.underlying161
  a212 := Tryz.isAgg161
  z212 := Tryz.sizeOf161
  v212 := Tryz.zeroValue161
  t213 := Tryz.underlying163
  a213 := Tryz.isAgg163
  z213 := Tryz.sizeOf163
  t232 := Tryz.underlying209
  a232 := Tryz.isAgg209
  z232 := Tryz.sizeOf209
  v232 := Tryz.zeroValue209
  t233 := Tryz.underlying210
  a233 := Tryz.isAgg210
  z233 := Tryz.sizeOf210
  v233 := Tryz.zeroValue210
  g17 := by kernel_rfl
  g18 := by kernel_rfl
  g19 := by kernel_rfl }
open Go.RowKit Go.Sort Go.Lib in
/-- THE ROAD WITHOUT THE TABLE: 0 <= i < 100: NO PREMISE ON THE WORLD, AND THE WORLD IS AS IT WAS: a row that keeps its argument in that range need list no table ('laid = []'). (LAID: no walk: one application.) -/
theorem Tryz.strconv_Itoa_small (i : Nat) (hi : i < 100) (w : World) :
    Calls Tryz.prog 13 #[.int .i64 i] w fun e w' => e = .returned (.string ⟨(Lib.decDigits i).toArray⟩) ∧ w' = w := Any.strconv_Itoa_small Tryz.lays171 i hi w
def Tryz.lays99_ren : Go.Shelf.Ren := ⟨fun | 99 => 160 | 206 => 181 | n => n, fun | 9 => 9 | 4 => 4 | 3 => 3 | n => n, fun | n => n⟩
theorem Tryz.lays99 : Go.Proofs.Lays.n99 Tryz.prog Tryz.lays99_ren := {
  mixed := by kernel_rfl
  f99 := Tryz.func160.trans (congrArg some (by kernel_rfl))
  f206 := Tryz.func181.trans (congrArg some (by kernel_rfl))
  t3 := Tryz.underlying3
  a3 := Tryz.isAgg3
  z3 := Tryz.sizeOf3
  v3 := Tryz.zeroValue3
  t4 := Tryz.underlying4
  a4 := Tryz.isAgg4
  z4 := Tryz.sizeOf4
  v4 := Tryz.zeroValue4
  t9 := Tryz.underlying9
  a9 := Tryz.isAgg9
  z9 := Tryz.sizeOf9
  v9 := Tryz.zeroValue9 }
open Go.RowKit Go.Lib in
/-- strings.HasPrefix: "HasPrefix reports whether the string s begins with prefix.": IT RETURNS 'Lib.hasPrefix s prefix'; the world is as it was. (LAID: no walk: one application.) -/
theorem Tryz.strings_HasPrefix (s p : ByteArray) (w : World) :
    Calls Tryz.prog 160 #[.string s, .string p] w fun e w' => e = .returned (.bool (Lib.hasPrefix s.data.toList p.data.toList)) ∧ w' = w := Any.strings_HasPrefix Tryz.lays99 s p w
def Tryz.lays146_ren : Go.Shelf.Ren := ⟨fun | 146 => 69 | 221 => 99 | 268 => 138 | 138 => 139 | 143 => 140 | 195 => 165 | 197 => 166 | 218 => 167 | 219 => 168 | 260 => 187 | 217 => 137 | 225 => 180 | 224 => 179 | 267 => 188 | 266 => 164 | 314 => 197 | n => n, fun | 9 => 9 | 31 => 27 | 3 => 3 | 4 => 4 | 0 => 0 | 105 => 201 | 21 => 21 | 5 => 5 | 46 => 135 | 119 => 231 | 139 => 234 | 138 => 233 | 146 => 235 | 51 => 162 | n => n, fun | 1 => 3 | 3 => 6 | 4 => 7 | n => n⟩
theorem Tryz.lays146 : Go.Proofs.Lays.n146 Tryz.prog Tryz.lays146_ren := {
  mixed := by kernel_rfl
  f138 := Tryz.func139.trans (congrArg some (by kernel_rfl))
  f143 := Tryz.func140.trans (congrArg some (by kernel_rfl))
  f146 := Tryz.func69.trans (congrArg some (by kernel_rfl))
  f195 := Tryz.func165.trans (congrArg some (by kernel_rfl))
  f197 := Tryz.func166.trans (congrArg some (by kernel_rfl))
  f217 := Tryz.func137.trans (congrArg some (by kernel_rfl))
  f218 := Tryz.func167.trans (congrArg some (by kernel_rfl))
  f219 := Tryz.func168.trans (congrArg some (by kernel_rfl))
  f221 := Tryz.func99.trans (congrArg some (by kernel_rfl))
  f224 := Tryz.func179.trans (congrArg some (by kernel_rfl))
  f225 := Tryz.func180.trans (congrArg some (by kernel_rfl))
  f260 := Tryz.func187.trans (congrArg some (by kernel_rfl))
  f266 := Tryz.func164.trans (congrArg some (by kernel_rfl))
  f267 := Tryz.func188.trans (congrArg some (by kernel_rfl))
  f268 := Tryz.func138.trans (congrArg some (by kernel_rfl))
  f314 := Tryz.func197.trans (congrArg some (by kernel_rfl))
  t0 := Tryz.underlying0
  a0 := Tryz.isAgg0
  z0 := Tryz.sizeOf0
  v0 := Tryz.zeroValue0
  t3 := Tryz.underlying3
  a3 := Tryz.isAgg3
  z3 := Tryz.sizeOf3
  v3 := Tryz.zeroValue3
  t4 := Tryz.underlying4
  a4 := Tryz.isAgg4
  z4 := Tryz.sizeOf4
  v4 := Tryz.zeroValue4
  t5 := Tryz.underlying5
  a5 := Tryz.isAgg5
  z5 := Tryz.sizeOf5
  v5 := Tryz.zeroValue5
  t9 := Tryz.underlying9
  a9 := Tryz.isAgg9
  z9 := Tryz.sizeOf9
  v9 := Tryz.zeroValue9
  t21 := Tryz.underlying21
  a21 := Tryz.isAgg21
  z21 := Tryz.sizeOf21
  v21 := Tryz.zeroValue21
  t31 := Tryz.underlying27
  a31 := Tryz.isAgg27
  z31 := Tryz.sizeOf27
  v31 := Tryz.zeroValue27
  t46 := Tryz.underlying135
  a46 := Tryz.isAgg135
  z46 := Tryz.sizeOf135
  v46 := Tryz.zeroValue135
  t51 := Tryz.underlying162
  a51 := Tryz.isAgg162
  z51 := Tryz.sizeOf162
  v51 := Tryz.zeroValue162
  t105 := Tryz.underlying201
  a105 := Tryz.isAgg201
  z105 := Tryz.sizeOf201
  v105 := Tryz.zeroValue201
  t119 := Tryz.underlying231
  a119 := Tryz.isAgg231
  z119 := Tryz.sizeOf231
  t138 := Tryz.underlying233
  a138 := Tryz.isAgg233
  z138 := Tryz.sizeOf233
  v138 := Tryz.zeroValue233
  t139 := Tryz.underlying234
  a139 := Tryz.isAgg234
  z139 := Tryz.sizeOf234
  v139 := Tryz.zeroValue234
  t146 := Tryz.underlying235
  a146 := Tryz.isAgg235
  z146 := Tryz.sizeOf235
  v146 := Tryz.zeroValue235
  g1 := by kernel_rfl
  g3 := by kernel_rfl
  g4 := by kernel_rfl }
open Go.RowKit Go.Lib in
/-- strings.Split. (LAID: no walk: one application.) -/
theorem Tryz.strings_Split (s sep : ByteArray) (m : Int) (w : World) (hs : s.size < 4294967281) (hm : w.cell? ⟨3, 0, none⟩ = some (.int .i64 m)) (h1 : 1 ≤ sep.size) :
    Calls Tryz.prog 69 #[.string s, .string sep] w fun e w' =>
      e = .returned (.slice (some ⟨w.heap.size, 0, none⟩) (Lib.countB s sep + 1) (Lib.countB s sep + 1)) ∧ w' = w.alloc (.cells ((Lib.splitB sep 0 (Lib.countB s sep) s).map Value.string).toArray 9) := Any.strings_Split Tryz.lays146 (by kernel_rfl) s sep m w hs hm h1
end Go.Proofs
