/-
  DERIVED: THE SHELF's CONTRACTS AT THIS DUMP, IN PLAIN WORDS (tools/lay-plain.mjs out of 'YtpigghenmagghaaGreatDoorStrsSrc.lean', which tools/lay-shelf.mjs wrote): THE SAME DECLARATIONS UNDER THE SAME NAMES: 'import', 'namespace', 'open', 'def', 'theorem' AND NOTHING ELSE: no command of the shelf's: FOR A HAND-IN. Each laying: the table of numbers ('.._ren') and one theorem, a field a fact of the dump's own or the kernel's comparison; each contract: ONE APPLICATION.
-/
import Derived.Shelf.Strings.Builder1
import Derived.Shelf.Strings.Builder2
import Derived.Shelf.Strings.OnBuilder
import Derived.Shelf.Small.Utf8
import Derived.Shelf.Small.Strs
import Derived.Shelf.Small.Wraps
import Derived.Shelf.Strconv.Itoa0
import Derived.Shelf.Strconv.Itoa1
import Derived.Shelf.LaysM
import Derived.Shelf.Strconv.Itoa2
import Derived.Shelf.Strconv.Itoa3
import Derived.Shelf.Strings.Search1
import Derived.Shelf.Strings.Search2
import Derived.Shelf.Strings.Search3
import Derived.Shelf.Strings.Count
import Derived.Shelf.Strings.Shaped
import Derived.Shelf.Strings.Prefix
import Derived.Shelf.Strings.Split
import Derived.Shelf.Strings.Replace
import Derived.Shelf.Strings.SplitShaped
import Derived.Shelf.Unicode.Latin
import Derived.Shelf.Unicode.DecodeSlow
import Derived.Shelf.Unicode.CaseLookup
import Derived.Shelf.Unicode.CaseConvert
import Derived.Shelf.Unicode.CaseTo
import Derived.Shelf.Unicode.CaseLaid
import Derived.Test.YtpigghenmagghaaGreatDoorProg
namespace Go.Proofs
open Go.Shelf
def Tryz.lays156_ren : Go.Shelf.Ren := ⟨fun | 156 => 82 | 165 => 103 | 166 => 104 | 169 => 105 | 240 => 122 | 241 => 123 | 276 => 151 | 277 => 152 | n => n, fun | 31 => 56 | 9 => 9 | 3 => 3 | 4 => 4 | 0 => 0 | 20 => 20 | 72 => 141 | 76 => 144 | 70 => 138 | 37 => 139 | 75 => 143 | 127 => 158 | 164 => 180 | 5 => 5 | 80 => 146 | n => n, fun | n => n⟩
theorem Tryz.lays156 : Go.Proofs.Lays.n156 Tryz.prog Tryz.lays156_ren := {
  mixed := by kernel_rfl
  f156 := Tryz.func82.trans (congrArg some (by kernel_rfl))
  f165 := Tryz.func103.trans (congrArg some (by kernel_rfl))
  f166 := Tryz.func104.trans (congrArg some (by kernel_rfl))
  f169 := Tryz.func105.trans (congrArg some (by kernel_rfl))
  f240 := Tryz.func122.trans (congrArg some (by kernel_rfl))
  f241 := Tryz.func123.trans (congrArg some (by kernel_rfl))
  f276 := Tryz.func151.trans (congrArg some (by kernel_rfl))
  f277 := Tryz.func152.trans (congrArg some (by kernel_rfl))
  t0 := Tryz.underlying0
  a0 := Tryz.isAgg0
  z0 := Tryz.sizeOf0
  v0 := Tryz.zeroValue0
  t3 := Tryz.underlying3
  a3 := Tryz.isAgg3
  z3 := Tryz.sizeOf3
  v3 := Tryz.zeroValue3
  t4 := Tryz.underlying4
  a4 := Tryz.isAgg4
  z4 := Tryz.sizeOf4
  v4 := Tryz.zeroValue4
  t9 := Tryz.underlying9
  a9 := Tryz.isAgg9
  z9 := Tryz.sizeOf9
  v9 := Tryz.zeroValue9
  t20 := Tryz.underlying20
  a20 := Tryz.isAgg20
  z20 := Tryz.sizeOf20
  v20 := Tryz.zeroValue20
  t31 := Tryz.underlying56
  a31 := Tryz.isAgg56
  z31 := Tryz.sizeOf56
  v31 := Tryz.zeroValue56
  t37 := Tryz.underlying139
  a37 := Tryz.isAgg139
  z37 := Tryz.sizeOf139
  v37 := Tryz.zeroValue139
  t70 := Tryz.underlying138
  a70 := Tryz.isAgg138
  z70 := Tryz.sizeOf138
  v70 := Tryz.zeroValue138
  t72 := Tryz.underlying141
  a72 := Tryz.isAgg141
  z72 := Tryz.sizeOf141
  v72 := Tryz.zeroValue141
  t75 := Tryz.underlying143
  a75 := Tryz.isAgg143
  z75 := Tryz.sizeOf143
  v75 := Tryz.zeroValue143
  t76 := Tryz.underlying144
  a76 := Tryz.isAgg144
  z76 := Tryz.sizeOf144
  v76 := Tryz.zeroValue144
  t127 := Tryz.underlying158
  a127 := Tryz.isAgg158
  z127 := Tryz.sizeOf158
  v127 := Tryz.zeroValue158
  t164 := Tryz.underlying180
  a164 := Tryz.isAgg180
  z164 := Tryz.sizeOf180
  v164 := Tryz.zeroValue180 }
theorem Tryz.Builder_Extra_156 : Builder.Extra Tryz.prog Tryz.lays156_ren := {
  sizeBuilder := by kernel_rfl
  liesBuilder := by kernel_rfl
  t5 := Tryz.underlying5
  a5 := Tryz.isAgg5
  z5 := Tryz.sizeOf5
  v5 := Tryz.zeroValue5
  infoByte := by kernel_rfl
  cellsByte := by kernel_rfl
  sizeByte := by kernel_rfl
  neB5 := by decide }
open Go.RowKit in
/-- No element: the empty string; the world is as it was. (Whatever the slice's address and capacity: a nil slice too.) (LAID: no walk: one application.) -/
theorem Tryz.strings_Join_none (a : Option Addr) (c : Nat) (sep : ByteArray) (w : World) :
    Calls Tryz.prog 82 #[.slice a 0 c, .string sep] w fun e w' => e = .returned (.string ⟨#[]⟩) ∧ w' = w := Any.strings_Join_none Tryz.lays156 Tryz.Builder_Extra_156 a c sep w
open Go.RowKit in
/-- strings.Join: "Join concatenates the elements of its first argument to create a single string. The separator string sep is placed between elements in the resulting string.": HOWEVER MANY ELEMENTS. Below the heap's end the world is as it was. (LAID: no walk: one application.) -/
theorem Tryz.strings_Join (bk o c : Nat) (xs : List ByteArray) (sep : ByteArray) (w : World) (hcells : ∀ (j : Nat) x, xs[j]? = some x → w.cell? ⟨bk, o + j, none⟩ = some (.string x)) (hbk : bk < w.heap.size) (hN : xs.length ≤ 140737488355328) (hcap : xs.length ≤ c) (hlen : (Lib.join (xs.map (·.data.toList)) sep.data.toList).length ≤ 140737488355328) :
    Calls Tryz.prog 82 #[.slice (some ⟨bk, o, none⟩) xs.length c, .string sep] w fun e w' => e = .returned (.string ⟨(Lib.join (xs.map (·.data.toList)) sep.data.toList).toArray⟩) ∧ Below w.heap.size w w' := Any.strings_Join Tryz.lays156 Tryz.Builder_Extra_156 bk o c xs sep w hcells hbk hN hcap hlen
def Tryz.lays106_ren : Go.Shelf.Ren := ⟨fun | 106 => 92 | 213 => 114 | 265 => 131 | n => n, fun | 9 => 9 | 3 => 3 | n => n, fun | n => n⟩
theorem Tryz.lays106 : Go.Proofs.Lays.n106 Tryz.prog Tryz.lays106_ren := {
  mixed := by kernel_rfl
  f106 := Tryz.func92.trans (congrArg some (by kernel_rfl))
  f213 := Tryz.func114.trans (congrArg some (by kernel_rfl))
  f265 := Tryz.func131.trans (congrArg some (by kernel_rfl))
  t3 := Tryz.underlying3
  a3 := Tryz.isAgg3
  z3 := Tryz.sizeOf3
  v3 := Tryz.zeroValue3
  t9 := Tryz.underlying9
  a9 := Tryz.isAgg9
  z9 := Tryz.sizeOf9
  v9 := Tryz.zeroValue9 }
open Go.RowKit in
/-- strings.Compare: "Compare returns an integer comparing two strings lexicographically. The result will be 0 if a == b, -1 if a < b, and +1 if a > b.": IT RETURNS 'Lib.compareBytes a b'; the world is as it was. (LAID: no walk: one application.) -/
theorem Tryz.strings_Compare (a b : ByteArray) (w : World) :
    Calls Tryz.prog 92 #[.string a, .string b] w fun e w' => e = .returned (.int .i64 (Lib.compareBytes a.data.toList b.data.toList)) ∧ w' = w := Any.strings_Compare Tryz.lays106 a b w
def Tryz.lays137_ren : Go.Shelf.Ren := ⟨fun | 137 => 127 | 217 => 159 | 266 => 181 | n => n, fun | 9 => 9 | 5 => 5 | 3 => 3 | n => n, fun | n => n⟩
theorem Tryz.lays137 : Go.Proofs.Lays.n137 Tryz.prog Tryz.lays137_ren := {
  mixed := by kernel_rfl
  f137 := Tryz.func127.trans (congrArg some (by kernel_rfl))
  f217 := Tryz.func159.trans (congrArg some (by kernel_rfl))
  f266 := Tryz.func181.trans (congrArg some (by kernel_rfl))
  t3 := Tryz.underlying3
  a3 := Tryz.isAgg3
  z3 := Tryz.sizeOf3
  v3 := Tryz.zeroValue3
  t5 := Tryz.underlying5
  a5 := Tryz.isAgg5
  z5 := Tryz.sizeOf5
  v5 := Tryz.zeroValue5
  t9 := Tryz.underlying9
  a9 := Tryz.isAgg9
  z9 := Tryz.sizeOf9
  v9 := Tryz.zeroValue9 }
open Go.RowKit in
/-- strings.IndexByte: "IndexByte returns the index of the first instance of c in s, or -1 if c is not present in s.": IT RETURNS 'Lib.indexByte s c'; the world is as it was. (LAID: no walk: one application.) -/
theorem Tryz.strings_IndexByte (s : ByteArray) (c : Int) (w : World) :
    Calls Tryz.prog 127 #[.string s, .int .u8 c] w fun e w' => e = .returned (.int .i64 (Lib.indexByte s.data.toList c.toNat.toUInt8)) ∧ w' = w := Any.strings_IndexByte Tryz.lays137 s c w
def Tryz.lays171_ren : Go.Shelf.Ren := ⟨fun | 171 => 65 | 243 => 94 | 246 => 116 | 283 => 133 | 284 => 134 | 285 => 135 | 286 => 136 | 129 => 147 | 317 => 164 | 318 => 165 | 319 => 166 | 320 => 167 | 337 => 188 | 338 => 189 | n => n, fun | 3 => 3 | 9 => 9 | 2 => 2 | 4 => 4 | 171 => 163 | 0 => 0 | 53 => 164 | 37 => 139 | 5 => 5 | 173 => 167 | 212 => 191 | 51 => 178 | 20 => 20 | 213 => 192 | 46 => 156 | 232 => 225 | 233 => 226 | n => n, fun | 17 => 1 | 18 => 6 | 19 => 7 | n => n⟩
theorem Tryz.lays171 : Go.Proofs.Lays.n171 Tryz.prog Tryz.lays171_ren := {
  mixed := by kernel_rfl
  f129 := Tryz.func147.trans (congrArg some (by kernel_rfl))
  f171 := Tryz.func65.trans (congrArg some (by kernel_rfl))
  f243 := Tryz.func94.trans (congrArg some (by kernel_rfl))
  f246 := Tryz.func116.trans (congrArg some (by kernel_rfl))
  f283 := Tryz.func133.trans (congrArg some (by kernel_rfl))
  f284 := Tryz.func134.trans (congrArg some (by kernel_rfl))
  f285 := Tryz.func135.trans (congrArg some (by kernel_rfl))
  f286 := Tryz.func136.trans (congrArg some (by kernel_rfl))
  f317 := Tryz.func164.trans (congrArg some (by kernel_rfl))
  f318 := Tryz.func165.trans (congrArg some (by kernel_rfl))
  f319 := Tryz.func166.trans (congrArg some (by kernel_rfl))
  f320 := Tryz.func167.trans (congrArg some (by kernel_rfl))
  f337 := Tryz.func188.trans (congrArg some (by kernel_rfl))
  f338 := Tryz.func189.trans (congrArg some (by kernel_rfl))
  t0 := Tryz.underlying0
  a0 := Tryz.isAgg0
  z0 := Tryz.sizeOf0
  v0 := Tryz.zeroValue0
  t2 := Tryz.underlying2
  a2 := Tryz.isAgg2
  z2 := Tryz.sizeOf2
  v2 := Tryz.zeroValue2
  t3 := Tryz.underlying3
  a3 := Tryz.isAgg3
  z3 := Tryz.sizeOf3
  v3 := Tryz.zeroValue3
  t4 := Tryz.underlying4
  a4 := Tryz.isAgg4
  z4 := Tryz.sizeOf4
  v4 := Tryz.zeroValue4
  t5 := Tryz.underlying5
  a5 := Tryz.isAgg5
  z5 := Tryz.sizeOf5
  v5 := Tryz.zeroValue5
  t9 := Tryz.underlying9
  a9 := Tryz.isAgg9
  z9 := Tryz.sizeOf9
  v9 := Tryz.zeroValue9
  t20 := Tryz.underlying20
  a20 := Tryz.isAgg20
  z20 := Tryz.sizeOf20
  v20 := Tryz.zeroValue20
  t37 := Tryz.underlying139
  a37 := Tryz.isAgg139
  z37 := Tryz.sizeOf139
  v37 := Tryz.zeroValue139
  t46 := Tryz.underlying156
  a46 := Tryz.isAgg156
  z46 := Tryz.sizeOf156
  v46 := Tryz.zeroValue156
  t51 := Tryz.underlying178
  a51 := Tryz.isAgg178
  z51 := Tryz.sizeOf178
  v51 := Tryz.zeroValue178
  t53 := Tryz.underlying164
  a53 := Tryz.isAgg164
  z53 := Tryz.sizeOf164
  v53 := Tryz.zeroValue164
  t171 := Tryz.underlying163
  a171 := Tryz.isAgg163
  z171 := Tryz.sizeOf163
  v171 := Tryz.zeroValue163
  t173 := Tryz.underlying167
  a173 := Tryz.isAgg167
  z173 := Tryz.sizeOf167
  v173 := Tryz.zeroValue167
  t212 := Tryz.underlying191
  a212 := Tryz.isAgg191
  z212 := Tryz.sizeOf191
  v212 := Tryz.zeroValue191
  t213 := Tryz.underlying192
  a213 := Tryz.isAgg192
  z213 := Tryz.sizeOf192
  t232 := Tryz.underlying225
  a232 := Tryz.isAgg225
  z232 := Tryz.sizeOf225
  v232 := Tryz.zeroValue225
  t233 := Tryz.underlying226
  a233 := Tryz.isAgg226
  z233 := Tryz.sizeOf226
  v233 := Tryz.zeroValue226
  g17 := by kernel_rfl
  g18 := by kernel_rfl
  g19 := by kernel_rfl }
open Go.RowKit Go.Sort Go.Lib in
/-- THE ROAD WITHOUT THE TABLE: 0 <= i < 100: NO PREMISE ON THE WORLD, AND THE WORLD IS AS IT WAS: a row that keeps its argument in that range need list no table ('laid = []'). (LAID: no walk: one application.) -/
theorem Tryz.strconv_Itoa_small (i : Nat) (hi : i < 100) (w : World) :
    Calls Tryz.prog 65 #[.int .i64 i] w fun e w' => e = .returned (.string ⟨(Lib.decDigits i).toArray⟩) ∧ w' = w := Any.strconv_Itoa_small Tryz.lays171 i hi w
def Tryz.lays144_ren : Go.Shelf.Ren := ⟨fun | 144 => 111 | 143 => 128 | 219 => 160 | 217 => 159 | 225 => 182 | 224 => 183 | 267 => 184 | 266 => 181 | 314 => 197 | n => n, fun | 9 => 9 | 4 => 4 | 3 => 3 | 5 => 5 | 46 => 156 | 146 => 219 | 51 => 178 | n => n, fun | 1 => 0 | n => n⟩
theorem Tryz.lays144 : Go.Proofs.Lays.n144 Tryz.prog Tryz.lays144_ren := {
  mixed := by kernel_rfl
  f143 := Tryz.func128.trans (congrArg some (by kernel_rfl))
  f144 := Tryz.func111.trans (congrArg some (by kernel_rfl))
  f217 := Tryz.func159.trans (congrArg some (by kernel_rfl))
  f219 := Tryz.func160.trans (congrArg some (by kernel_rfl))
  f224 := Tryz.func183.trans (congrArg some (by kernel_rfl))
  f225 := Tryz.func182.trans (congrArg some (by kernel_rfl))
  f266 := Tryz.func181.trans (congrArg some (by kernel_rfl))
  f267 := Tryz.func184.trans (congrArg some (by kernel_rfl))
  f314 := Tryz.func197.trans (congrArg some (by kernel_rfl))
  t3 := Tryz.underlying3
  a3 := Tryz.isAgg3
  z3 := Tryz.sizeOf3
  v3 := Tryz.zeroValue3
  t4 := Tryz.underlying4
  a4 := Tryz.isAgg4
  z4 := Tryz.sizeOf4
  v4 := Tryz.zeroValue4
  t5 := Tryz.underlying5
  a5 := Tryz.isAgg5
  z5 := Tryz.sizeOf5
  v5 := Tryz.zeroValue5
  t9 := Tryz.underlying9
  a9 := Tryz.isAgg9
  z9 := Tryz.sizeOf9
  v9 := Tryz.zeroValue9
  t46 := Tryz.underlying156
  a46 := Tryz.isAgg156
  z46 := Tryz.sizeOf156
  v46 := Tryz.zeroValue156
  t51 := Tryz.underlying178
  a51 := Tryz.isAgg178
  z51 := Tryz.sizeOf178
  v51 := Tryz.zeroValue178
  t146 := Tryz.underlying219
  a146 := Tryz.isAgg219
  z146 := Tryz.sizeOf219
  v146 := Tryz.zeroValue219
  g1 := by kernel_rfl }
open Go.RowKit Go.Lib in
/-- strings.Contains: "Contains reports whether substr is within s.": AT A substr OF ONE BYTE c: IT RETURNS 'decide (0 ≤ Lib.indexByte s c)'; the world is as it was. (LAID: no walk: one application.) -/
theorem Tryz.strings_Contains_one (s : ByteArray) (c : UInt8) (w : World) :
    Calls Tryz.prog 111 #[.string s, .string ⟨#[c]⟩] w fun e w' => e = .returned (.bool (decide (0 ≤ Lib.indexByte s.data.toList c))) ∧ w' = w := Any.strings_Contains_one Tryz.lays144 s c w
def Tryz.lays99_ren : Go.Shelf.Ren := ⟨fun | 99 => 115 | 206 => 132 | n => n, fun | 9 => 9 | 4 => 4 | 3 => 3 | n => n, fun | n => n⟩
theorem Tryz.lays99 : Go.Proofs.Lays.n99 Tryz.prog Tryz.lays99_ren := {
  mixed := by kernel_rfl
  f99 := Tryz.func115.trans (congrArg some (by kernel_rfl))
  f206 := Tryz.func132.trans (congrArg some (by kernel_rfl))
  t3 := Tryz.underlying3
  a3 := Tryz.isAgg3
  z3 := Tryz.sizeOf3
  v3 := Tryz.zeroValue3
  t4 := Tryz.underlying4
  a4 := Tryz.isAgg4
  z4 := Tryz.sizeOf4
  v4 := Tryz.zeroValue4
  t9 := Tryz.underlying9
  a9 := Tryz.isAgg9
  z9 := Tryz.sizeOf9
  v9 := Tryz.zeroValue9 }
open Go.RowKit Go.Lib in
/-- strings.HasPrefix: "HasPrefix reports whether the string s begins with prefix.": IT RETURNS 'Lib.hasPrefix s prefix'; the world is as it was. (LAID: no walk: one application.) -/
theorem Tryz.strings_HasPrefix (s p : ByteArray) (w : World) :
    Calls Tryz.prog 115 #[.string s, .string p] w fun e w' => e = .returned (.bool (Lib.hasPrefix s.data.toList p.data.toList)) ∧ w' = w := Any.strings_HasPrefix Tryz.lays99 s p w
def Tryz.lays146_ren : Go.Shelf.Ren := ⟨fun | 146 => 113 | 221 => 130 | 268 => 163 | 138 => 161 | 143 => 128 | 195 => 185 | 197 => 162 | 218 => 186 | 219 => 160 | 260 => 187 | 217 => 159 | 225 => 182 | 224 => 183 | 267 => 184 | 266 => 181 | 314 => 197 | n => n, fun | 9 => 9 | 31 => 56 | 3 => 3 | 4 => 4 | 0 => 0 | 105 => 187 | 21 => 21 | 5 => 5 | 46 => 156 | 119 => 221 | 139 => 224 | 138 => 223 | 146 => 219 | 51 => 178 | n => n, fun | 1 => 0 | 3 => 4 | 4 => 5 | n => n⟩
theorem Tryz.lays146 : Go.Proofs.Lays.n146 Tryz.prog Tryz.lays146_ren := {
  mixed := by kernel_rfl
  f138 := Tryz.func161.trans (congrArg some (by kernel_rfl))
  f143 := Tryz.func128.trans (congrArg some (by kernel_rfl))
  f146 := Tryz.func113.trans (congrArg some (by kernel_rfl))
  f195 := Tryz.func185.trans (congrArg some (by kernel_rfl))
  f197 := Tryz.func162.trans (congrArg some (by kernel_rfl))
  f217 := Tryz.func159.trans (congrArg some (by kernel_rfl))
  f218 := Tryz.func186.trans (congrArg some (by kernel_rfl))
  f219 := Tryz.func160.trans (congrArg some (by kernel_rfl))
  f221 := Tryz.func130.trans (congrArg some (by kernel_rfl))
  f224 := Tryz.func183.trans (congrArg some (by kernel_rfl))
  f225 := Tryz.func182.trans (congrArg some (by kernel_rfl))
  f260 := Tryz.func187.trans (congrArg some (by kernel_rfl))
  f266 := Tryz.func181.trans (congrArg some (by kernel_rfl))
  f267 := Tryz.func184.trans (congrArg some (by kernel_rfl))
  f268 := Tryz.func163.trans (congrArg some (by kernel_rfl))
  f314 := Tryz.func197.trans (congrArg some (by kernel_rfl))
  t0 := Tryz.underlying0
  a0 := Tryz.isAgg0
  z0 := Tryz.sizeOf0
  v0 := Tryz.zeroValue0
  t3 := Tryz.underlying3
  a3 := Tryz.isAgg3
  z3 := Tryz.sizeOf3
  v3 := Tryz.zeroValue3
  t4 := Tryz.underlying4
  a4 := Tryz.isAgg4
  z4 := Tryz.sizeOf4
  v4 := Tryz.zeroValue4
  t5 := Tryz.underlying5
  a5 := Tryz.isAgg5
  z5 := Tryz.sizeOf5
  v5 := Tryz.zeroValue5
  t9 := Tryz.underlying9
  a9 := Tryz.isAgg9
  z9 := Tryz.sizeOf9
  v9 := Tryz.zeroValue9
  t21 := Tryz.underlying21
  a21 := Tryz.isAgg21
  z21 := Tryz.sizeOf21
  v21 := Tryz.zeroValue21
  t31 := Tryz.underlying56
  a31 := Tryz.isAgg56
  z31 := Tryz.sizeOf56
  v31 := Tryz.zeroValue56
  t46 := Tryz.underlying156
  a46 := Tryz.isAgg156
  z46 := Tryz.sizeOf156
  v46 := Tryz.zeroValue156
  t51 := Tryz.underlying178
  a51 := Tryz.isAgg178
  z51 := Tryz.sizeOf178
  v51 := Tryz.zeroValue178
  t105 := Tryz.underlying187
  a105 := Tryz.isAgg187
  z105 := Tryz.sizeOf187
  v105 := Tryz.zeroValue187
  t119 := Tryz.underlying221
  a119 := Tryz.isAgg221
  z119 := Tryz.sizeOf221
  t138 := Tryz.underlying223
  a138 := Tryz.isAgg223
  z138 := Tryz.sizeOf223
  v138 := Tryz.zeroValue223
  t139 := Tryz.underlying224
  a139 := Tryz.isAgg224
  z139 := Tryz.sizeOf224
  v139 := Tryz.zeroValue224
  t146 := Tryz.underlying219
  a146 := Tryz.isAgg219
  z146 := Tryz.sizeOf219
  v146 := Tryz.zeroValue219
  g1 := by kernel_rfl
  g3 := by kernel_rfl
  g4 := by kernel_rfl }
open Go.RowKit Go.Lib in
/-- strings.Split. (LAID: no walk: one application.) -/
theorem Tryz.strings_Split (s sep : ByteArray) (m : Int) (w : World) (hs : s.size < 4294967281) (hm : w.cell? ⟨0, 0, none⟩ = some (.int .i64 m)) (h1 : 1 ≤ sep.size) :
    Calls Tryz.prog 113 #[.string s, .string sep] w fun e w' =>
      e = .returned (.slice (some ⟨w.heap.size, 0, none⟩) (Lib.countB s sep + 1) (Lib.countB s sep + 1)) ∧ w' = w.alloc (.cells ((Lib.splitB sep 0 (Lib.countB s sep) s).map Value.string).toArray 9) := Any.strings_Split Tryz.lays146 (by kernel_rfl) s sep m w hs hm h1
def Tryz.lays155_ren : Go.Shelf.Ren := ⟨fun | 155 => 112 | 154 => 129 | 138 => 161 | 165 => 103 | 143 => 128 | 166 => 104 | 197 => 162 | 169 => 105 | 195 => 185 | 218 => 186 | 240 => 122 | 241 => 123 | 219 => 160 | 260 => 187 | 276 => 151 | 277 => 152 | 217 => 159 | 225 => 182 | 224 => 183 | 267 => 184 | 266 => 181 | 314 => 197 | n => n, fun | 9 => 9 | 3 => 3 | 4 => 4 | 72 => 141 | 0 => 0 | 76 => 144 | 105 => 187 | 21 => 21 | 5 => 5 | 70 => 138 | 20 => 20 | 37 => 139 | 75 => 143 | 127 => 158 | 164 => 180 | 46 => 156 | 119 => 221 | 139 => 224 | 138 => 223 | 146 => 219 | 51 => 178 | 80 => 146 | n => n, fun | 1 => 0 | 3 => 4 | 4 => 5 | n => n⟩
theorem Tryz.lays155 : Go.Proofs.Lays.n155 Tryz.prog Tryz.lays155_ren := {
  mixed := by kernel_rfl
  f138 := Tryz.func161.trans (congrArg some (by kernel_rfl))
  f143 := Tryz.func128.trans (congrArg some (by kernel_rfl))
  f154 := Tryz.func129.trans (congrArg some (by kernel_rfl))
  f155 := Tryz.func112.trans (congrArg some (by kernel_rfl))
  f165 := Tryz.func103.trans (congrArg some (by kernel_rfl))
  f166 := Tryz.func104.trans (congrArg some (by kernel_rfl))
  f169 := Tryz.func105.trans (congrArg some (by kernel_rfl))
  f195 := Tryz.func185.trans (congrArg some (by kernel_rfl))
  f197 := Tryz.func162.trans (congrArg some (by kernel_rfl))
  f217 := Tryz.func159.trans (congrArg some (by kernel_rfl))
  f218 := Tryz.func186.trans (congrArg some (by kernel_rfl))
  f219 := Tryz.func160.trans (congrArg some (by kernel_rfl))
  f224 := Tryz.func183.trans (congrArg some (by kernel_rfl))
  f225 := Tryz.func182.trans (congrArg some (by kernel_rfl))
  f240 := Tryz.func122.trans (congrArg some (by kernel_rfl))
  f241 := Tryz.func123.trans (congrArg some (by kernel_rfl))
  f260 := Tryz.func187.trans (congrArg some (by kernel_rfl))
  f266 := Tryz.func181.trans (congrArg some (by kernel_rfl))
  f267 := Tryz.func184.trans (congrArg some (by kernel_rfl))
  f276 := Tryz.func151.trans (congrArg some (by kernel_rfl))
  f277 := Tryz.func152.trans (congrArg some (by kernel_rfl))
  f314 := Tryz.func197.trans (congrArg some (by kernel_rfl))
  t0 := Tryz.underlying0
  a0 := Tryz.isAgg0
  z0 := Tryz.sizeOf0
  v0 := Tryz.zeroValue0
  t3 := Tryz.underlying3
  a3 := Tryz.isAgg3
  z3 := Tryz.sizeOf3
  v3 := Tryz.zeroValue3
  t4 := Tryz.underlying4
  a4 := Tryz.isAgg4
  z4 := Tryz.sizeOf4
  v4 := Tryz.zeroValue4
  t5 := Tryz.underlying5
  a5 := Tryz.isAgg5
  z5 := Tryz.sizeOf5
  v5 := Tryz.zeroValue5
  t9 := Tryz.underlying9
  a9 := Tryz.isAgg9
  z9 := Tryz.sizeOf9
  v9 := Tryz.zeroValue9
  t20 := Tryz.underlying20
  a20 := Tryz.isAgg20
  z20 := Tryz.sizeOf20
  v20 := Tryz.zeroValue20
  t21 := Tryz.underlying21
  a21 := Tryz.isAgg21
  z21 := Tryz.sizeOf21
  v21 := Tryz.zeroValue21
  t37 := Tryz.underlying139
  a37 := Tryz.isAgg139
  z37 := Tryz.sizeOf139
  v37 := Tryz.zeroValue139
  t46 := Tryz.underlying156
  a46 := Tryz.isAgg156
  z46 := Tryz.sizeOf156
  v46 := Tryz.zeroValue156
  t51 := Tryz.underlying178
  a51 := Tryz.isAgg178
  z51 := Tryz.sizeOf178
  v51 := Tryz.zeroValue178
  t70 := Tryz.underlying138
  a70 := Tryz.isAgg138
  z70 := Tryz.sizeOf138
  v70 := Tryz.zeroValue138
  t72 := Tryz.underlying141
  a72 := Tryz.isAgg141
  z72 := Tryz.sizeOf141
  v72 := Tryz.zeroValue141
  t75 := Tryz.underlying143
  a75 := Tryz.isAgg143
  z75 := Tryz.sizeOf143
  v75 := Tryz.zeroValue143
  t76 := Tryz.underlying144
  a76 := Tryz.isAgg144
  z76 := Tryz.sizeOf144
  v76 := Tryz.zeroValue144
  t105 := Tryz.underlying187
  a105 := Tryz.isAgg187
  z105 := Tryz.sizeOf187
  v105 := Tryz.zeroValue187
  t119 := Tryz.underlying221
  a119 := Tryz.isAgg221
  z119 := Tryz.sizeOf221
  t127 := Tryz.underlying158
  a127 := Tryz.isAgg158
  z127 := Tryz.sizeOf158
  v127 := Tryz.zeroValue158
  t138 := Tryz.underlying223
  a138 := Tryz.isAgg223
  z138 := Tryz.sizeOf223
  v138 := Tryz.zeroValue223
  t139 := Tryz.underlying224
  a139 := Tryz.isAgg224
  z139 := Tryz.sizeOf224
  v139 := Tryz.zeroValue224
  t146 := Tryz.underlying219
  a146 := Tryz.isAgg219
  z146 := Tryz.sizeOf219
  v146 := Tryz.zeroValue219
  t164 := Tryz.underlying180
  a164 := Tryz.isAgg180
  z164 := Tryz.sizeOf180
  v164 := Tryz.zeroValue180
  g1 := by kernel_rfl
  g3 := by kernel_rfl
  g4 := by kernel_rfl }
theorem Tryz.Builder_Extra_155 : Builder.Extra Tryz.prog Tryz.lays155_ren := {
  sizeBuilder := by kernel_rfl
  liesBuilder := by kernel_rfl
  t5 := Tryz.underlying5
  a5 := Tryz.isAgg5
  z5 := Tryz.sizeOf5
  v5 := Tryz.zeroValue5
  infoByte := by kernel_rfl
  cellsByte := by kernel_rfl
  sizeByte := by kernel_rfl
  neB5 := by decide }
open Go.RowKit Go.Lib in
/-- strings.ReplaceAll: "ReplaceAll returns a copy of the string s with all non-overlapping instances of old replaced by new.": AT AN old THAT IS NOT EMPTY: 'Lib.replaceAll s old new'. (LAID: no walk: one application.) -/
theorem Tryz.strings_ReplaceAll (s old new : ByteArray) (m : Int) (w : World) (hs : s.size < 4294967281) (hm : w.cell? ⟨0, 0, none⟩ = some (.int .i64 m)) (h1 : 1 ≤ old.size) (hlen : s.size + Lib.countB s old * new.size ≤ 140737488355328) :
    Calls Tryz.prog 112 #[.string s, .string old, .string new] w fun e w' =>
      e = .returned (.string ⟨(Lib.replaceAll s.data.toList old.data.toList new.data.toList).toArray⟩) ∧ Below w.heap.size w w' := Any.strings_ReplaceAll Tryz.lays155 Tryz.Builder_Extra_155 s old new m w hs hm h1 hlen
end Go.Proofs
