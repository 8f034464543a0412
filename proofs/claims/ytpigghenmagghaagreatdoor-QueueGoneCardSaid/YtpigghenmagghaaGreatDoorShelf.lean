/-
  DERIVED: THE SHELF's CONTRACTS AT THIS DUMP, IN PLAIN WORDS (tools/lay-plain.mjs out of 'YtpigghenmagghaaGreatDoorShelfSrc.lean', which tools/lay-shelf.mjs wrote): THE SAME DECLARATIONS UNDER THE SAME NAMES: 'import', 'namespace', 'open', 'def', 'theorem' AND NOTHING ELSE: no command of the shelf's: FOR A HAND-IN. Each laying: the table of numbers ('.._ren') and one theorem, a field a fact of the dump's own or the kernel's comparison; each contract: ONE APPLICATION.
-/
import Derived.Shelf.SlIterI.Nil
import Derived.Ground.GgzProg
import Derived.Shelf.SortM.Plain
import Derived.Shelf.SortM.SortNone
import Derived.Ground.SlgmProg
import Derived.Shelf.SlMaps.Clone
import Derived.Ground.SlmcProg
import Derived.Shelf.SlGeneric
import Derived.Test.YtpigghenmagghaaGreatDoorProg
namespace Go.Proofs
open Go.Shelf
def Tryz.keysQ_ren : Go.Shelf.Ren := ⟨fun | 7 => 70 | 10 => 97 | n => n, fun | 23 => 68 | 26 => 3 | 3 => 82 | 28 => 109 | 0 => 0 | 27 => 108 | 33 => 85 | 4 => 4 | n => n, fun | n => n⟩
theorem Tryz.keysQ : Go.Proofs.SlLaysZI.n7 Tryz.prog Tryz.keysQ_ren := {
  mixed := by kernel_rfl
  f7 := ⟨Tryz.f70.name, by decide, Tryz.func70.trans (congrArg some (by kernel_rfl))⟩
  f10 := ⟨Tryz.f97.name, by decide, Tryz.func97.trans (congrArg some (by kernel_rfl))⟩
  t0 := Tryz.underlying0
  a0 := Tryz.isAgg0
  z0 := Tryz.sizeOf0
  v0 := Tryz.zeroValue0
  t4 := Tryz.underlying4
  a4 := Tryz.isAgg4
  z4 := Tryz.sizeOf4
  v4 := Tryz.zeroValue4
  t23 := Tryz.underlying68
  a23 := Tryz.isAgg68
  z23 := Tryz.sizeOf68
  v23 := Tryz.zeroValue68
  t26 := Tryz.underlying3
  a26 := Tryz.isAgg3
  z26 := Tryz.sizeOf3
  v26 := Tryz.zeroValue3
  t27 := Tryz.underlying108
  a27 := Tryz.isAgg108
  z27 := Tryz.sizeOf108
  v27 := Tryz.zeroValue108
  t28 := Tryz.underlying109
  a28 := Tryz.isAgg109
  z28 := Tryz.sizeOf109
  v28 := Tryz.zeroValue109
  t33 := Tryz.underlying85
  a33 := Tryz.isAgg85
  z33 := Tryz.sizeOf85
  v33 := Tryz.zeroValue85 }
def Tryz.sortedI_ren : Go.Shelf.Ren := ⟨fun | 6 => 69 | 8 => 95 | 9 => 96 | 11 => 117 | 13 => 119 | 12 => 118 | 23 => 146 | 24 => 147 | 14 => 137 | 15 => 138 | 16 => 139 | 17 => 140 | 18 => 141 | 19 => 142 | 20 => 143 | 21 => 144 | 22 => 145 | 25 => 168 | 26 => 169 | 27 => 170 | 28 => 171 | 29 => 172 | 30 => 173 | 31 => 190 | n => n, fun | 26 => 3 | 28 => 109 | 24 => 22 | 0 => 0 | 3 => 3 | 37 => 156 | 48 => 178 | 50 => 164 | 4 => 4 | 40 => 171 | 39 => 170 | 45 => 121 | 5 => 5 | 9 => 9 | 51 => 193 | 55 => 197 | 57 => 208 | 58 => 209 | 33 => 85 | n => n, fun | n => n⟩
theorem Tryz.sortedI : Go.Proofs.SlLaysZI.n6 Tryz.prog Tryz.sortedI_ren := {
  mixed := by kernel_rfl
  f6 := ⟨Tryz.f69.name, by decide, Tryz.func69.trans (congrArg some (by kernel_rfl))⟩
  f8 := ⟨Tryz.f95.name, by decide, Tryz.func95.trans (congrArg some (by kernel_rfl))⟩
  f11 := ⟨Tryz.f117.name, by decide, Tryz.func117.trans (congrArg some (by kernel_rfl))⟩
  t0 := Tryz.underlying0
  a0 := Tryz.isAgg0
  z0 := Tryz.sizeOf0
  v0 := Tryz.zeroValue0
  t24 := Tryz.underlying22
  a24 := Tryz.isAgg22
  z24 := Tryz.sizeOf22
  v24 := Tryz.zeroValue22
  t26 := Tryz.underlying3
  a26 := Tryz.isAgg3
  z26 := Tryz.sizeOf3
  v26 := Tryz.zeroValue3
  t28 := Tryz.underlying109
  a28 := Tryz.isAgg109
  z28 := Tryz.sizeOf109
  v28 := Tryz.zeroValue109
  i26 := by kernel_rfl }
def Tryz.sortI_ren : Go.Shelf.Ren := ⟨fun | 5 => 96 | 8 => 119 | 7 => 118 | 19 => 146 | 20 => 147 | 10 => 137 | 11 => 138 | 12 => 139 | 13 => 140 | 14 => 141 | 15 => 142 | 16 => 143 | 17 => 144 | 18 => 145 | 30 => 168 | 31 => 169 | 32 => 170 | 33 => 171 | 34 => 172 | 35 => 173 | 40 => 190 | n => n, fun | 23 => 22 | 25 => 3 | 3 => 3 | 32 => 156 | 22 => 22 | 0 => 0 | 44 => 178 | 46 => 164 | 4 => 4 | 36 => 171 | 35 => 170 | 41 => 121 | 5 => 5 | 9 => 9 | 53 => 193 | 57 => 197 | 63 => 208 | 64 => 209 | n => n, fun | n => n⟩
theorem Tryz.sortI : Go.Proofs.SlLaysM.n5 Tryz.prog Tryz.sortI_ren := {
  mixed := by kernel_rfl
  f5 := ⟨Tryz.f96.name, by decide, Tryz.func96.trans (congrArg some (by kernel_rfl))⟩
  f7 := ⟨Tryz.f118.name, by decide, Tryz.func118.trans (congrArg some (by kernel_rfl))⟩
  f8 := Tryz.func119.trans (congrArg some (by kernel_rfl))
  f10 := ⟨Tryz.f137.name, by decide, Tryz.func137.trans (congrArg some (by kernel_rfl))⟩
  f11 := ⟨Tryz.f138.name, by decide, Tryz.func138.trans (congrArg some (by kernel_rfl))⟩
  f12 := ⟨Tryz.f139.name, by decide, Tryz.func139.trans (congrArg some (by kernel_rfl))⟩
  f13 := ⟨Tryz.f140.name, by decide, Tryz.func140.trans (congrArg some (by kernel_rfl))⟩
  f14 := ⟨Tryz.f141.name, by decide, Tryz.func141.trans (congrArg some (by kernel_rfl))⟩
  f15 := ⟨Tryz.f142.name, by decide, Tryz.func142.trans (congrArg some (by kernel_rfl))⟩
  f16 := ⟨Tryz.f143.name, by decide, Tryz.func143.trans (congrArg some (by kernel_rfl))⟩
  f17 := ⟨Tryz.f144.name, by decide, Tryz.func144.trans (congrArg some (by kernel_rfl))⟩
  f18 := ⟨Tryz.f145.name, by decide, Tryz.func145.trans (congrArg some (by kernel_rfl))⟩
  f19 := Tryz.func146.trans (congrArg some (by kernel_rfl))
  f20 := Tryz.func147.trans (congrArg some (by kernel_rfl))
  f30 := ⟨Tryz.f168.name, by decide, Tryz.func168.trans (congrArg some (by kernel_rfl))⟩
  f31 := Tryz.func169.trans (congrArg some (by kernel_rfl))
  f32 := Tryz.func170.trans (congrArg some (by kernel_rfl))
  f33 := ⟨Tryz.f171.name, by decide, Tryz.func171.trans (congrArg some (by kernel_rfl))⟩
  f34 := ⟨Tryz.f172.name, by decide, Tryz.func172.trans (congrArg some (by kernel_rfl))⟩
  f35 := ⟨Tryz.f173.name, by decide, Tryz.func173.trans (congrArg some (by kernel_rfl))⟩
  f40 := ⟨Tryz.f190.name, by decide, Tryz.func190.trans (congrArg some (by kernel_rfl))⟩
  t0 := Tryz.underlying0
  a0 := Tryz.isAgg0
  z0 := Tryz.sizeOf0
  v0 := Tryz.zeroValue0
  t3 := Tryz.underlying3
  a3 := Tryz.isAgg3
  z3 := Tryz.sizeOf3
  v3 := Tryz.zeroValue3
  t4 := Tryz.underlying4
  a4 := Tryz.isAgg4
  z4 := Tryz.sizeOf4
  v4 := Tryz.zeroValue4
  t5 := Tryz.underlying5
  a5 := Tryz.isAgg5
  z5 := Tryz.sizeOf5
  v5 := Tryz.zeroValue5
  t9 := Tryz.underlying9
  a9 := Tryz.isAgg9
  z9 := Tryz.sizeOf9
  v9 := Tryz.zeroValue9
  t22 := Tryz.underlying22
  a22 := Tryz.isAgg22
  z22 := Tryz.sizeOf22
  v22 := Tryz.zeroValue22
  t23 := Tryz.underlying22
  a23 := Tryz.isAgg22
  z23 := Tryz.sizeOf22
  v23 := Tryz.zeroValue22
  t25 := Tryz.underlying3
  a25 := Tryz.isAgg3
  z25 := Tryz.sizeOf3
  v25 := Tryz.zeroValue3
  t32 := Tryz.underlying156
  a32 := Tryz.isAgg156
  z32 := Tryz.sizeOf156
  v32 := Tryz.zeroValue156
  t35 := Tryz.underlying170
  a35 := Tryz.isAgg170
  z35 := Tryz.sizeOf170
  v35 := Tryz.zeroValue170
  t36 := Tryz.underlying171
  a36 := Tryz.isAgg171
  z36 := Tryz.sizeOf171
  v36 := Tryz.zeroValue171
  t41 := Tryz.underlying121
  a41 := Tryz.isAgg121
  z41 := Tryz.sizeOf121
  v41 := Tryz.zeroValue121
  t44 := Tryz.underlying178
  a44 := Tryz.isAgg178
  z44 := Tryz.sizeOf178
  v44 := Tryz.zeroValue178
  t46 := Tryz.underlying164
  a46 := Tryz.isAgg164
  z46 := Tryz.sizeOf164
  v46 := Tryz.zeroValue164
  t53 := Tryz.underlying193
  a53 := Tryz.isAgg193
  z53 := Tryz.sizeOf193
  v53 := Tryz.zeroValue193
  t57 := Tryz.underlying197
  a57 := Tryz.isAgg197
  z57 := Tryz.sizeOf197
  v57 := Tryz.zeroValue197
  t63 := Tryz.underlying208
  a63 := Tryz.isAgg208
  z63 := Tryz.sizeOf208
  v63 := Tryz.zeroValue208
  t64 := Tryz.underlying209
  a64 := Tryz.isAgg209
  z64 := Tryz.sizeOf209
  v64 := Tryz.zeroValue209 }
def Tryz.cloneQ_ren : Go.Shelf.Ren := ⟨fun | 5 => 37 | 7 => 67 | n => n, fun | 23 => 68 | 25 => 3 | 3 => 82 | 4 => 4 | 20 => 20 | n => n, fun | n => n⟩
theorem Tryz.cloneQ : Go.Proofs.SlLaysW.n5 Tryz.prog Tryz.cloneQ_ren := {
  mixed := by kernel_rfl
  f5 := ⟨Tryz.f37.name, by decide, Tryz.func37.trans (congrArg some (by kernel_rfl))⟩
  f7 := Tryz.func67.trans (congrArg some (by kernel_rfl))
  t4 := Tryz.underlying4
  a4 := Tryz.isAgg4
  z4 := Tryz.sizeOf4
  v4 := Tryz.zeroValue4
  t20 := Tryz.underlying20
  a20 := Tryz.isAgg20
  z20 := Tryz.sizeOf20
  v20 := Tryz.zeroValue20
  t23 := Tryz.underlying68
  a23 := Tryz.isAgg68
  z23 := Tryz.sizeOf68
  v23 := Tryz.zeroValue68 }
end Go.Proofs
