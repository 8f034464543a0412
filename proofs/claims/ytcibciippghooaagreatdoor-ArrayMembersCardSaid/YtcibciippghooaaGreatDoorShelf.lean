/-
  DERIVED: THE SHELF's CONTRACTS AT THIS DUMP, IN PLAIN WORDS (tools/lay-plain.mjs out of 'YtcibciippghooaaGreatDoorShelfSrc.lean', which tools/lay-shelf.mjs wrote): THE SAME DECLARATIONS UNDER THE SAME NAMES: 'import', 'namespace', 'open', 'def', 'theorem' AND NOTHING ELSE: no command of the shelf's: FOR A HAND-IN. Each laying: the table of numbers ('.._ren') and one theorem, a field a fact of the dump's own or the kernel's comparison; each contract: ONE APPLICATION.
-/
import Derived.Shelf.SortM.Plain
import Derived.Shelf.SortM.SortNone
import Derived.Ground.SlgmProg
import Derived.Shelf.SlIter.Nil
import Derived.Ground.GgzProg
import Derived.Shelf.SlGeneric
import Derived.Test.YtcibciippghooaaGreatDoorProg
namespace Go.Proofs
open Go.Shelf
def Tryz.sortS_ren : Go.Shelf.Ren := ⟨fun | 6 => 63 | 8 => 88 | 9 => 87 | 19 => 127 | 20 => 110 | 21 => 118 | 22 => 119 | 23 => 120 | 24 => 121 | 25 => 122 | 26 => 123 | 27 => 124 | 28 => 125 | 29 => 126 | 36 => 151 | 31 => 152 | 32 => 153 | 37 => 154 | 38 => 155 | 39 => 150 | 41 => 177 | n => n, fun | 27 => 27 | 29 => 9 | 3 => 3 | 32 => 135 | 26 => 27 | 0 => 0 | 44 => 162 | 46 => 123 | 4 => 4 | 36 => 170 | 35 => 169 | 41 => 64 | 5 => 5 | 9 => 9 | 53 => 188 | 57 => 192 | 63 => 211 | 64 => 212 | n => n, fun | n => n⟩
theorem Tryz.sortS : Go.Proofs.SlLaysM.n6 Tryz.prog Tryz.sortS_ren := {
  mixed := by kernel_rfl
  f6 := ⟨Tryz.f63.name, by decide, Tryz.func63.trans (congrArg some (by kernel_rfl))⟩
  f8 := Tryz.func88.trans (congrArg some (by kernel_rfl))
  f9 := ⟨Tryz.f87.name, by decide, Tryz.func87.trans (congrArg some (by kernel_rfl))⟩
  f19 := Tryz.func127.trans (congrArg some (by kernel_rfl))
  f20 := Tryz.func110.trans (congrArg some (by kernel_rfl))
  f21 := ⟨Tryz.f118.name, by decide, Tryz.func118.trans (congrArg some (by kernel_rfl))⟩
  f22 := ⟨Tryz.f119.name, by decide, Tryz.func119.trans (congrArg some (by kernel_rfl))⟩
  f23 := ⟨Tryz.f120.name, by decide, Tryz.func120.trans (congrArg some (by kernel_rfl))⟩
  f24 := ⟨Tryz.f121.name, by decide, Tryz.func121.trans (congrArg some (by kernel_rfl))⟩
  f25 := ⟨Tryz.f122.name, by decide, Tryz.func122.trans (congrArg some (by kernel_rfl))⟩
  f26 := ⟨Tryz.f123.name, by decide, Tryz.func123.trans (congrArg some (by kernel_rfl))⟩
  f27 := ⟨Tryz.f124.name, by decide, Tryz.func124.trans (congrArg some (by kernel_rfl))⟩
  f28 := ⟨Tryz.f125.name, by decide, Tryz.func125.trans (congrArg some (by kernel_rfl))⟩
  f29 := ⟨Tryz.f126.name, by decide, Tryz.func126.trans (congrArg some (by kernel_rfl))⟩
  f31 := Tryz.func152.trans (congrArg some (by kernel_rfl))
  f32 := Tryz.func153.trans (congrArg some (by kernel_rfl))
  f36 := ⟨Tryz.f151.name, by decide, Tryz.func151.trans (congrArg some (by kernel_rfl))⟩
  f37 := ⟨Tryz.f154.name, by decide, Tryz.func154.trans (congrArg some (by kernel_rfl))⟩
  f38 := ⟨Tryz.f155.name, by decide, Tryz.func155.trans (congrArg some (by kernel_rfl))⟩
  f39 := ⟨Tryz.f150.name, by decide, Tryz.func150.trans (congrArg some (by kernel_rfl))⟩
  f41 := ⟨Tryz.f177.name, by decide, Tryz.func177.trans (congrArg some (by kernel_rfl))⟩
  t0 := Tryz.underlying0
  a0 := Tryz.isAgg0
  z0 := Tryz.sizeOf0
  v0 := Tryz.zeroValue0
  t3 := Tryz.underlying3
  a3 := Tryz.isAgg3
  z3 := Tryz.sizeOf3
  v3 := Tryz.zeroValue3
  t4 := Tryz.underlying4
  a4 := Tryz.isAgg4
  z4 := Tryz.sizeOf4
  v4 := Tryz.zeroValue4
  t5 := Tryz.underlying5
  a5 := Tryz.isAgg5
  z5 := Tryz.sizeOf5
  v5 := Tryz.zeroValue5
  t9 := Tryz.underlying9
  a9 := Tryz.isAgg9
  z9 := Tryz.sizeOf9
  v9 := Tryz.zeroValue9
  t26 := Tryz.underlying27
  a26 := Tryz.isAgg27
  z26 := Tryz.sizeOf27
  v26 := Tryz.zeroValue27
  t27 := Tryz.underlying27
  a27 := Tryz.isAgg27
  z27 := Tryz.sizeOf27
  v27 := Tryz.zeroValue27
  t29 := Tryz.underlying9
  a29 := Tryz.isAgg9
  z29 := Tryz.sizeOf9
  v29 := Tryz.zeroValue9
  t32 := Tryz.underlying135
  a32 := Tryz.isAgg135
  z32 := Tryz.sizeOf135
  v32 := Tryz.zeroValue135
  t35 := Tryz.underlying169
  a35 := Tryz.isAgg169
  z35 := Tryz.sizeOf169
  v35 := Tryz.zeroValue169
  t36 := Tryz.underlying170
  a36 := Tryz.isAgg170
  z36 := Tryz.sizeOf170
  v36 := Tryz.zeroValue170
  t41 := Tryz.underlying64
  a41 := Tryz.isAgg64
  z41 := Tryz.sizeOf64
  v41 := Tryz.zeroValue64
  t44 := Tryz.underlying162
  a44 := Tryz.isAgg162
  z44 := Tryz.sizeOf162
  v44 := Tryz.zeroValue162
  t46 := Tryz.underlying123
  a46 := Tryz.isAgg123
  z46 := Tryz.sizeOf123
  v46 := Tryz.zeroValue123
  t53 := Tryz.underlying188
  a53 := Tryz.isAgg188
  z53 := Tryz.sizeOf188
  v53 := Tryz.zeroValue188
  t57 := Tryz.underlying192
  a57 := Tryz.isAgg192
  z57 := Tryz.sizeOf192
  v57 := Tryz.zeroValue192
  t63 := Tryz.underlying211
  a63 := Tryz.isAgg211
  z63 := Tryz.sizeOf211
  v63 := Tryz.zeroValue211
  t64 := Tryz.underlying212
  a64 := Tryz.isAgg212
  z64 := Tryz.sizeOf212
  v64 := Tryz.zeroValue212 }
def Tryz.keysM_ren : Go.Shelf.Ren := ⟨fun | 7 => 40 | 10 => 64 | n => n, fun | 23 => 74 | 26 => 9 | 3 => 31 | 28 => 80 | 0 => 0 | 27 => 79 | 33 => 102 | 4 => 4 | n => n, fun | n => n⟩
theorem Tryz.keysM : Go.Proofs.SlLaysZ.n7 Tryz.prog Tryz.keysM_ren := {
  mixed := by kernel_rfl
  f7 := ⟨Tryz.f40.name, by decide, Tryz.func40.trans (congrArg some (by kernel_rfl))⟩
  f10 := ⟨Tryz.f64.name, by decide, Tryz.func64.trans (congrArg some (by kernel_rfl))⟩
  t0 := Tryz.underlying0
  a0 := Tryz.isAgg0
  z0 := Tryz.sizeOf0
  v0 := Tryz.zeroValue0
  t4 := Tryz.underlying4
  a4 := Tryz.isAgg4
  z4 := Tryz.sizeOf4
  v4 := Tryz.zeroValue4
  t23 := Tryz.underlying74
  a23 := Tryz.isAgg74
  z23 := Tryz.sizeOf74
  v23 := Tryz.zeroValue74
  t26 := Tryz.underlying9
  a26 := Tryz.isAgg9
  z26 := Tryz.sizeOf9
  v26 := Tryz.zeroValue9
  t27 := Tryz.underlying79
  a27 := Tryz.isAgg79
  z27 := Tryz.sizeOf79
  v27 := Tryz.zeroValue79
  t28 := Tryz.underlying80
  a28 := Tryz.isAgg80
  z28 := Tryz.sizeOf80
  v28 := Tryz.zeroValue80
  t33 := Tryz.underlying102
  a33 := Tryz.isAgg102
  z33 := Tryz.sizeOf102
  v33 := Tryz.zeroValue102 }
def Tryz.sortedS_ren : Go.Shelf.Ren := ⟨fun | 6 => 39 | 8 => 62 | 9 => 63 | 11 => 86 | 13 => 88 | 12 => 87 | 23 => 127 | 24 => 110 | 14 => 118 | 15 => 119 | 16 => 120 | 17 => 121 | 18 => 122 | 19 => 123 | 20 => 124 | 21 => 125 | 22 => 126 | 25 => 151 | 26 => 152 | 27 => 153 | 28 => 154 | 29 => 155 | 30 => 150 | 31 => 177 | n => n, fun | 26 => 9 | 28 => 80 | 24 => 27 | 0 => 0 | 3 => 3 | 37 => 135 | 48 => 162 | 50 => 123 | 4 => 4 | 40 => 170 | 39 => 169 | 45 => 64 | 5 => 5 | 9 => 9 | 51 => 188 | 55 => 192 | 57 => 211 | 58 => 212 | 33 => 102 | n => n, fun | n => n⟩
theorem Tryz.sortedS : Go.Proofs.SlLaysZ.n6 Tryz.prog Tryz.sortedS_ren := {
  mixed := by kernel_rfl
  f6 := ⟨Tryz.f39.name, by decide, Tryz.func39.trans (congrArg some (by kernel_rfl))⟩
  f8 := ⟨Tryz.f62.name, by decide, Tryz.func62.trans (congrArg some (by kernel_rfl))⟩
  f11 := ⟨Tryz.f86.name, by decide, Tryz.func86.trans (congrArg some (by kernel_rfl))⟩
  t0 := Tryz.underlying0
  a0 := Tryz.isAgg0
  z0 := Tryz.sizeOf0
  v0 := Tryz.zeroValue0
  t24 := Tryz.underlying27
  a24 := Tryz.isAgg27
  z24 := Tryz.sizeOf27
  v24 := Tryz.zeroValue27
  t26 := Tryz.underlying9
  a26 := Tryz.isAgg9
  z26 := Tryz.sizeOf9
  v26 := Tryz.zeroValue9
  t28 := Tryz.underlying80
  a28 := Tryz.isAgg80
  z28 := Tryz.sizeOf80
  v28 := Tryz.zeroValue80
  i26 := by kernel_rfl }
end Go.Proofs
