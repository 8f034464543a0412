/-
  DERIVED: THE SHELF's CONTRACTS AT THIS DUMP, IN PLAIN WORDS (tools/lay-plain.mjs out of 'YtpigghenmagghaaShelfSrc.lean', which tools/lay-shelf.mjs wrote): THE SAME DECLARATIONS UNDER THE SAME NAMES: 'import', 'namespace', 'open', 'def', 'theorem' AND NOTHING ELSE: no command of the shelf's: FOR A HAND-IN. Each laying: the table of numbers ('.._ren') and one theorem, a field a fact of the dump's own or the kernel's comparison; each contract: ONE APPLICATION.
-/
import Derived.Shelf.SlIterI.Nil
import Derived.Ground.GgzProg
import Derived.Shelf.SortM.Plain
import Derived.Shelf.SortM.SortNone
import Derived.Ground.SlgmProg
import Derived.Shelf.SlMaps.Clone
import Derived.Ground.SlmcProg
import Derived.Shelf.SlGeneric
import Derived.Test.YtpigghenmagghaaProg
namespace Go.Proofs
open Go.Shelf
def Try.keysQ_ren : Go.Shelf.Ren := ⟨fun | 7 => 33 | 10 => 38 | n => n, fun | 23 => 48 | 26 => 3 | 3 => 61 | 28 => 65 | 0 => 0 | 27 => 64 | 33 => 54 | 4 => 4 | n => n, fun | n => n⟩
theorem Try.keysQ : Go.Proofs.SlLaysZI.n7 Try.prog Try.keysQ_ren := {
  mixed := by kernel_rfl
  f7 := ⟨Try.f33.name, by decide, Try.func33.trans (congrArg some (by kernel_rfl))⟩
  f10 := ⟨Try.f38.name, by decide, Try.func38.trans (congrArg some (by kernel_rfl))⟩
  t0 := Try.underlying0
  a0 := Try.isAgg0
  z0 := Try.sizeOf0
  v0 := Try.zeroValue0
  t4 := Try.underlying4
  a4 := Try.isAgg4
  z4 := Try.sizeOf4
  v4 := Try.zeroValue4
  t23 := Try.underlying48
  a23 := Try.isAgg48
  z23 := Try.sizeOf48
  v23 := Try.zeroValue48
  t26 := Try.underlying3
  a26 := Try.isAgg3
  z26 := Try.sizeOf3
  v26 := Try.zeroValue3
  t27 := Try.underlying64
  a27 := Try.isAgg64
  z27 := Try.sizeOf64
  v27 := Try.zeroValue64
  t28 := Try.underlying65
  a28 := Try.isAgg65
  z28 := Try.sizeOf65
  v28 := Try.zeroValue65
  t33 := Try.underlying54
  a33 := Try.isAgg54
  z33 := Try.sizeOf54
  v33 := Try.zeroValue54 }
def Try.sortedI_ren : Go.Shelf.Ren := ⟨fun | 6 => 32 | 8 => 36 | 9 => 37 | 11 => 39 | 13 => 41 | 12 => 40 | 23 => 51 | 24 => 52 | 14 => 42 | 15 => 43 | 16 => 44 | 17 => 45 | 18 => 46 | 19 => 47 | 20 => 48 | 21 => 49 | 22 => 50 | 25 => 53 | 26 => 54 | 27 => 55 | 28 => 56 | 29 => 57 | 30 => 58 | 31 => 59 | n => n, fun | 26 => 3 | 28 => 65 | 24 => 22 | 0 => 0 | 3 => 3 | 37 => 72 | 48 => 83 | 50 => 85 | 4 => 4 | 40 => 75 | 39 => 74 | 45 => 80 | 5 => 5 | 9 => 9 | 51 => 86 | 55 => 90 | 57 => 92 | 58 => 93 | 33 => 54 | n => n, fun | n => n⟩
theorem Try.sortedI : Go.Proofs.SlLaysZI.n6 Try.prog Try.sortedI_ren := {
  mixed := by kernel_rfl
  f6 := ⟨Try.f32.name, by decide, Try.func32.trans (congrArg some (by kernel_rfl))⟩
  f8 := ⟨Try.f36.name, by decide, Try.func36.trans (congrArg some (by kernel_rfl))⟩
  f11 := ⟨Try.f39.name, by decide, Try.func39.trans (congrArg some (by kernel_rfl))⟩
  t0 := Try.underlying0
  a0 := Try.isAgg0
  z0 := Try.sizeOf0
  v0 := Try.zeroValue0
  t24 := Try.underlying22
  a24 := Try.isAgg22
  z24 := Try.sizeOf22
  v24 := Try.zeroValue22
  t26 := Try.underlying3
  a26 := Try.isAgg3
  z26 := Try.sizeOf3
  v26 := Try.zeroValue3
  t28 := Try.underlying65
  a28 := Try.isAgg65
  z28 := Try.sizeOf65
  v28 := Try.zeroValue65
  i26 := by kernel_rfl }
def Try.sortI_ren : Go.Shelf.Ren := ⟨fun | 5 => 37 | 8 => 41 | 7 => 40 | 19 => 51 | 20 => 52 | 10 => 42 | 11 => 43 | 12 => 44 | 13 => 45 | 14 => 46 | 15 => 47 | 16 => 48 | 17 => 49 | 18 => 50 | 30 => 53 | 31 => 54 | 32 => 55 | 33 => 56 | 34 => 57 | 35 => 58 | 40 => 59 | n => n, fun | 23 => 22 | 25 => 3 | 3 => 3 | 32 => 72 | 22 => 22 | 0 => 0 | 44 => 83 | 46 => 85 | 4 => 4 | 36 => 75 | 35 => 74 | 41 => 80 | 5 => 5 | 9 => 9 | 53 => 86 | 57 => 90 | 63 => 92 | 64 => 93 | n => n, fun | n => n⟩
theorem Try.sortI : Go.Proofs.SlLaysM.n5 Try.prog Try.sortI_ren := {
  mixed := by kernel_rfl
  f5 := ⟨Try.f37.name, by decide, Try.func37.trans (congrArg some (by kernel_rfl))⟩
  f7 := ⟨Try.f40.name, by decide, Try.func40.trans (congrArg some (by kernel_rfl))⟩
  f8 := Try.func41.trans (congrArg some (by kernel_rfl))
  f10 := ⟨Try.f42.name, by decide, Try.func42.trans (congrArg some (by kernel_rfl))⟩
  f11 := ⟨Try.f43.name, by decide, Try.func43.trans (congrArg some (by kernel_rfl))⟩
  f12 := ⟨Try.f44.name, by decide, Try.func44.trans (congrArg some (by kernel_rfl))⟩
  f13 := ⟨Try.f45.name, by decide, Try.func45.trans (congrArg some (by kernel_rfl))⟩
  f14 := ⟨Try.f46.name, by decide, Try.func46.trans (congrArg some (by kernel_rfl))⟩
  f15 := ⟨Try.f47.name, by decide, Try.func47.trans (congrArg some (by kernel_rfl))⟩
  f16 := ⟨Try.f48.name, by decide, Try.func48.trans (congrArg some (by kernel_rfl))⟩
  f17 := ⟨Try.f49.name, by decide, Try.func49.trans (congrArg some (by kernel_rfl))⟩
  f18 := ⟨Try.f50.name, by decide, Try.func50.trans (congrArg some (by kernel_rfl))⟩
  f19 := Try.func51.trans (congrArg some (by kernel_rfl))
  f20 := Try.func52.trans (congrArg some (by kernel_rfl))
  f30 := ⟨Try.f53.name, by decide, Try.func53.trans (congrArg some (by kernel_rfl))⟩
  f31 := Try.func54.trans (congrArg some (by kernel_rfl))
  f32 := Try.func55.trans (congrArg some (by kernel_rfl))
  f33 := ⟨Try.f56.name, by decide, Try.func56.trans (congrArg some (by kernel_rfl))⟩
  f34 := ⟨Try.f57.name, by decide, Try.func57.trans (congrArg some (by kernel_rfl))⟩
  f35 := ⟨Try.f58.name, by decide, Try.func58.trans (congrArg some (by kernel_rfl))⟩
  f40 := ⟨Try.f59.name, by decide, Try.func59.trans (congrArg some (by kernel_rfl))⟩
  t0 := Try.underlying0
  a0 := Try.isAgg0
  z0 := Try.sizeOf0
  v0 := Try.zeroValue0
  t3 := Try.underlying3
  a3 := Try.isAgg3
  z3 := Try.sizeOf3
  v3 := Try.zeroValue3
  t4 := Try.underlying4
  a4 := Try.isAgg4
  z4 := Try.sizeOf4
  v4 := Try.zeroValue4
  t5 := Try.underlying5
  a5 := Try.isAgg5
  z5 := Try.sizeOf5
  v5 := Try.zeroValue5
  t9 := Try.underlying9
  a9 := Try.isAgg9
  z9 := Try.sizeOf9
  v9 := Try.zeroValue9
  t22 := Try.underlying22
  a22 := Try.isAgg22
  z22 := Try.sizeOf22
  v22 := Try.zeroValue22
  t23 := Try.underlying22
  a23 := Try.isAgg22
  z23 := Try.sizeOf22
  v23 := Try.zeroValue22
  t25 := Try.underlying3
  a25 := Try.isAgg3
  z25 := Try.sizeOf3
  v25 := Try.zeroValue3
  t32 := Try.underlying72
  a32 := Try.isAgg72
  z32 := Try.sizeOf72
  v32 := Try.zeroValue72
  t35 := Try.underlying74
  a35 := Try.isAgg74
  z35 := Try.sizeOf74
  v35 := Try.zeroValue74
  t36 := Try.underlying75
  a36 := Try.isAgg75
  z36 := Try.sizeOf75
  v36 := Try.zeroValue75
  t41 := Try.underlying80
  a41 := Try.isAgg80
  z41 := Try.sizeOf80
  v41 := Try.zeroValue80
  t44 := Try.underlying83
  a44 := Try.isAgg83
  z44 := Try.sizeOf83
  v44 := Try.zeroValue83
  t46 := Try.underlying85
  a46 := Try.isAgg85
  z46 := Try.sizeOf85
  v46 := Try.zeroValue85
  t53 := Try.underlying86
  a53 := Try.isAgg86
  z53 := Try.sizeOf86
  v53 := Try.zeroValue86
  t57 := Try.underlying90
  a57 := Try.isAgg90
  z57 := Try.sizeOf90
  v57 := Try.zeroValue90
  t63 := Try.underlying92
  a63 := Try.isAgg92
  z63 := Try.sizeOf92
  v63 := Try.zeroValue92
  t64 := Try.underlying93
  a64 := Try.isAgg93
  z64 := Try.sizeOf93
  v64 := Try.zeroValue93 }
def Try.cloneQ_ren : Go.Shelf.Ren := ⟨fun | 5 => 31 | 7 => 35 | n => n, fun | 23 => 48 | 25 => 3 | 3 => 61 | 4 => 4 | 20 => 20 | n => n, fun | n => n⟩
theorem Try.cloneQ : Go.Proofs.SlLaysW.n5 Try.prog Try.cloneQ_ren := {
  mixed := by kernel_rfl
  f5 := ⟨Try.f31.name, by decide, Try.func31.trans (congrArg some (by kernel_rfl))⟩
  f7 := Try.func35.trans (congrArg some (by kernel_rfl))
  t4 := Try.underlying4
  a4 := Try.isAgg4
  z4 := Try.sizeOf4
  v4 := Try.zeroValue4
  t20 := Try.underlying20
  a20 := Try.isAgg20
  z20 := Try.sizeOf20
  v20 := Try.zeroValue20
  t23 := Try.underlying48
  a23 := Try.isAgg48
  z23 := Try.sizeOf48
  v23 := Try.zeroValue48 }
end Go.Proofs
