/- volume.Group; known: the example of the chapter of volumes. What the laid variables give to a law of the contents' chapters. The row's frame for a row that lists variables and whose walk wants the world's shape. Plain laws. -/
import Derived.Test.YtmieegcgeolckaaGreatDoorZV9
import Derived.Test.YtmieegcgeolckaaGreatDoorZV14
import Derived.Test.YtmieegcgeolckaaGreatDoorZV20
import Derived.Test.YtmieegcgeolckaaGreatDoorZV13
import Derived.Test.YtmieegcgeolckaaGreatDoorRows
import Derived.Shelf.Vars
import Derived.Stop.LaidErr
import Derived.MakeChecks
import Derived.Lib.LaidTab
import Derived.OpenShut
import Derived.LaidMore
import Derived.Lay
import Derived.HandedShaped
import Derived.Handed
namespace Go.Proofs.YtmieegcgeolckaaGreatDoor
open Go.RowKit Go.Maps
set_option linter.unusedVariables false

set_option maxRecDepth 100000 in
set_option maxHeartbeats 2000000 in
theorem v_group (a : Option Addr) (cap : Nat) (L : List Mem) (m0 : Int) (w : World) (hl : Mems w a cap L) (hb : MemSmall2 L) (hm0 : w.cell? ⟨0, 0, none⟩ = some (.int .i64 m0)) (hw0 : 0 < w.heap.size) :
    Calls Tryz.prog 40 #[.slice a L.length cap] w fun e w' => ArrRes w (best2 soundB L) e w' ∧ Fr No w w' := by
  have h := v_arrays a cap L m0 w hl hb hm0 hw0
  go_enter Tryz.func40, Tryz.ntmps40
  go_wp2_with fail
  refine h.mono ?_
  rintro e w1 ⟨⟨a', c', O, ids, rfl, r⟩, hf⟩
  have H := Lib.hid (And.intro r hf)
  clear r hf h
  go_wp2_with fail
  go_ret
  exact ⟨⟨a', c', O, ids, rfl, H.out.1⟩, H.out.2⟩
theorem of_known4 {w w' : World} {p s i : ByteArray} {l : List ByteArray} {rd sl t : Int} {e : Ending} {c : Ct} (h : OfRes4 w p s rd e w') (hp : parseC s = some c) (hk : c.kind = 4) (hi : c.id = i) (hsl : c.slot = sl) (htt : c.total = t) (ht : c.inner.map Ct.txt = l) :
    ∃ a cap, e = .returned (.tuple #[.agg #[.string p, .string i, .int .i64 rd, .int .i64 sl, .int .i64 t, .int .i64 t, .slice a l.length cap], .bool true]) ∧ Strs w' a cap l ∧ ∀ ad, a = some ad → w.heap.size ≤ ad.block := by
  rcases h with ⟨h1, _⟩ | ⟨c', a, cap, h1, _, h3, h4, h5⟩
  · exact absurd hk (h1 c hp)
  · rw [hp] at h1; cases h1
    have hl : c.inner.length = l.length := by rw [← ht]; simp
    rw [ht] at h4
    rw [hi, hl, hsl, htt] at h3
    exact ⟨a, cap, h3, h4, h5⟩
theorem one_arr {b : ByteArray × Int → Option Mem} {O : List ArrM} {ids : List ByteArray} {i : ByteArray} {A : Arr} (h : O.map ArrM.toArr = ids.map (buildA b)) (h1 : IsIds2 b ids) (h2 : IsIds2 b [i]) (h3 : buildA b i = A) : ∃ pa pc la lc, O = [⟨A, pa, pc, la, lc⟩] := by
  rw [h1.unique h2, List.map_cons, List.map_nil, h3] at h
  rcases O with _ | ⟨m, _ | ⟨_, _⟩⟩
  · cases h
  · obtain ⟨ar, pa, pc, la, lc⟩ := m
    simp only [List.map_cons, List.map_nil, List.cons.injEq, and_true] at h
    exact ⟨pa, pc, la, lc, by rw [h]⟩
  · cases h
theorem one_int (w : World) (x : Int) (hx : (Lit.int .i64 x).wf = true) : Ints (w.alloc (.cells #[.int .i64 x] 3)) (some ⟨w.heap.size, 0, none⟩) 1 [x] := by
  have h := block_alloc w (.cells #[.int .i64 x] 3)
  refine ⟨by simp, by unfold maxLen; simp, by simpa using hx, (fun e => by cases e), fun ad e _ => ?_⟩
  cases e
  refine ⟨rfl, lt_of_block h, fun i y hi => ?_⟩
  rw [cell_of_block h]
  rcases i with _ | i
  · simp at hi; subst hi; rfl
  · simp at hi
theorem v_small1 (a2 : Option Addr) (c2 : Nat) : MemSmall2 [vMb a2 c2] := by
  refine ⟨by simp, ?_, ?_, ?_, ?_⟩ <;> intro m hm <;> simp only [List.mem_cons, List.not_mem_nil, or_false] at hm <;> subst hm
  · exact (by decide : kPa.size ≤ 1000000)
  · exact (by decide : vId.size ≤ 1000000)
  · simp [vMb]
  · exact WalkArith.wf_i64 (by simp [vMb])
theorem v_small2 (a1 a2 : Option Addr) (c1 c2 : Nat) : MemSmall2 [vMb a2 c2, vMa a1 c1] := by
  refine ⟨by simp, ?_, ?_, ?_, ?_⟩ <;> intro m hm <;> simp only [List.mem_cons, List.not_mem_nil, or_false] at hm <;> rcases hm with rfl | rfl
  · exact (by decide : kPa.size ≤ 1000000)
  · exact (by decide : kPb.size ≤ 1000000)
  · exact (by decide : vId.size ≤ 1000000)
  · exact (by decide : vId.size ≤ 1000000)
  · simp [vMb]
  · simp [vMa]
  · exact WalkArith.wf_i64 (by simp [vMb])
  · exact WalkArith.wf_i64 (by simp [vMa])

set_option maxRecDepth 100000 in
set_option maxHeartbeats 8000000 in
theorem known34 (w : World) (hE : Env w) : Calls Tryz.prog 38 #[] w fun e w' => e = .returned (.bool true) ∧ Fr No w w' := by
  have hof1 := volume_of kPb vT1 0 w vA1 hE (by decide)
  go_enter Tryz.func38, Tryz.ntmps38
  go_wp2_with fail
  refine hof1.mono ?_
  rintro e w1 ⟨hr, hf1⟩
  obtain ⟨a1, c1, rfl, hS1, hF1⟩ := of_known4 (i := vId) (sl := 1) (t := 2) hr vP1 rfl rfl rfl rfl vX1
  clear hof1 hr
  have hE1 := hE.no hf1
  go_upto_region 2 with (fail)
  have hx1 : Fr No w1 (w1.alloc (.cells #[.string kPb, .string vId, .int .i64 0, .int .i64 1, .int .i64 2, .int .i64 2, .slice a1 2 c1] 31)) := (Fr.refl _ _).alloc _
  have q1 := block_alloc w1 (.cells #[.string kPb, .string vId, .int .i64 0, .int .i64 1, .int .i64 2, .int .i64 2, .slice a1 2 c1] 31)
  have hE2 := hE1.no hx1
  have hS1x := hS1.no hx1 (fun _ => id)
  have hfw := hf1.step hx1 (fun _ _ h => h)
  change Code.wp _ _ _ _ (w1.alloc (.cells #[.string kPb, .string vId, .int .i64 0, .int .i64 1, .int .i64 2, .int .i64 2, .slice a1 2 c1] 31))
  generalize w1.alloc (.cells #[.string kPb, .string vId, .int .i64 0, .int .i64 1, .int .i64 2, .int .i64 2, .slice a1 2 c1] 31) = W1 at *
  clear hS1 hE1 hx1 hf1 hF1
  have hof2 := volume_of kPa vT2 0 W1 vA2 hE2 (by decide)
  go_wp2_with fail
  refine hof2.mono ?_
  rintro e w2 ⟨hr, hf2⟩
  obtain ⟨a2, c2, rfl, hS2, hF2⟩ := of_known4 (i := vId) (sl := 2) (t := 2) hr vP2 rfl rfl rfl rfl vX2
  clear hof2 hr
  have hE3 := hE2.no hf2
  go_upto_region 3 with (fail)
  have hx2 : Fr No w2 (w2.alloc (.cells #[.string kPa, .string vId, .int .i64 0, .int .i64 2, .int .i64 2, .int .i64 2, .slice a2 1 c2] 31)) := (Fr.refl _ _).alloc _
  have q2 := block_alloc w2 (.cells #[.string kPa, .string vId, .int .i64 0, .int .i64 2, .int .i64 2, .int .i64 2, .slice a2 1 c2] 31)
  have hE4 := hE3.no hx2
  have hS2x := hS2.no hx2 (fun _ => id)
  have hf12 := hf2.step hx2 (fun _ _ h => h)
  have q1' := hf12.heap q1 id
  have hS1y := hS1x.no hf12 (fun _ => id)
  have hfw2 := hfw.step hf12 (fun _ _ h => h)
  change Code.wp _ _ _ _ (w2.alloc (.cells #[.string kPa, .string vId, .int .i64 0, .int .i64 2, .int .i64 2, .int .i64 2, .slice a2 1 c2] 31))
  generalize w2.alloc (.cells #[.string kPa, .string vId, .int .i64 0, .int .i64 2, .int .i64 2, .int .i64 2, .slice a2 1 c2] 31) = W2 at *
  clear hS2 hE3 hx2 hf2 hF2 hE2 q1 hS1x hf12 hfw
  have y10 : W2.cell? ⟨w1.heap.size, 0, none⟩ = some (.string kPb) := cell_of_block q1' 0
  have y11 : W2.cell? ⟨w1.heap.size, 1, none⟩ = some (.string vId) := cell_of_block q1' 1
  have y12 : W2.cell? ⟨w1.heap.size, 2, none⟩ = some (.int .i64 0) := cell_of_block q1' 2
  have y13 : W2.cell? ⟨w1.heap.size, 3, none⟩ = some (.int .i64 1) := cell_of_block q1' 3
  have y14 : W2.cell? ⟨w1.heap.size, 4, none⟩ = some (.int .i64 2) := cell_of_block q1' 4
  have y15 : W2.cell? ⟨w1.heap.size, 5, none⟩ = some (.int .i64 2) := cell_of_block q1' 5
  have y16 : W2.cell? ⟨w1.heap.size, 6, none⟩ = some (.slice a1 2 c1) := cell_of_block q1' 6
  have y20 : W2.cell? ⟨w2.heap.size, 0, none⟩ = some (.string kPa) := cell_of_block q2 0
  have y21 : W2.cell? ⟨w2.heap.size, 1, none⟩ = some (.string vId) := cell_of_block q2 1
  have y22 : W2.cell? ⟨w2.heap.size, 2, none⟩ = some (.int .i64 0) := cell_of_block q2 2
  have y23 : W2.cell? ⟨w2.heap.size, 3, none⟩ = some (.int .i64 2) := cell_of_block q2 3
  have y24 : W2.cell? ⟨w2.heap.size, 4, none⟩ = some (.int .i64 2) := cell_of_block q2 4
  have y25 : W2.cell? ⟨w2.heap.size, 5, none⟩ = some (.int .i64 2) := cell_of_block q2 5
  have y26 : W2.cell? ⟨w2.heap.size, 6, none⟩ = some (.slice a2 1 c2) := cell_of_block q2 6
  have Hq2 := Lib.hid q2
  clear q1' q2
  have hx4 : Fr No W2 (W2.alloc (.cells (mflat [vMb a2 c2, vMa a1 c1]).toArray 31)) := (Fr.refl _ _).alloc _
  have hM : Mems (W2.alloc (.cells (mflat [vMb a2 c2, vMa a1 c1]).toArray 31)) (some ⟨W2.heap.size, 0, none⟩) 2 [vMb a2 c2, vMa a1 c1] := Mems.of_block (block_alloc _ _) (by unfold maxLen; simp) (fun m hm => by
    simp only [List.mem_cons, List.not_mem_nil, or_false] at hm
    rcases hm with rfl | rfl
    · exact hS2x.no hx4 (fun _ => id)
    · exact hS1y.no hx4 (fun _ => id))
  have hE7 := hE4.no hx4
  obtain ⟨m0, hm0⟩ := hE7.len
  have hsz := hE7.sz
  have hfw4 := hfw2.step hx4 (fun _ _ h => h)
  have hS2z := hS2x.no hx4 (fun _ => id)
  have hg := v_group (some ⟨W2.heap.size, 0, none⟩) 2 [vMb a2 c2, vMa a1 c1] m0 _ hM (v_small2 _ _ _ _) hm0 (by omega)
  have q24 := hx4.heap Hq2.out id
  go_wp2_with fail
  refine hg.mono ?_
  rintro e w5 ⟨⟨ga, gc, O, ids, rfl, hO, _, _, hids, hOe, _⟩, hf5⟩
  rw [v_b2] at hids hOe
  obtain ⟨pa, pc, la, lc, rfl⟩ := one_arr hOe hids (v_ids2 a1 a2 c1 c2) (v_arr2 a1 a2 c1 c2)
  have hfw5 := hfw4.step hf5 (fun _ _ h => h)
  have q25 := hf5.heap q24 id
  have hE8 := hE7.no hf5
  have hS25 := hS2z.no hf5 (fun _ => id)
  have hm5 := hf5.cell hm0 id
  have hsz5 := hf5.size
  clear hg hids hOe hf5 hM hE7 hS2z q24 hm0 hfw4 hx4 hE4 hS1y hS2x hfw2 y10 y11 y12 y13 y14 y15 y16 y20 y21 y22 y23 y24 y25 y26 Hq2
  have y20 : w5.cell? ⟨w2.heap.size, 0, none⟩ = some (.string kPa) := cell_of_block q25 0
  have y21 : w5.cell? ⟨w2.heap.size, 1, none⟩ = some (.string vId) := cell_of_block q25 1
  have y22 : w5.cell? ⟨w2.heap.size, 2, none⟩ = some (.int .i64 0) := cell_of_block q25 2
  have y23 : w5.cell? ⟨w2.heap.size, 3, none⟩ = some (.int .i64 2) := cell_of_block q25 3
  have y24 : w5.cell? ⟨w2.heap.size, 4, none⟩ = some (.int .i64 2) := cell_of_block q25 4
  have y25 : w5.cell? ⟨w2.heap.size, 5, none⟩ = some (.int .i64 2) := cell_of_block q25 5
  have y26 : w5.cell? ⟨w2.heap.size, 6, none⟩ = some (.slice a2 1 c2) := cell_of_block q25 6
  have hx6 : Fr No w5 (w5.alloc (.cells (mflat [vMb a2 c2]).toArray 31)) := (Fr.refl _ _).alloc _
  have hM6 : Mems (w5.alloc (.cells (mflat [vMb a2 c2]).toArray 31)) (some ⟨w5.heap.size, 0, none⟩) 1 [vMb a2 c2] := Mems.of_block (block_alloc _ _) (by unfold maxLen; simp) (fun m hm => by
    simp only [List.mem_cons, List.not_mem_nil, or_false] at hm
    subst hm
    exact hS25.no hx6 (fun _ => id))
  have hg := v_group (some ⟨w5.heap.size, 0, none⟩) 1 [vMb a2 c2] m0 _ hM6 (v_small1 _ _) (hx6.cell hm5 id) (by have := hx6.size; omega)
  go_wp2_with fail
  refine hg.mono ?_
  rintro e w7 ⟨⟨ha, hc, O2, ids, rfl, hO2, _, _, hids, hOe, _⟩, hf7⟩
  rw [v_b1] at hids hOe
  obtain ⟨pa2, pc2, la2, lc2, rfl⟩ := one_arr hOe hids (v_ids1 a2 c2) (v_arr1 a2 c2)
  have hf57 := hx6.step hf7 (fun _ _ h => h)
  have hfw7 := hfw5.step hf57 (fun _ _ h => h)
  have hE9 := hE8.no hf57
  have hO7 := hO.no hf57 (fun _ => id)
  clear hg hids hOe hf7 hM6 hx6 hE8 hS25 q25 hm5 hfw5 hf57 hO y20 y21 y22 y23 y24 y25 y26
  obtain ⟨gb, go, m, rfl, hme, ⟨hP1, hL1⟩, hA1, _⟩ := hO7.elem (k := 0) (by simp)
  obtain ⟨hb, ho, m', rfl, hme2, ⟨hP2, hL2⟩, hA2, _⟩ := hO2.elem (k := 0) (by simp)
  obtain rfl : (⟨⟨vId, [kPb, kPa], 2, 2, 2, [kFx, vCc]⟩, pa, pc, la, lc⟩ : ArrM) = m := by simpa using hme
  obtain rfl : (⟨⟨vId, [⟨#[]⟩, kPa], 2, 2, 1, [⟨#[]⟩]⟩, pa2, pc2, la2, lc2⟩ : ArrM) = m' := by simpa using hme2
  obtain ⟨u0, u1, u2, u3, u4, u5⟩ := hA1
  obtain ⟨t0, t1, t2, t3, t4, t5⟩ := hA2
  simp only [Nat.zero_mul, Nat.add_zero, List.length_cons, List.length_nil, Nat.zero_add, Nat.reduceAdd] at u0 u1 u2 u3 u4 u5 t0 t1 t2 t3 t4 t5 hP1 hL1 hP2 hL2
  have hwa := v_want vId 2 2 2 1 pa 2 pc la lc [kFx, vCc] w7 hE9 (by decide) hL1 (by simp)
  clear hme hme2
  go_wp2_with fail
  refine hwa.mono ?_
  rintro e w8 ⟨⟨va, vc, V, rfl, hV, hVe⟩, hf8⟩
  rw [v_want2] at hVe
  subst hVe
  obtain ⟨vb, vo, v, rfl, hv, hvA, _⟩ := hV.elem (k := 1) (by simp)
  obtain rfl : v = ⟨⟨#[]⟩, vO2, vCc, 1⟩ := by simpa using hv.symm
  obtain ⟨v0, v1, v2, v3⟩ := hvA
  simp only [Nat.one_mul, Nat.add_assoc, Nat.reduceAdd] at v0 v1 v2 v3
  have hE10 := hE9.no hf8
  have hfw8 := hfw7.step hf8 (fun _ _ h => h)
  have t0' := hf8.cell t0 id
  have t1' := hf8.cell t1 id
  have t2' := hf8.cell t2 id
  have t3' := hf8.cell t3 id
  have t4' := hf8.cell t4 id
  have t5' := hf8.cell t5 id
  have hP2' := hP2.no hf8 (fun _ => id)
  have hwb := v_want vId 2 2 1 1 pa2 2 pc2 la2 lc2 [⟨#[]⟩] w8 hE10 (by decide) (hL2.no hf8 (fun _ => id)) (by simp)
  clear hwa hv hV hE9 hfw7 u0 u1 u2 u3 u4 u5 t0 t1 t2 t3 t4 t5 hP1 hL1 hP2 hL2 hO2 hO7 hf8
  have ho1 : vO2.toList = [108, 118, 45, 118, 45, 50] := by rw [ByteArray.toList_eq]; rfl
  have ho2 : vCc.toList = [99, 114, 121, 112, 116, 58, 99, 40, 41] := by rw [ByteArray.toList_eq]; rfl
  go_wp2_with fail
  refine hwb.mono ?_
  rintro e w9 ⟨⟨xa, xc, X, rfl, _, hXe⟩, hf9⟩
  rw [v_want1] at hXe
  subst hXe
  have hfw9 := hfw8.step hf9 (fun _ _ h => h)
  have t0 := hf9.cell t0' id
  have t1 := hf9.cell t1' id
  have t2 := hf9.cell t2' id
  have t3 := hf9.cell t3' id
  have t4 := hf9.cell t4' id
  have t5 := hf9.cell t5' id
  have hla := v_lacks vId 2 2 1 (.slice la2 1 lc2) pa2 pc2 [⟨#[]⟩, kPa] w9 (hP2'.no hf9 (fun _ => id)) (by simp)
  rw [show lacksF [⟨#[]⟩, kPa] [⟨#[]⟩, kPa].length = [1] from v_lack1] at hla
  clear hwb hf9 hfw8 hE10 t0' t1' t2' t3' t4' t5' v0 v1 v2 v3
  go_wp2_with fail
  refine hla.mono ?_
  rintro e w10 ⟨⟨ya, yc, rfl, hY⟩, hf10⟩
  have hx11 : Fr No w10 (w10.alloc (.cells #[.int .i64 1] 3)) := (Fr.refl _ _).alloc _
  have hfw11 := (hfw9.step hf10 (fun _ _ h => h)).step hx11 (fun _ _ h => h)
  have hone : Ints (w10.alloc (.cells #[.int .i64 1] 3)) (some ⟨w10.heap.size, 0, none⟩) 1 [1] := one_int _ _ (WalkArith.wf_i64 (by omega))
  have hsi := ints_same ya (some ⟨w10.heap.size, 0, none⟩) yc 1 [1] [1] _ (hY.no hx11 (fun _ => id)) hone
  rw [show decide (([1] : List Int) = [1]) = true from rfl] at hsi
  clear hla hY hf10 hx11 hone hfw9 t0 t1 t2 t3 t4 t5
  go_wp2_with fail
  refine hsi.mono ?_
  rintro e w12 ⟨rfl, hf12⟩
  have hfin := hfw11.step hf12 (fun _ _ h => h)
  clear hsi hf12 hfw11
  go_wp2_with fail
  go_ret
  exact ⟨rfl, hfin⟩
end Go.Proofs.YtmieegcgeolckaaGreatDoor
namespace Go.Proofs.YtmieegcgeolckaaGreatDoor
open Go.ChangeShapes Go.WideShapes Go.RowKit
set_option linter.unusedVariables false

theorem gES : Tryz.prog.globalNamed "strconv.ErrSyntax" = some 2 := by kernel_rfl
theorem gESType : (Tryz.prog.globals[2]?).map (·.type) = some 148 := by kernel_rfl
theorem gER : Tryz.prog.globalNamed "strconv.ErrRange" = some 3 := by kernel_rfl
theorem gERType : (Tryz.prog.globals[3]?).map (·.type) = some 148 := by kernel_rfl
theorem cellsE : Tryz.prog.cellsOf 244 = 1 := by kernel_rfl
theorem cellsS : Tryz.prog.cellsOf 9 = 1 := by kernel_rfl
theorem starE : "*" ++ "errors.errorString" = "*errors.errorString" := by decide
theorem rowE (u : TypeId) (h : Tryz.prog.typeName? 3 u = some "*errors.errorString") : u = 242 :=
  typeName_ptr_named (nm := "errors.errorString") (by rw [starE]; kernel_rfl) (by kernel_rfl) (by decide) u (by rw [starE]; exact h)
theorem gPow : Tryz.prog.globalNamed "internal/strconv.uint64pow10" = some 1 := by kernel_rfl
theorem gPowType : (Tryz.prog.globals[1]?).map (·.type) = some 218 := by kernel_rfl
theorem gAcc : Tryz.prog.globalNamed "unicode/utf8.acceptRanges" = some 8 := by kernel_rfl
theorem cellsU : Tryz.prog.cellsOf 181 = 1 := by kernel_rfl
theorem cellsP : Tryz.prog.cellsOf 218 = 20 := by kernel_rfl
theorem laid_lt {P : Program} {n : String} {d : DataW Unit} {r : List (String × DataW Unit)} {W : World} {g : Nat} (h : laidMet P ((n, d) :: r) W) (hg : P.globalNamed n = some g) : g < W.heap.size := by
  obtain ⟨ps, ⟨g0, t0, cs0, f0, p0, q0, hg0, ht0, hv0, _⟩, _⟩ := h
  unfold World.var? at hv0
  rw [hg] at hv0
  simp only [Option.bind_some] at hv0
  cases hh : W.heap[g]? with
  | none => simp [hh] at hv0
  | some o => exact (Array.getElem?_eq_some_iff.1 hh).1

theorem env_of {W : World} (hsh : W.ShapedOpen Tryz.prog) (hL : laidMet Tryz.prog Rows.cryptSharesRow.laid W) : Env W := by
  obtain ⟨m, hm⟩ := cell_of_shapedOpen_int (P := Tryz.prog) (g := 0) (t := 3) (zero := #[.int .i64 0]) hsh (of_decide_eq_true (by kernel_rfl)) (by kernel_rfl) rfl (by kernel_rfl) (by kernel_rfl) Tryz.underlying3
  have hLr := hL.tail.tail.tail.tail
  have hA := laid_lt hL.tail.tail.tail gAcc
  obtain ⟨ar, sr, hvr, -, -, -⟩ := laid_sentinel hLr gER gERType Tryz.underlying148 rowE Tryz.underlying242 Tryz.underlying244 rfl rfl Tryz.underlying9 cellsE cellsS
  obtain ⟨asx, ssx, hvs, -, -, -⟩ := laid_sentinel hLr.tail gES gESType Tryz.underlying148 rowE Tryz.underlying242 Tryz.underlying244 rfl rfl Tryz.underlying9 cellsE cellsS
  have c5 : W.cell? ⟨2, 0, none⟩ = some (.iface 242 (.pointer (some asx))) := by have h0 := World.var?_cell gES hvs 0; simpa using h0
  have c6 : W.cell? ⟨3, 0, none⟩ = some (.iface 242 (.pointer (some ar))) := by have h0 := World.var?_cell gER hvr 0; simpa using h0
  exact ⟨⟨m, hm⟩, ⟨⟨_, c5, .inr ⟨_, _, rfl⟩⟩, ⟨_, c6, .inr ⟨_, _, rfl⟩⟩⟩, Lib.tabIs_of_head gPow gPowType Tryz.underlying218 Tryz.underlying181 cellsU cellsP hL.tail.tail, hA⟩
end Go.Proofs.YtmieegcgeolckaaGreatDoor
namespace Go.Proofs.YtmieegcgeolckaaGreatDoor
open Go
variable {H : Type} {enc : TypeId × Value → H}

/-- As the library's wrap with a condition beside it; the contract is told the world's shape too. -/
theorem returns_laid_shaped {a : Assume} {C : Checked} {os : Os} {f : FuncId} {fn : Func} {s : ChangeSpec} {conds : List PathCond} {apart fresh handsOn again : Bool} {X : World → Array Value → Prop}
    (hX : ∀ (w w' : World) (args : Array Value), w.heap = w'.heap → X w args → X w' args)
    (own : ownKnob C.prog.godebug = none) (started : os.Started) (noInit : C.prog.inits.idxOf? f = none) (hfn : C.prog.funcs[f]? = some fn)
    (witness : ∃ (w : World) (tape : Go.Tape) (i : Input), w.os = os ∧ (w.forCall tape i).Shaped C.prog ∧ i.vars = [] ∧ Input.okWide C.prog (w.forCall tape i) .any w.heap.size f i ∧
      ((s.pre enc C.prog fn conds apart (w.forCall tape i).memory i.args ∧ X (w.forCall tape i).memory i.args) ∧ sizedMet enc C.prog fn (OpenSpec.ofChange s) apart (w.forCall tape i).memory i.args) ∧ a.holds C.prog (lone (Frame.enter C.prog f i.args .normal) [] (w.forCall tape i)))
    (contract : ∀ (W : World) (base : Nat) (args : Array Value) (ds gs : List (DataW H)) (before : List MemPlace),
      (∀ (j : Nat) t v, fn.params[j]? = some t → args[j]? = some v → Value.okWide C.prog W .any base t v) →
      DataW.Whole enc C.prog fn.params.toList s.vars apart W args.toList ds gs before →
      X W args → W.ShapedOpen C.prog →
      Calls C.prog f args W fun e W' => ∃ v, e = .returned v ∧ s.post enc C.prog fn apart fresh handsOn again W args v W') :
    ReturnsInHanded a C os f .any (fun w args => (s.pre enc C.prog fn conds apart w args ∧ X w args) ∧ sizedMet enc C.prog fn (OpenSpec.ofChange s) apart w args) (s.post enc C.prog fn apart fresh handsOn again) := by
  refine returnsInHanded_of_calls own started noInit witness ?_
  intro w tape i _ hsh _ hok hpre hholds
  obtain ⟨_, _, _, fn', hfn', _, _, _, _, hval⟩ := hok
  have e : fn' = fn := Option.some.inj (hfn'.symm.trans hfn)
  subst e
  obtain ⟨⟨⟨ds, gs, before, hw, hc⟩, hx⟩, hz⟩ := hpre
  have hw' := DataW.Whole.of_heap (w' := w.forCall tape i) (by rfl) hw
  refine (contract (w.forCall tape i) w.heap.size i.args ds gs before hval hw' (hX _ _ _ (by rfl) hx) hsh).mono fun e W' ⟨v, he, hp⟩ => ?_
  subst he
  exact ChangeSpec.post_blind hp
end Go.Proofs.YtmieegcgeolckaaGreatDoor
