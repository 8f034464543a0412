/- volume.Group; known: the example of the chapter of volumes. Path. layers, keys. -/
import Derived.Test.YtbblkknndaoefaaGreatDoorZV16
import Derived.Test.YtbblkknndaoefaaGreatDoorZV17
import Derived.Test.YtbblkknndaoefaaGreatDoorZV21
import Derived.Test.YtbblkknndaoefaaGreatDoorZV14
import Derived.Test.YtbblkknndaoefaaGreatDoorZV8
import Derived.Test.YtbblkknndaoefaaGreatDoorZV5
namespace Go.Proofs.YtbblkknndaoefaaGreatDoor
open Go.RowKit Go.Maps
set_option linter.unusedVariables false

set_option maxRecDepth 100000 in
set_option maxHeartbeats 2000000 in
theorem v_group (a : Option Addr) (cap : Nat) (L : List Mem) (m0 : Int) (w : World) (hl : Mems w a cap L) (hb : MemSmall2 L) (hm0 : w.cell? ⟨1, 0, none⟩ = some (.int .i64 m0)) (hw0 : 1 < w.heap.size) :
    Calls Tryz.prog 40 #[.slice a L.length cap] w fun e w' => ArrRes w (best2 soundB L) e w' ∧ Fr No w w' := by
  have h := v_arrays a cap L m0 w hl hb hm0 hw0
  go_enter Tryz.func40, Tryz.ntmps40
  go_wp2_with fail
  refine h.mono ?_
  rintro e w1 ⟨⟨a', c', O, ids, rfl, r⟩, hf⟩
  have H := Lib.hid (And.intro r hf)
  clear r hf h
  go_wp2_with fail
  go_ret
  exact ⟨⟨a', c', O, ids, rfl, H.out.1⟩, H.out.2⟩
theorem of_known4 {w w' : World} {p s i : ByteArray} {l : List ByteArray} {rd sl t : Int} {e : Ending} {c : Ct} (h : OfRes4 w p s rd e w') (hp : parseC s = some c) (hk : c.kind = 4) (hi : c.id = i) (hsl : c.slot = sl) (htt : c.total = t) (ht : c.inner.map Ct.txt = l) :
    ∃ a cap, e = .returned (.tuple #[.agg #[.string p, .string i, .int .i64 rd, .int .i64 sl, .int .i64 t, .int .i64 t, .slice a l.length cap], .bool true]) ∧ Strs w' a cap l ∧ ∀ ad, a = some ad → w.heap.size ≤ ad.block := by
  rcases h with ⟨h1, _⟩ | ⟨c', a, cap, h1, _, h3, h4, h5⟩
  · exact absurd hk (h1 c hp)
  · rw [hp] at h1; cases h1
    have hl : c.inner.length = l.length := by rw [← ht]; simp
    rw [ht] at h4
    rw [hi, hl, hsl, htt] at h3
    exact ⟨a, cap, h3, h4, h5⟩
theorem one_arr {b : ByteArray × Int → Option Mem} {O : List ArrM} {ids : List ByteArray} {i : ByteArray} {A : Arr} (h : O.map ArrM.toArr = ids.map (buildA b)) (h1 : IsIds2 b ids) (h2 : IsIds2 b [i]) (h3 : buildA b i = A) : ∃ pa pc la lc, O = [⟨A, pa, pc, la, lc⟩] := by
  rw [h1.unique h2, List.map_cons, List.map_nil, h3] at h
  rcases O with _ | ⟨m, _ | ⟨_, _⟩⟩
  · cases h
  · obtain ⟨ar, pa, pc, la, lc⟩ := m
    simp only [List.map_cons, List.map_nil, List.cons.injEq, and_true] at h
    exact ⟨pa, pc, la, lc, by rw [h]⟩
  · cases h
theorem one_int (w : World) (x : Int) (hx : (Lit.int .i64 x).wf = true) : Ints (w.alloc (.cells #[.int .i64 x] 3)) (some ⟨w.heap.size, 0, none⟩) 1 [x] := by
  have h := block_alloc w (.cells #[.int .i64 x] 3)
  refine ⟨by simp, by unfold maxLen; simp, by simpa using hx, (fun e => by cases e), fun ad e _ => ?_⟩
  cases e
  refine ⟨rfl, lt_of_block h, fun i y hi => ?_⟩
  rw [cell_of_block h]
  rcases i with _ | i
  · simp at hi; subst hi; rfl
  · simp at hi
theorem v_small1 (a2 : Option Addr) (c2 : Nat) : MemSmall2 [vMb a2 c2] := by
  refine ⟨by simp, ?_, ?_, ?_, ?_⟩ <;> intro m hm <;> simp only [List.mem_cons, List.not_mem_nil, or_false] at hm <;> subst hm
  · exact (by decide : kPa.size ≤ 1000000)
  · exact (by decide : vId.size ≤ 1000000)
  · simp [vMb]
  · exact WalkArith.wf_i64 (by simp [vMb])
theorem v_small2 (a1 a2 : Option Addr) (c1 c2 : Nat) : MemSmall2 [vMb a2 c2, vMa a1 c1] := by
  refine ⟨by simp, ?_, ?_, ?_, ?_⟩ <;> intro m hm <;> simp only [List.mem_cons, List.not_mem_nil, or_false] at hm <;> rcases hm with rfl | rfl
  · exact (by decide : kPa.size ≤ 1000000)
  · exact (by decide : kPb.size ≤ 1000000)
  · exact (by decide : vId.size ≤ 1000000)
  · exact (by decide : vId.size ≤ 1000000)
  · simp [vMb]
  · simp [vMa]
  · exact WalkArith.wf_i64 (by simp [vMb])
  · exact WalkArith.wf_i64 (by simp [vMa])

set_option maxRecDepth 100000 in
set_option maxHeartbeats 8000000 in
theorem known34 (w : World) (hE : Env w) : Calls Tryz.prog 28 #[] w fun e w' => e = .returned (.bool true) ∧ Fr No w w' := by
  have hof1 := volume_of kPb vT1 0 w vA1 hE (by decide)
  go_enter Tryz.func28, Tryz.ntmps28
  go_wp2_with fail
  refine hof1.mono ?_
  rintro e w1 ⟨hr, hf1⟩
  obtain ⟨a1, c1, rfl, hS1, hF1⟩ := of_known4 (i := vId) (sl := 1) (t := 2) hr vP1 rfl rfl rfl rfl vX1
  clear hof1 hr
  have hE1 := hE.no hf1
  go_upto_region 2 with (fail)
  have hx1 : Fr No w1 (w1.alloc (.cells #[.string kPb, .string vId, .int .i64 0, .int .i64 1, .int .i64 2, .int .i64 2, .slice a1 2 c1] 58)) := (Fr.refl _ _).alloc _
  have q1 := block_alloc w1 (.cells #[.string kPb, .string vId, .int .i64 0, .int .i64 1, .int .i64 2, .int .i64 2, .slice a1 2 c1] 58)
  have hE2 := hE1.no hx1
  have hS1x := hS1.no hx1 (fun _ => id)
  have hfw := hf1.step hx1 (fun _ _ h => h)
  change Code.wp _ _ _ _ (w1.alloc (.cells #[.string kPb, .string vId, .int .i64 0, .int .i64 1, .int .i64 2, .int .i64 2, .slice a1 2 c1] 58))
  generalize w1.alloc (.cells #[.string kPb, .string vId, .int .i64 0, .int .i64 1, .int .i64 2, .int .i64 2, .slice a1 2 c1] 58) = W1 at *
  clear hS1 hE1 hx1 hf1 hF1
  have hof2 := volume_of kPa vT2 0 W1 vA2 hE2 (by decide)
  go_wp2_with fail
  refine hof2.mono ?_
  rintro e w2 ⟨hr, hf2⟩
  obtain ⟨a2, c2, rfl, hS2, hF2⟩ := of_known4 (i := vId) (sl := 2) (t := 2) hr vP2 rfl rfl rfl rfl vX2
  clear hof2 hr
  have hE3 := hE2.no hf2
  go_upto_region 3 with (fail)
  have hx2 : Fr No w2 (w2.alloc (.cells #[.string kPa, .string vId, .int .i64 0, .int .i64 2, .int .i64 2, .int .i64 2, .slice a2 1 c2] 58)) := (Fr.refl _ _).alloc _
  have q2 := block_alloc w2 (.cells #[.string kPa, .string vId, .int .i64 0, .int .i64 2, .int .i64 2, .int .i64 2, .slice a2 1 c2] 58)
  have hE4 := hE3.no hx2
  have hS2x := hS2.no hx2 (fun _ => id)
  have hf12 := hf2.step hx2 (fun _ _ h => h)
  have q1' := hf12.heap q1 id
  have hS1y := hS1x.no hf12 (fun _ => id)
  have hfw2 := hfw.step hf12 (fun _ _ h => h)
  change Code.wp _ _ _ _ (w2.alloc (.cells #[.string kPa, .string vId, .int .i64 0, .int .i64 2, .int .i64 2, .int .i64 2, .slice a2 1 c2] 58))
  generalize w2.alloc (.cells #[.string kPa, .string vId, .int .i64 0, .int .i64 2, .int .i64 2, .int .i64 2, .slice a2 1 c2] 58) = W2 at *
  clear hS2 hE3 hx2 hf2 hF2 hE2 q1 hS1x hf12 hfw
  have y10 : W2.cell? ⟨w1.heap.size, 0, none⟩ = some (.string kPb) := cell_of_block q1' 0
  have y11 : W2.cell? ⟨w1.heap.size, 1, none⟩ = some (.string vId) := cell_of_block q1' 1
  have y12 : W2.cell? ⟨w1.heap.size, 2, none⟩ = some (.int .i64 0) := cell_of_block q1' 2
  have y13 : W2.cell? ⟨w1.heap.size, 3, none⟩ = some (.int .i64 1) := cell_of_block q1' 3
  have y14 : W2.cell? ⟨w1.heap.size, 4, none⟩ = some (.int .i64 2) := cell_of_block q1' 4
  have y15 : W2.cell? ⟨w1.heap.size, 5, none⟩ = some (.int .i64 2) := cell_of_block q1' 5
  have y16 : W2.cell? ⟨w1.heap.size, 6, none⟩ = some (.slice a1 2 c1) := cell_of_block q1' 6
  have y20 : W2.cell? ⟨w2.heap.size, 0, none⟩ = some (.string kPa) := cell_of_block q2 0
  have y21 : W2.cell? ⟨w2.heap.size, 1, none⟩ = some (.string vId) := cell_of_block q2 1
  have y22 : W2.cell? ⟨w2.heap.size, 2, none⟩ = some (.int .i64 0) := cell_of_block q2 2
  have y23 : W2.cell? ⟨w2.heap.size, 3, none⟩ = some (.int .i64 2) := cell_of_block q2 3
  have y24 : W2.cell? ⟨w2.heap.size, 4, none⟩ = some (.int .i64 2) := cell_of_block q2 4
  have y25 : W2.cell? ⟨w2.heap.size, 5, none⟩ = some (.int .i64 2) := cell_of_block q2 5
  have y26 : W2.cell? ⟨w2.heap.size, 6, none⟩ = some (.slice a2 1 c2) := cell_of_block q2 6
  have Hq2 := Lib.hid q2
  clear q1' q2
  have hx4 : Fr No W2 (W2.alloc (.cells (mflat [vMb a2 c2, vMa a1 c1]).toArray 58)) := (Fr.refl _ _).alloc _
  have hM : Mems (W2.alloc (.cells (mflat [vMb a2 c2, vMa a1 c1]).toArray 58)) (some ⟨W2.heap.size, 0, none⟩) 2 [vMb a2 c2, vMa a1 c1] := Mems.of_block (block_alloc _ _) (by unfold maxLen; simp) (fun m hm => by
    simp only [List.mem_cons, List.not_mem_nil, or_false] at hm
    rcases hm with rfl | rfl
    · exact hS2x.no hx4 (fun _ => id)
    · exact hS1y.no hx4 (fun _ => id))
  have hE7 := hE4.no hx4
  obtain ⟨m0, hm0⟩ := hE7.len
  have hsz := hE7.sz
  have hfw4 := hfw2.step hx4 (fun _ _ h => h)
  have hS2z := hS2x.no hx4 (fun _ => id)
  have hg := v_group (some ⟨W2.heap.size, 0, none⟩) 2 [vMb a2 c2, vMa a1 c1] m0 _ hM (v_small2 _ _ _ _) hm0 (by omega)
  have q24 := hx4.heap Hq2.out id
  go_wp2_with fail
  refine hg.mono ?_
  rintro e w5 ⟨⟨ga, gc, O, ids, rfl, hO, _, _, hids, hOe, _⟩, hf5⟩
  rw [v_b2] at hids hOe
  obtain ⟨pa, pc, la, lc, rfl⟩ := one_arr hOe hids (v_ids2 a1 a2 c1 c2) (v_arr2 a1 a2 c1 c2)
  have hfw5 := hfw4.step hf5 (fun _ _ h => h)
  have q25 := hf5.heap q24 id
  have hE8 := hE7.no hf5
  have hS25 := hS2z.no hf5 (fun _ => id)
  have hm5 := hf5.cell hm0 id
  have hsz5 := hf5.size
  clear hg hids hOe hf5 hM hE7 hS2z q24 hm0 hfw4 hx4 hE4 hS1y hS2x hfw2 y10 y11 y12 y13 y14 y15 y16 y20 y21 y22 y23 y24 y25 y26 Hq2
  have y20 : w5.cell? ⟨w2.heap.size, 0, none⟩ = some (.string kPa) := cell_of_block q25 0
  have y21 : w5.cell? ⟨w2.heap.size, 1, none⟩ = some (.string vId) := cell_of_block q25 1
  have y22 : w5.cell? ⟨w2.heap.size, 2, none⟩ = some (.int .i64 0) := cell_of_block q25 2
  have y23 : w5.cell? ⟨w2.heap.size, 3, none⟩ = some (.int .i64 2) := cell_of_block q25 3
  have y24 : w5.cell? ⟨w2.heap.size, 4, none⟩ = some (.int .i64 2) := cell_of_block q25 4
  have y25 : w5.cell? ⟨w2.heap.size, 5, none⟩ = some (.int .i64 2) := cell_of_block q25 5
  have y26 : w5.cell? ⟨w2.heap.size, 6, none⟩ = some (.slice a2 1 c2) := cell_of_block q25 6
  have hx6 : Fr No w5 (w5.alloc (.cells (mflat [vMb a2 c2]).toArray 58)) := (Fr.refl _ _).alloc _
  have hM6 : Mems (w5.alloc (.cells (mflat [vMb a2 c2]).toArray 58)) (some ⟨w5.heap.size, 0, none⟩) 1 [vMb a2 c2] := Mems.of_block (block_alloc _ _) (by unfold maxLen; simp) (fun m hm => by
    simp only [List.mem_cons, List.not_mem_nil, or_false] at hm
    subst hm
    exact hS25.no hx6 (fun _ => id))
  have hg := v_group (some ⟨w5.heap.size, 0, none⟩) 1 [vMb a2 c2] m0 _ hM6 (v_small1 _ _) (hx6.cell hm5 id) (by have := hx6.size; omega)
  go_wp2_with fail
  refine hg.mono ?_
  rintro e w7 ⟨⟨ha, hc, O2, ids, rfl, hO2, _, _, hids, hOe, _⟩, hf7⟩
  rw [v_b1] at hids hOe
  obtain ⟨pa2, pc2, la2, lc2, rfl⟩ := one_arr hOe hids (v_ids1 a2 c2) (v_arr1 a2 c2)
  have hf57 := hx6.step hf7 (fun _ _ h => h)
  have hfw7 := hfw5.step hf57 (fun _ _ h => h)
  have hE9 := hE8.no hf57
  have hO7 := hO.no hf57 (fun _ => id)
  clear hg hids hOe hf7 hM6 hx6 hE8 hS25 q25 hm5 hfw5 hf57 hO y20 y21 y22 y23 y24 y25 y26
  obtain ⟨gb, go, m, rfl, hme, ⟨hP1, hL1⟩, hA1, _⟩ := hO7.elem (k := 0) (by simp)
  obtain ⟨hb, ho, m', rfl, hme2, ⟨hP2, hL2⟩, hA2, _⟩ := hO2.elem (k := 0) (by simp)
  obtain rfl : (⟨⟨vId, [kPb, kPa], 2, 2, 2, [kFx, vCc]⟩, pa, pc, la, lc⟩ : ArrM) = m := by simpa using hme
  obtain rfl : (⟨⟨vId, [⟨#[]⟩, kPa], 2, 2, 1, [⟨#[]⟩]⟩, pa2, pc2, la2, lc2⟩ : ArrM) = m' := by simpa using hme2
  obtain ⟨u0, u1, u2, u3, u4, u5⟩ := hA1
  obtain ⟨t0, t1, t2, t3, t4, t5⟩ := hA2
  simp only [Nat.zero_mul, Nat.add_zero, List.length_cons, List.length_nil, Nat.zero_add, Nat.reduceAdd] at u0 u1 u2 u3 u4 u5 t0 t1 t2 t3 t4 t5 hP1 hL1 hP2 hL2
  have hwa := v_want vId 2 2 2 1 pa 2 pc la lc [kFx, vCc] w7 hE9 (by decide) hL1 (by simp)
  clear hme hme2
  go_wp2_with fail
  refine hwa.mono ?_
  rintro e w8 ⟨⟨va, vc, V, rfl, hV, hVe⟩, hf8⟩
  rw [v_want2] at hVe
  subst hVe
  obtain ⟨vb, vo, v, rfl, hv, hvA, _⟩ := hV.elem (k := 1) (by simp)
  obtain rfl : v = ⟨⟨#[]⟩, vO2, vCc, 1⟩ := by simpa using hv.symm
  obtain ⟨v0, v1, v2, v3⟩ := hvA
  simp only [Nat.one_mul, Nat.add_assoc, Nat.reduceAdd] at v0 v1 v2 v3
  have hE10 := hE9.no hf8
  have hfw8 := hfw7.step hf8 (fun _ _ h => h)
  have t0' := hf8.cell t0 id
  have t1' := hf8.cell t1 id
  have t2' := hf8.cell t2 id
  have t3' := hf8.cell t3 id
  have t4' := hf8.cell t4 id
  have t5' := hf8.cell t5 id
  have hP2' := hP2.no hf8 (fun _ => id)
  have hwb := v_want vId 2 2 1 1 pa2 2 pc2 la2 lc2 [⟨#[]⟩] w8 hE10 (by decide) (hL2.no hf8 (fun _ => id)) (by simp)
  clear hwa hv hV hE9 hfw7 u0 u1 u2 u3 u4 u5 t0 t1 t2 t3 t4 t5 hP1 hL1 hP2 hL2 hO2 hO7 hf8
  have ho1 : vO2.toList = [108, 118, 45, 118, 45, 50] := by rw [ByteArray.toList_eq]; rfl
  have ho2 : vCc.toList = [99, 114, 121, 112, 116, 58, 99, 40, 41] := by rw [ByteArray.toList_eq]; rfl
  go_wp2_with fail
  refine hwb.mono ?_
  rintro e w9 ⟨⟨xa, xc, X, rfl, _, hXe⟩, hf9⟩
  rw [v_want1] at hXe
  subst hXe
  have hfw9 := hfw8.step hf9 (fun _ _ h => h)
  have t0 := hf9.cell t0' id
  have t1 := hf9.cell t1' id
  have t2 := hf9.cell t2' id
  have t3 := hf9.cell t3' id
  have t4 := hf9.cell t4' id
  have t5 := hf9.cell t5' id
  have hla := v_lacks vId 2 2 1 (.slice la2 1 lc2) pa2 pc2 [⟨#[]⟩, kPa] w9 (hP2'.no hf9 (fun _ => id)) (by simp)
  rw [show lacksF [⟨#[]⟩, kPa] [⟨#[]⟩, kPa].length = [1] from v_lack1] at hla
  clear hwb hf9 hfw8 hE10 t0' t1' t2' t3' t4' t5' v0 v1 v2 v3
  go_wp2_with fail
  refine hla.mono ?_
  rintro e w10 ⟨⟨ya, yc, rfl, hY⟩, hf10⟩
  have hx11 : Fr No w10 (w10.alloc (.cells #[.int .i64 1] 3)) := (Fr.refl _ _).alloc _
  have hfw11 := (hfw9.step hf10 (fun _ _ h => h)).step hx11 (fun _ _ h => h)
  have hone : Ints (w10.alloc (.cells #[.int .i64 1] 3)) (some ⟨w10.heap.size, 0, none⟩) 1 [1] := one_int _ _ (WalkArith.wf_i64 (by omega))
  have hsi := ints_same ya (some ⟨w10.heap.size, 0, none⟩) yc 1 [1] [1] _ (hY.no hx11 (fun _ => id)) hone
  rw [show decide (([1] : List Int) = [1]) = true from rfl] at hsi
  clear hla hY hf10 hx11 hone hfw9 t0 t1 t2 t3 t4 t5
  go_wp2_with fail
  refine hsi.mono ?_
  rintro e w12 ⟨rfl, hf12⟩
  have hfin := hfw11.step hf12 (fun _ _ h => h)
  clear hsi hf12 hfw11
  go_wp2_with fail
  go_ret
  exact ⟨rfl, hfin⟩
end Go.Proofs.YtbblkknndaoefaaGreatDoor
namespace Go.Proofs.YtbblkknndaoefaaGreatDoor
open Go.RowKit Go.Maps
set_option linter.unusedVariables false

def pathNames : List ByteArray := [⟨#[97]⟩, ⟨#[98]⟩, ⟨#[115, 100]⟩, ⟨#[112, 49]⟩, ⟨#[97, 95, 98]⟩, ⟨#[120, 33, 121]⟩, ⟨#[65, 45, 49]⟩]
theorem pathNames_size : ∀ s ∈ pathNames, s.size ≤ 3 := by decide
set_option maxRecDepth 100000 in
set_option maxHeartbeats 1000000 in
theorem made_path (B tb k : Nat) (w : World) (ht : Tape w B tb k) (hk : k ≤ 1000000) :
    Calls Tryz.prog 72 #[.pointer (some ⟨tb, 0, none⟩)] w fun e w' => (∃ s k', e = .returned (.string s) ∧ s.size ≤ 100 ∧ k' ≤ k + 4 ∧ Tape w' B tb k') ∧ Fr (Is tb) w w' := by
  go_enter Tryz.func72, Tryz.ntmps72
  go_wp2_with fail
  refine (tape_next B tb k 3 _ ht (by omega) (by omega) (by omega)).mono ?_
  rintro e w1 ⟨r, rfl, hr1, hr2, ht1, hf1⟩
  obtain ⟨r, rfl⟩ := Int.eq_ofNat_of_zero_le hr1
  go_wp2_with fail
  go_loopw [3, 4] (fun v i wr => ∃ (x : ByteArray) (j kk : Nat), v = .string x ∧ i = .int .i64 (j : Int) ∧ j ≤ 3 ∧ x.size + 10 * j ≤ 30 ∧ kk + j ≤ k + 4 ∧ Tape wr B tb kk ∧ Fr (Is tb) w wr) (fun _ i _ => (intOf i).toNat)
  case atStart => exact ⟨⟨#[]⟩, 1 + r, k + 1, rfl, by go_num, by omega, by show 0 + 10 * (1 + r) ≤ 30; omega, by omega, ht1, hf1⟩
  case round =>
    obtain ⟨x, j, kk, rfl, rfl, hj, hx, hkk, htr, hf⟩ := hrel
    by_cases hlt : 0 < j
    · have hlt' : (0 : Int) < j := by omega
      have hs := Strs.of_block (l := pathNames) (block_alloc wr (.cells (pathNames.map Value.string).toArray 9)) (by unfold maxLen pathNames; simp)
      have hfx : Fr No wr (wr.alloc (.cells (pathNames.map Value.string).toArray 9)) := (Fr.refl _ _).alloc _
      have htl := htr.lt
      have hone := tape_one B tb kk (some ⟨wr.heap.size, 0, none⟩) 7 pathNames _ (htr.fr hfx (fun _ _ => id) id) (by omega) hs (by decide) (by decide) (fun ad e => by cases e; show wr.heap.size ≠ tb; omega)
      have Hf := Lib.hid (hf.step hfx (fun _ _ h => h.elim))
      clear hs htr hf hfx
      go_wp2_with fail
      refine hone.mono ?_
      rintro e w2 ⟨⟨y, rfl, hy⟩, ht2, hf2⟩
      have hys := pathNames_size y hy
      have hz1 : ¬ 9223372036854775807 < 1 + y.size := by omega
      have hz2 : ¬ 9223372036854775807 < x.size + (1 + y.size) := by omega
      have Hf2 := Lib.hid (Hf.out.step hf2 (fun _ _ h => h))
      clear hone hy hf2
      go_wp2_with fail
      go_roundw
      case rel => exact ⟨x ++ (⟨#[47]⟩ ++ y), j - 1, kk + 1, rfl, by go_num, by omega, by simp only [ByteArray.size_append]; show x.size + (1 + y.size) + _ ≤ _; omega, by omega, ht2, Hf2.out⟩
      case measure => simp [intOf]; omega
    · obtain rfl : j = 0 := by omega
      go_wp2_with fail
      go_ret
      exact ⟨⟨x, kk, rfl, by omega, by omega, htr⟩, hf⟩
end Go.Proofs.YtbblkknndaoefaaGreatDoor
namespace Go.Proofs.YtbblkknndaoefaaGreatDoor
open Go.RowKit Go.Maps
set_option linter.unusedVariables false

/-- A layer that layers makes. -/
structure LayOk (m : Mem) : Prop where
  p : m.p.size ≤ 100
  i : m.i.size ≤ 2
  n : m.l.length ≤ 1
  l : ∀ x ∈ m.l, x.size ≤ 5
def layIds : List ByteArray := [⟨#[97]⟩, ⟨#[98]⟩, ⟨#[99]⟩, ⟨#[99, 49]⟩]
def layIn : List ByteArray := [⟨#[]⟩, ⟨#[102, 115, 58, 120, 58]⟩, ⟨#[102, 115, 58, 121, 58]⟩]
def layPaths : List ByteArray := [⟨#[120]⟩, ⟨#[]⟩, ⟨#[47, 97, 47]⟩, ⟨#[47, 97, 32, 98]⟩]
theorem layIds_size : ∀ s ∈ layIds, s.size ≤ 2 := by decide
theorem layIn_size : ∀ s ∈ layIn, s.size ≤ 5 := by decide
theorem layPaths_size : ∀ s ∈ layPaths, s.size ≤ 4 := by decide
/-- What layers answers. -/
def LayRes (w : World) (B tb k : Nat) (e : Ending) (w' : World) : Prop :=
  ∃ (L : List Mem) (a' : Option Addr) (c' k' : Nat), e = .returned (.slice a' L.length c') ∧ Mems w' a' c' L ∧ (∀ ad, a' = some ad → w.heap.size ≤ ad.block) ∧ MFresh w' w.heap.size L ∧ (∀ m ∈ L, LayOk m) ∧ L.length ≤ 8 ∧ k' ≤ k + 100 ∧ Tape w' B tb k'
/-- As LayRes; the row's own is told too. -/
def LayRes2 (w : World) (B tb k : Nat) (e : Ending) (w' : World) : Prop :=
  ∃ (L : List Mem) (a' : Option Addr) (c' k' : Nat), e = .returned (.slice a' L.length c') ∧ Mems w' a' c' L ∧ (∀ ad, a' = some ad → w.heap.size ≤ ad.block) ∧ MFresh w' w.heap.size L ∧ (∀ m ∈ L, LayOk m) ∧ L.length ≤ 8 ∧ k' ≤ k + 100 ∧ Tape w' B tb k' ∧ w'.ownsRow w.heap.size 58 7 (.slice a' L.length c') L.length (mflat L)

set_option maxRecDepth 100000 in
set_option maxHeartbeats 8000000 in
theorem made_layers2 (B tb k : Nat) (w : World) (ht : Tape w B tb k) (hk : k ≤ 100000) :
    Calls Tryz.prog 17 #[.pointer (some ⟨tb, 0, none⟩), .int .i64 8] w fun e w' => LayRes2 w B tb k e w' ∧ Fr (Is tb) w w' := by
  obtain ⟨i0, hi0, hz0, hz1, hz2⟩ := info_parts infoM
  have htl := ht.lt
  have hBt := ht.le
  go_enter Tryz.func17, Tryz.ntmps17
  go_wp2_with fail
  refine (tape_next B tb k 9 _ ht (by omega) (by omega) (by omega)).mono ?_
  rintro e w1 ⟨r, rfl, hr1, hr2, ht1, hf1⟩
  obtain ⟨r, rfl⟩ := Int.eq_ofNat_of_zero_le hr1
  have hf1' : Fr (TB tb w.heap.size) w w1 := hf1.mono (fun b _ h => .inl h)
  go_wp2_with fail
  go_loopw [5, 6] (fun v i wr => ∃ (L : List Mem) (av : Option Addr) (cv j kk : Nat), v = .slice av L.length cv ∧ i = .int .i64 (j : Int) ∧ L.length + j ≤ 8 ∧ kk + 10 * j ≤ k + 100 ∧ wr.ownsRow w.heap.size 58 7 (.slice av L.length cv) L.length (mflat L) ∧ MFresh wr w.heap.size L ∧ Hid (∀ m ∈ L, LayOk m) ∧ Tape wr B tb kk ∧ Fr (TB tb w.heap.size) w wr) (fun _ i _ => (intOf i).toNat)
  case atStart => exact ⟨[], none, 0, r, k + 1, rfl, rfl, by simp; omega, by omega, World.ownsRow_nil _ _ _ _, fun m hm => by simp at hm, fun m hm => by simp at hm, ht1, hf1'⟩
  case round =>
    obtain ⟨L, av, cv, j, kk, rfl, rfl, hLj, hkk, hown, hMF, Hsm, htr, hf⟩ := hrel
    by_cases hlt : 0 < j
    · have hlt' : (0 : Int) < j := by omega
      have hpath := made_path B tb kk wr htr (by omega)
      have hsr := hf.size
      clear htr
      go_wp2_with fail
      refine hpath.mono ?_
      rintro e w2 ⟨⟨p, k2, rfl, hp, hk2, ht2⟩, hf2⟩
      have hown2 := ownsRow_at hown hf2 (fun b h e => by have h1 := ownsRow_blk hown h; unfold From at h1; unfold Is at e; omega)
      have hMF2 := hMF.fr hf2 (fun b h1 h2 e => by unfold Is at e; omega)
      have hff2 : Fr (TB tb w.heap.size) w w2 := hf.step hf2 (fun b _ h => .inl h)
      have hs2 := hf2.size
      clear hpath hf2 hown hMF hf
      have hS2 := Strs.of_block (l := layIds) (block_alloc w2 (.cells (layIds.map Value.string).toArray 9)) (by unfold maxLen layIds; simp)
      have hx2 : Fr No w2 (w2.alloc (.cells (layIds.map Value.string).toArray 9)) := (Fr.refl _ _).alloc _
      have hone := tape_one B tb k2 (some ⟨w2.heap.size, 0, none⟩) 4 layIds _ (ht2.fr hx2 (fun _ _ => id) id) (by omega) hS2 (by decide) (by decide) (fun ad e => by cases e; show w2.heap.size ≠ tb; omega)
      go_wp2_with fail
      refine hone.mono ?_
      rintro e w3 ⟨⟨y, rfl, hy⟩, ht3, hf3⟩
      have hys := layIds_size y hy
      have hf23 : Fr (Is tb) w2 w3 := (hx2.mono (fun _ _ h => h.elim)).step hf3 (fun _ _ h => h)
      clear hone hS2 hx2 hf3 ht2 hy
      go_wp2_with fail
      refine (tape_next B tb (k2 + 1) 3 _ ht3 (by omega) (by omega) (by omega)).mono ?_
      rintro e w4 ⟨rd, rfl, hrd1, hrd2, ht4, hf4⟩
      have hf24 := hf23.step hf4 (fun _ _ h => h)
      have hs4 := hf24.size
      clear hf23 hf4 ht3
      have hS4 := Strs.of_block (l := layIn) (block_alloc w4 (.cells (layIn.map Value.string).toArray 9)) (by unfold maxLen layIn; simp)
      have hx4 : Fr No w4 (w4.alloc (.cells (layIn.map Value.string).toArray 9)) := (Fr.refl _ _).alloc _
      have hone := tape_one B tb (k2 + 1 + 1) (some ⟨w4.heap.size, 0, none⟩) 3 layIn _ (ht4.fr hx4 (fun _ _ => id) id) (by omega) hS4 (by decide) (by decide) (fun ad e => by cases e; show w4.heap.size ≠ tb; omega)
      go_wp2_with fail
      refine hone.mono ?_
      rintro e w6 ⟨⟨z, rfl, hz⟩, ht6, hf6⟩
      have hzs := layIn_size z hz
      have hf26 : Fr (Is tb) w2 w6 := (hf24.step hx4 (fun _ _ h => h.elim)).step hf6 (fun _ _ h => h)
      clear hone hS4 hx4 hf6 ht4 hz hf24
      have hs6 := hf26.size
      go_upto_region 6 with (fail)
      have hx7 : Fr No w6 ((w6.alloc (.cells #[.string z] 9)).alloc (.cells #[.string p, .string y, .int .i64 rd, .int .i64 0, .int .i64 0, .int .i64 0, .slice (some ⟨w6.heap.size, 0, none⟩) 1 1] 58)) := ((Fr.refl _ _).alloc _).alloc _
      have q1 := block_alloc1 w6 (.cells #[.string z] 9) (.cells #[.string p, .string y, .int .i64 rd, .int .i64 0, .int .i64 0, .int .i64 0, .slice (some ⟨w6.heap.size, 0, none⟩) 1 1] 58)
      have q2 := block_alloc2 w6 (.cells #[.string z] 9) (.cells #[.string p, .string y, .int .i64 rd, .int .i64 0, .int .i64 0, .int .i64 0, .slice (some ⟨w6.heap.size, 0, none⟩) 1 1] 58)
      have hs7 : ((w6.alloc (.cells #[.string z] 9)).alloc (.cells #[.string p, .string y, .int .i64 rd, .int .i64 0, .int .i64 0, .int .i64 0, .slice (some ⟨w6.heap.size, 0, none⟩) 1 1] 58)).heap.size = w6.heap.size + 2 := by simp
      generalize (w6.alloc (.cells #[.string z] 9)).alloc (.cells #[.string p, .string y, .int .i64 rd, .int .i64 0, .int .i64 0, .int .i64 0, .slice (some ⟨w6.heap.size, 0, none⟩) 1 1] 58) = W7 at *
      have hs7' : w6.heap.size + 2 ≤ W7.heap.size := by omega
      clear hs7
      have hf27 : Fr (Is tb) w2 W7 := hf26.step hx7 (fun _ _ h => h.elim)
      have ht7 := ht6.fr hx7 (fun _ _ => id) id
      clear ht6 hx7 hf26
      go_wp2_with fail
      refine (tape_next B tb (k2 + 1 + 1 + 1) 14 _ ht7 (by omega) (by omega) (by omega)).mono ?_
      rintro e w8 ⟨r8, rfl, hr81, hr82, ht8, hf8⟩
      have q1' := hf8.heap q1 (fun e => by unfold Is at e; omega)
      have q2' := hf8.heap q2 (fun e => by unfold Is at e; omega)
      have hf28 := hf27.step hf8 (fun _ _ h => h)
      have hs8 := hf8.size
      have hown8 := ownsRow_at hown2 hf28 (fun b h e => by have h1 := ownsRow_blk hown2 h; unfold From at h1; unfold Is at e; omega)
      have hMF8 := hMF2.fr hf28 (fun b h1 h2 e => by unfold Is at e; omega)
      have hff8 : Fr (TB tb w.heap.size) w w8 := hff2.step hf28 (fun b _ h => .inl h)
      have hnb : ∀ b, (Value.slice av L.length cv).ownBlock = some b → b < w2.heap.size := fun b h => ownsRow_lt hown2 h
      have Hnb := Lib.hid hnb
      have hB8 : BlkT w8 (some ⟨w6.heap.size, 0, none⟩) 9 := fun ad e => by cases e; exact ⟨_, q1'⟩
      have hS8 := Strs.of_block (l := [z]) q1' (by unfold maxLen; simp)
      have Hf28 := Lib.hid hf28
      have Hown2 := Lib.hid hown2
      have HMF2 := Lib.hid hMF2
      have Hff2 := Lib.hid hff2
      clear hf27 hf8 q1 q2 hown2 hMF2 hff2 hf28 ht7 hnb
      rcases hr0 : (r8 == 0) with _ | _
      · rcases hr1' : (r8 == 1) with _ | _
        · -- nothing more
          have Hf8 := Lib.hid hff8
          have Hown8 := Lib.hid hown8
          have HMF8 := Lib.hid hMF8
          have Ht8 := Lib.hid ht8
          have HS8 := Lib.hid hS8
          have HB8 := Lib.hid hB8
          clear hff8 hown8 hMF8 ht8 hS8 hB8 q1'
          have y0 : w8.cell? ⟨w6.heap.size + 1, 0, none⟩ = some (.string p) := cell_of_block q2' 0
          have y1 : w8.cell? ⟨w6.heap.size + 1, 1, none⟩ = some (.string y) := cell_of_block q2' 1
          have y2 : w8.cell? ⟨w6.heap.size + 1, 2, none⟩ = some (.int .i64 rd) := cell_of_block q2' 2
          have y3 : w8.cell? ⟨w6.heap.size + 1, 3, none⟩ = some (.int .i64 0) := cell_of_block q2' 3
          have y4 : w8.cell? ⟨w6.heap.size + 1, 4, none⟩ = some (.int .i64 0) := cell_of_block q2' 4
          have y5 : w8.cell? ⟨w6.heap.size + 1, 5, none⟩ = some (.int .i64 0) := cell_of_block q2' 5
          have y6 : w8.cell? ⟨w6.heap.size + 1, 6, none⟩ = some (.slice (some ⟨w6.heap.size, 0, none⟩) 1 1) := cell_of_block q2' 6
          have hsz := Hf8.out.size
          clear q2'
          go_wp2_with (at_builtin; refine wpList_append_own _ rfl _ _ 23 rfl w.heap.size 58 i0 (.agg #[.string ByteArray.empty, .string ByteArray.empty, .int .i64 0, .int .i64 0, .int .i64 0, .int .i64 0, .slice none 0 0]) 7 88 Tryz.underlying23 hi0 hz0 hz1 hz2 rfl (by decide) _ _ _ rfl (Hown8.out.alloc _) ⟨w8.heap.size, 0, none⟩ 1 1 (Mem.vals ⟨p, y, rd, 0, 0, 0, (some ⟨w6.heap.size, 0, none⟩), [z], 1⟩).toList rfl rfl (cells_new _ (Mem.vals ⟨p, y, rd, 0, 0, 0, (some ⟨w6.heap.size, 0, none⟩), [z], 1⟩) _ rfl) (mvals_one _) (by unfold maxLen; omega) (by omega) (by first | omega | (simp; done) | (simp; omega)) ?_; intro v' w9 hown9 hgrow9 _; obtain ⟨av', cv', rfl⟩ := ownsRow_slice hown9)
          have hal : Fr No w8 (w8.alloc (.cells #[.string p, .string y, .int .i64 rd, .int .i64 0, .int .i64 0, .int .i64 0, .slice (some ⟨w6.heap.size, 0, none⟩) 1 1] 58)) := (Fr.refl _ _).alloc _
          have howa := Hown8.out.alloc (.cells #[.string p, .string y, .int .i64 rd, .int .i64 0, .int .i64 0, .int .i64 0, .slice (some ⟨w6.heap.size, 0, none⟩) 1 1] 58)
          have hgf : Fr (fun b => (Value.slice av L.length cv).ownBlock = some b) (w8.alloc (.cells #[.string p, .string y, .int .i64 rd, .int .i64 0, .int .i64 0, .int .i64 0, .slice (some ⟨w6.heap.size, 0, none⟩) 1 1] 58)) w9 := Fr.of_grown hgrow9
          have hMF9 : MFresh w9 w.heap.size (L ++ [⟨p, y, rd, 0, 0, 0, (some ⟨w6.heap.size, 0, none⟩), [z], 1⟩]) :=
            MFresh.own (MFresh.snoc (HMF8.out.fr hal (fun _ _ _ => id)) (HS8.out.no hal (fun _ => id)) (HB8.out.fr hal (fun _ _ => id)) (fun ad e => by cases e; show w.heap.size ≤ w6.heap.size; omega)) howa hgf
          have hsm9 : ∀ m ∈ L ++ [(⟨p, y, rd, 0, 0, 0, (some ⟨w6.heap.size, 0, none⟩), [z], 1⟩ : Mem)], LayOk m := fun m hm => by
            rcases List.mem_append.1 hm with h | h
            · exact Hsm.out m h
            · obtain rfl : m = ⟨p, y, rd, 0, 0, 0, (some ⟨w6.heap.size, 0, none⟩), [z], 1⟩ := by simpa using h
              exact ⟨hp, hys, Nat.le_refl _, fun x hx => by obtain rfl : x = z := (by simpa using hx); exact hzs⟩
          have ht9 := (Ht8.out.fr hal (fun _ _ => id) id).fr hgf (fun b hb h => by have h2 := ownsRow_blk howa h; unfold From at h2; omega) (fun h => by have h2 := ownsRow_blk howa h; unfold From at h2; omega)
          have hf9 : Fr (TB tb w.heap.size) w w9 := (Hf8.out.step hal (fun _ _ h => h.elim)).step hgf (fun b _ h => .inr (ownsRow_blk howa h))
          have HF := Lib.hid (And.intro hown9 (And.intro hMF9 (And.intro hsm9 (And.intro ht9 hf9))))
          clear hown9 hMF9 hsm9 ht9 hf9 hgf howa hal hgrow9
          go_roundw
          case rel => exact ⟨L ++ [⟨p, y, rd, 0, 0, 0, (some ⟨w6.heap.size, 0, none⟩), [z], 1⟩], av', cv', j - 1, k2 + 1 + 1 + 1 + 1, by simp, by go_num, by simp; omega, by omega, by rw [List.length_append, mflat_snoc]; exact HF.out.1, HF.out.2.1, Lib.hid HF.out.2.2.1, HF.out.2.2.2.1, HF.out.2.2.2.2⟩
          case measure => simp [intOf]; omega
        · -- another path
          have hS9 := Strs.of_block (l := layPaths) (block_alloc w8 (.cells (layPaths.map Value.string).toArray 9)) (by unfold maxLen layPaths; simp)
          have hx9 : Fr No w8 (w8.alloc (.cells (layPaths.map Value.string).toArray 9)) := (Fr.refl _ _).alloc _
          have hone := tape_one B tb (k2 + 1 + 1 + 1 + 1) (some ⟨w8.heap.size, 0, none⟩) 4 layPaths _ (ht8.fr hx9 (fun _ _ => id) id) (by omega) hS9 (by decide) (by decide) (fun ad e => by cases e; show w8.heap.size ≠ tb; omega)
          have q3 := hx9.heap q2' id
          have q3' := hx9.heap q1' id
          have hfx : Fr (TB tb w2.heap.size) w2 (w8.alloc (.cells (layPaths.map Value.string).toArray 9)) := (Hf28.out.mono (fun b _ h => .inl h)).step hx9 (fun _ _ h => h.elim)
          have hxs : (w8.alloc (.cells (layPaths.map Value.string).toArray 9)).heap.size = w8.heap.size + 1 := by simp
          clear hx9 hS9 hff8 hown8 hMF8 q1' q2' ht8 hS8 hB8
          go_wp2_with fail
          refine hone.mono ?_
          rintro e wa ⟨⟨s, rfl, hs⟩, hta, hfa⟩
          have hss := layPaths_size s hs
          have q4 := hfa.heap q3 (fun e => by unfold Is at e; omega)
          have q4' := hfa.heap q3' (fun e => by unfold Is at e; omega)
          have hsa := hfa.size
          have q5 := block_setCell q4 0 (.string s)
          have z0 : wa.frozen? ⟨w6.heap.size + 1, 0, none⟩ = false := free_of_block q4 0
          have z1 : wa.cell? ⟨w6.heap.size + 1, 0, none⟩ = some (.string p) := cell_of_block q4 0
          have hfs : Fr (Is (w6.heap.size + 1)) wa (wa.setCell ⟨w6.heap.size + 1, 0, none⟩ (.string s)) := Fr.setCell (S := Is (w6.heap.size + 1)) (p := ⟨w6.heap.size + 1, 0, none⟩) (Fr.refl _ _) (fun _ => rfl) _
          have q5' := hfs.heap q4' (fun e => by unfold Is at e; omega)
          have htb := hta.fr hfs (fun b hb e => by unfold Is at e; omega) (fun e => by unfold Is at e; omega)
          have hf2b : Fr (TB tb w2.heap.size) w2 (wa.setCell ⟨w6.heap.size + 1, 0, none⟩ (.string s)) := (hfx.step hfa (fun b _ h => .inl h)).step hfs (fun b _ h => by unfold Is at h; exact .inr (by omega))
          clear hone q3 q3' q4 q4' hs hfx hfa hfs hta hxs
          go_upto_region 11 with (fail)
          generalize wa.setCell ⟨w6.heap.size + 1, 0, none⟩ (.string s) = Wb at *
          have Hown9 := Lib.hid (ownsRow_at Hown2.out hf2b (fun b h e => by have h1 := ownsRow_blk Hown2.out h; have h2 := ownsRow_lt Hown2.out h; unfold From at h1; unfold TB at e; omega))
          have HMF9 := Lib.hid (HMF2.out.fr hf2b (fun b h1 h2 e => by unfold TB at e; omega))
          have Hf9 := Lib.hid (Hff2.out.step hf2b (fun b _ h => by unfold TB at h ⊢; omega))
          have HB9 : Hid (BlkT Wb (some ⟨w6.heap.size, 0, none⟩) 9) := fun ad e => by cases e; exact ⟨_, q5'⟩
          have HS9 : Hid (Strs Wb (some ⟨w6.heap.size, 0, none⟩) 1 [z]) := Strs.of_block (l := [z]) q5' (by unfold maxLen; simp)
          have Ht9 := Lib.hid htb
          simp at q5
          clear z0 z1 hf2b q5' htb
          have y0 : Wb.cell? ⟨w6.heap.size + 1, 0, none⟩ = some (.string s) := cell_of_block q5 0
          have y1 : Wb.cell? ⟨w6.heap.size + 1, 1, none⟩ = some (.string y) := cell_of_block q5 1
          have y2 : Wb.cell? ⟨w6.heap.size + 1, 2, none⟩ = some (.int .i64 rd) := cell_of_block q5 2
          have y3 : Wb.cell? ⟨w6.heap.size + 1, 3, none⟩ = some (.int .i64 0) := cell_of_block q5 3
          have y4 : Wb.cell? ⟨w6.heap.size + 1, 4, none⟩ = some (.int .i64 0) := cell_of_block q5 4
          have y5 : Wb.cell? ⟨w6.heap.size + 1, 5, none⟩ = some (.int .i64 0) := cell_of_block q5 5
          have y6 : Wb.cell? ⟨w6.heap.size + 1, 6, none⟩ = some (.slice (some ⟨w6.heap.size, 0, none⟩) 1 1) := cell_of_block q5 6
          have hsz := Hf9.out.size
          clear q5
          go_wp2_with (at_builtin; refine wpList_append_own _ rfl _ _ 23 rfl w.heap.size 58 i0 (.agg #[.string ByteArray.empty, .string ByteArray.empty, .int .i64 0, .int .i64 0, .int .i64 0, .int .i64 0, .slice none 0 0]) 7 88 Tryz.underlying23 hi0 hz0 hz1 hz2 rfl (by decide) _ _ _ rfl (Hown9.out.alloc _) ⟨Wb.heap.size, 0, none⟩ 1 1 (Mem.vals ⟨s, y, rd, 0, 0, 0, (some ⟨w6.heap.size, 0, none⟩), [z], 1⟩).toList rfl rfl (cells_new _ (Mem.vals ⟨s, y, rd, 0, 0, 0, (some ⟨w6.heap.size, 0, none⟩), [z], 1⟩) _ rfl) (mvals_one _) (by unfold maxLen; omega) (by omega) (by first | omega | (simp; done) | (simp; omega)) ?_; intro v' w9 hown9 hgrow9 _; obtain ⟨av', cv', rfl⟩ := ownsRow_slice hown9)
          have hal : Fr No Wb (Wb.alloc (.cells #[.string s, .string y, .int .i64 rd, .int .i64 0, .int .i64 0, .int .i64 0, .slice (some ⟨w6.heap.size, 0, none⟩) 1 1] 58)) := (Fr.refl _ _).alloc _
          have howa := Hown9.out.alloc (.cells #[.string s, .string y, .int .i64 rd, .int .i64 0, .int .i64 0, .int .i64 0, .slice (some ⟨w6.heap.size, 0, none⟩) 1 1] 58)
          have hgf : Fr (fun b => (Value.slice av L.length cv).ownBlock = some b) (Wb.alloc (.cells #[.string s, .string y, .int .i64 rd, .int .i64 0, .int .i64 0, .int .i64 0, .slice (some ⟨w6.heap.size, 0, none⟩) 1 1] 58)) w9 := Fr.of_grown hgrow9
          have hMF9 : MFresh w9 w.heap.size (L ++ [⟨s, y, rd, 0, 0, 0, (some ⟨w6.heap.size, 0, none⟩), [z], 1⟩]) :=
            MFresh.own (MFresh.snoc (HMF9.out.fr hal (fun _ _ _ => id)) (HS9.out.no hal (fun _ => id)) (HB9.out.fr hal (fun _ _ => id)) (fun ad e => by cases e; show w.heap.size ≤ w6.heap.size; omega)) howa hgf
          have hsm9 : ∀ m ∈ L ++ [(⟨s, y, rd, 0, 0, 0, (some ⟨w6.heap.size, 0, none⟩), [z], 1⟩ : Mem)], LayOk m := fun m hm => by
            rcases List.mem_append.1 hm with h | h
            · exact Hsm.out m h
            · obtain rfl : m = ⟨s, y, rd, 0, 0, 0, (some ⟨w6.heap.size, 0, none⟩), [z], 1⟩ := by simpa using h
              exact ⟨by show s.size ≤ 100; omega, hys, Nat.le_refl _, fun x hx => by obtain rfl : x = z := (by simpa using hx); exact hzs⟩
          have ht9 := (Ht9.out.fr hal (fun _ _ => id) id).fr hgf (fun b hb h => by have h2 := ownsRow_blk howa h; unfold From at h2; omega) (fun h => by have h2 := ownsRow_blk howa h; unfold From at h2; omega)
          have hf9 : Fr (TB tb w.heap.size) w w9 := (Hf9.out.step hal (fun _ _ h => h.elim)).step hgf (fun b _ h => .inr (ownsRow_blk howa h))
          have HF := Lib.hid (And.intro hown9 (And.intro hMF9 (And.intro hsm9 (And.intro ht9 hf9))))
          clear hown9 hMF9 hsm9 ht9 hf9 hgf howa hal hgrow9
          go_roundw
          case rel => exact ⟨L ++ [⟨s, y, rd, 0, 0, 0, (some ⟨w6.heap.size, 0, none⟩), [z], 1⟩], av', cv', j - 1, k2 + 1 + 1 + 1 + 1 + 1, by simp, by go_num, by simp; omega, by omega, by rw [List.length_append, mflat_snoc]; exact HF.out.1, HF.out.2.1, Lib.hid HF.out.2.2.1, HF.out.2.2.2.1, HF.out.2.2.2.2⟩
          case measure => simp [intOf]; omega
      · -- no inner ones
          have q5 := block_setCell q2' 6 (.slice none 0 0)
          have z0 : w8.frozen? ⟨w6.heap.size + 1, 6, none⟩ = false := free_of_block q2' 6
          have z1 : w8.cell? ⟨w6.heap.size + 1, 6, none⟩ = some (.slice (some ⟨w6.heap.size, 0, none⟩) 1 1) := cell_of_block q2' 6
          have hfs : Fr (Is (w6.heap.size + 1)) w8 (w8.setCell ⟨w6.heap.size + 1, 6, none⟩ (.slice none 0 0)) := Fr.setCell (S := Is (w6.heap.size + 1)) (p := ⟨w6.heap.size + 1, 6, none⟩) (Fr.refl _ _) (fun _ => rfl) _
          have htb := ht8.fr hfs (fun b hb e => by unfold Is at e; omega) (fun e => by unfold Is at e; omega)
          have hf2b : Fr (TB tb w2.heap.size) w2 (w8.setCell ⟨w6.heap.size + 1, 6, none⟩ (.slice none 0 0)) := (Hf28.out.mono (fun b _ h => .inl h)).step hfs (fun b _ h => by unfold Is at h; exact .inr (by omega))
          clear hff8 hown8 hMF8 q1' q2' ht8 hS8 hB8 hfs
          go_upto_region 11 with (fail)
          generalize w8.setCell ⟨w6.heap.size + 1, 6, none⟩ (.slice none 0 0) = Wb at *
          have Hown7 := Lib.hid (ownsRow_at Hown2.out hf2b (fun b h e => by have h1 := ownsRow_blk Hown2.out h; have h2 := ownsRow_lt Hown2.out h; unfold From at h1; unfold TB at e; omega))
          have HMF7 := Lib.hid (HMF2.out.fr hf2b (fun b h1 h2 e => by unfold TB at e; omega))
          have Hf7 := Lib.hid (Hff2.out.step hf2b (fun b _ h => by unfold TB at h ⊢; omega))
          have Ht7 := Lib.hid htb
          simp at q5
          clear z0 z1 hf2b htb
          have y0 : Wb.cell? ⟨w6.heap.size + 1, 0, none⟩ = some (.string p) := cell_of_block q5 0
          have y1 : Wb.cell? ⟨w6.heap.size + 1, 1, none⟩ = some (.string y) := cell_of_block q5 1
          have y2 : Wb.cell? ⟨w6.heap.size + 1, 2, none⟩ = some (.int .i64 rd) := cell_of_block q5 2
          have y3 : Wb.cell? ⟨w6.heap.size + 1, 3, none⟩ = some (.int .i64 0) := cell_of_block q5 3
          have y4 : Wb.cell? ⟨w6.heap.size + 1, 4, none⟩ = some (.int .i64 0) := cell_of_block q5 4
          have y5 : Wb.cell? ⟨w6.heap.size + 1, 5, none⟩ = some (.int .i64 0) := cell_of_block q5 5
          have y6 : Wb.cell? ⟨w6.heap.size + 1, 6, none⟩ = some (.slice none 0 0) := cell_of_block q5 6
          have hsz := Hf7.out.size
          clear q5
          go_wp2_with (at_builtin; refine wpList_append_own _ rfl _ _ 23 rfl w.heap.size 58 i0 (.agg #[.string ByteArray.empty, .string ByteArray.empty, .int .i64 0, .int .i64 0, .int .i64 0, .int .i64 0, .slice none 0 0]) 7 88 Tryz.underlying23 hi0 hz0 hz1 hz2 rfl (by decide) _ _ _ rfl (Hown7.out.alloc _) ⟨Wb.heap.size, 0, none⟩ 1 1 (Mem.vals ⟨p, y, rd, 0, 0, 0, none, [], 0⟩).toList rfl rfl (cells_new _ (Mem.vals ⟨p, y, rd, 0, 0, 0, none, [], 0⟩) _ rfl) (mvals_one _) (by unfold maxLen; omega) (by omega) (by first | omega | (simp; done) | (simp; omega)) ?_; intro v' w9 hown9 hgrow9 _; obtain ⟨av', cv', rfl⟩ := ownsRow_slice hown9)
          have hal : Fr No Wb (Wb.alloc (.cells #[.string p, .string y, .int .i64 rd, .int .i64 0, .int .i64 0, .int .i64 0, .slice none 0 0] 58)) := (Fr.refl _ _).alloc _
          have howa := Hown7.out.alloc (.cells #[.string p, .string y, .int .i64 rd, .int .i64 0, .int .i64 0, .int .i64 0, .slice none 0 0] 58)
          have hgf : Fr (fun b => (Value.slice av L.length cv).ownBlock = some b) (Wb.alloc (.cells #[.string p, .string y, .int .i64 rd, .int .i64 0, .int .i64 0, .int .i64 0, .slice none 0 0] 58)) w9 := Fr.of_grown hgrow9
          have hMF9 : MFresh w9 w.heap.size (L ++ [⟨p, y, rd, 0, 0, 0, none, [], 0⟩]) :=
            MFresh.own (MFresh.snoc (HMF7.out.fr hal (fun _ _ _ => id)) (Strs.nil _) (BlkT.none _ _) (fun ad e => by cases e)) howa hgf
          have hsm9 : ∀ m ∈ L ++ [(⟨p, y, rd, 0, 0, 0, none, [], 0⟩ : Mem)], LayOk m := fun m hm => by
            rcases List.mem_append.1 hm with h | h
            · exact Hsm.out m h
            · obtain rfl : m = ⟨p, y, rd, 0, 0, 0, none, [], 0⟩ := by simpa using h
              exact ⟨hp, hys, Nat.zero_le _, fun x hx => by simp at hx⟩
          have ht9 := (Ht7.out.fr hal (fun _ _ => id) id).fr hgf (fun b hb h => by have h2 := ownsRow_blk howa h; unfold From at h2; omega) (fun h => by have h2 := ownsRow_blk howa h; unfold From at h2; omega)
          have hf9 : Fr (TB tb w.heap.size) w w9 := (Hf7.out.step hal (fun _ _ h => h.elim)).step hgf (fun b _ h => .inr (ownsRow_blk howa h))
          have HF := Lib.hid (And.intro hown9 (And.intro hMF9 (And.intro hsm9 (And.intro ht9 hf9))))
          clear hown9 hMF9 hsm9 ht9 hf9 hgf howa hal hgrow9
          go_roundw
          case rel => exact ⟨L ++ [⟨p, y, rd, 0, 0, 0, none, [], 0⟩], av', cv', j - 1, k2 + 1 + 1 + 1 + 1, by simp, by go_num, by simp; omega, by omega, by rw [List.length_append, mflat_snoc]; exact HF.out.1, HF.out.2.1, Lib.hid HF.out.2.2.1, HF.out.2.2.2.1, HF.out.2.2.2.2⟩
          case measure => simp [intOf]; omega
    · obtain rfl : j = 0 := by omega
      obtain ⟨a', c', hv, hR, hfresh⟩ := Mems.of_own hown (fun m hm => (hMF m hm).1)
      cases hv
      have H := Lib.hid (And.intro hR (And.intro hfresh (And.intro hMF (And.intro (And.intro htr hown) (hf.mono (T := Is tb) (fun b hb h => by unfold TB at h; unfold Is; omega))))))
      clear hown hMF htr hf hR hfresh
      go_wp2_with fail
      go_ret
      exact ⟨⟨L, _, _, kk, rfl, H.out.1, H.out.2.1, H.out.2.2.1, Hsm.out, by omega, by omega, H.out.2.2.2.1.1, H.out.2.2.2.1.2⟩, H.out.2.2.2.2⟩
theorem made_layers (B tb k : Nat) (w : World) (ht : Tape w B tb k) (hk : k ≤ 100000) :
    Calls Tryz.prog 17 #[.pointer (some ⟨tb, 0, none⟩), .int .i64 8] w fun e w' => LayRes w B tb k e w' ∧ Fr (Is tb) w w' :=
  (made_layers2 B tb k w ht hk).mono fun e w' ⟨⟨L, a', c', k', h1, h2, h3, h4, h5, h6, h7, h8, _⟩, h⟩ => ⟨⟨L, a', c', k', h1, h2, h3, h4, h5, h6, h7, h8⟩, h⟩
end Go.Proofs.YtbblkknndaoefaaGreatDoor
