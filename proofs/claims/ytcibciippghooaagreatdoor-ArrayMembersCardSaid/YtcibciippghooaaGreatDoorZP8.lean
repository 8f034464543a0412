/- array.Group; known: the example of the chapter of arrays. -/
import Derived.Test.YtcibciippghooaaGreatDoorZP4
import Derived.Test.YtcibciippghooaaGreatDoorZL18
import Derived.Test.YtcibciippghooaaGreatDoorZP3
import Derived.Test.YtcibciippghooaaGreatDoorZP7
import Derived.Test.YtcibciippghooaaGreatDoorZL20
namespace Go.Proofs.YtcibciippghooaaGreatDoor
open Go.RowKit Go.Maps
set_option linter.unusedVariables false

set_option maxRecDepth 100000 in
set_option maxHeartbeats 2000000 in
theorem a_group (a : Option Addr) (cap : Nat) (L : List Mem) (m0 : Int) (w : World) (hl : Mems w a cap L) (hb : MemSmall2 L) (hm0 : w.cell? ⟨3, 0, none⟩ = some (.int .i64 m0)) (hw0 : 3 < w.heap.size) :
    Calls Tryz.prog 32 #[.slice a L.length cap] w fun e w' => ArrRes w (best2 soundA L) e w' ∧ Fr No w w' := by
  have h := a_arrays a cap L m0 w hl hb hm0 hw0
  go_enter Tryz.func32, Tryz.ntmps32
  go_wp2_with fail
  refine h.mono ?_
  rintro e w1 ⟨⟨a', c', O, ids, rfl, r⟩, hf⟩
  have H := Lib.hid (And.intro r hf)
  clear r hf h
  go_wp2_with fail
  go_ret
  exact ⟨⟨a', c', O, ids, rfl, H.out.1⟩, H.out.2⟩
theorem of_known2 {w w' : World} {p s i : ByteArray} {l : List ByteArray} {rd sl t le : Int} {e : Ending} {c : Ct} (h : OfRes2 w p s rd e w') (hp : parseC s = some c) (hk : c.kind = 2) (hi : c.id = i) (hsl : c.slot = sl) (htt : c.total = t) (hle : c.least = le) (ht : c.inner.map Ct.txt = l) :
    ∃ a cap, e = .returned (.tuple #[.agg #[.string p, .string i, .int .i64 rd, .int .i64 sl, .int .i64 t, .int .i64 le, .slice a l.length cap], .bool true]) ∧ Strs w' a cap l ∧ ∀ ad, a = some ad → w.heap.size ≤ ad.block := by
  rcases h with ⟨h1, _⟩ | ⟨c', a, cap, h1, _, h3, h4, h5⟩
  · exact absurd hk (h1 c hp)
  · rw [hp] at h1; cases h1
    have hl : c.inner.length = l.length := by rw [← ht]; simp
    rw [ht] at h4
    rw [hi, hl, hsl, htt, hle] at h3
    exact ⟨a, cap, h3, h4, h5⟩
theorem one_arr2 {b : ByteArray × Int → Option Mem} {O : List ArrM} {ids : List ByteArray} {i : ByteArray} {A : Arr} (h : O.map ArrM.toArr = ids.map (buildA b)) (h1 : IsIds2 b ids) (h2 : IsIds2 b [i]) (h3 : buildA b i = A) : ∃ pa pc la lc, O = [⟨A, pa, pc, la, lc⟩] := by
  rw [h1.unique h2, List.map_cons, List.map_nil, h3] at h
  rcases O with _ | ⟨m, _ | ⟨_, _⟩⟩
  · cases h
  · obtain ⟨ar, pa, pc, la, lc⟩ := m
    simp only [List.map_cons, List.map_nil, List.cons.injEq, and_true] at h
    exact ⟨pa, pc, la, lc, by rw [h]⟩
  · cases h
theorem rd_small (a1 a2 a3 : Option Addr) (c1 c2 c3 : Nat) : MemSmall2 [rdM3 a3 c3, rdM2 a2 c2, rdM1 a1 c1] := by
  refine ⟨by simp, ?_, ?_, ?_, ?_⟩ <;> intro m hm <;> simp only [List.mem_cons, List.not_mem_nil, or_false] at hm <;> rcases hm with rfl | rfl | rfl
  · exact (by decide : rdPc.size ≤ 1000000)
  · exact (by decide : kPa.size ≤ 1000000)
  · exact (by decide : kPb.size ≤ 1000000)
  · exact (by decide : rdI.size ≤ 1000000)
  · exact (by decide : rdI.size ≤ 1000000)
  · exact (by decide : rdI.size ≤ 1000000)
  · simp [rdM3]
  · simp [rdM2]
  · simp [rdM1]
  · exact WalkArith.wf_i64 (by simp [rdM3])
  · exact WalkArith.wf_i64 (by simp [rdM2])
  · exact WalkArith.wf_i64 (by simp [rdM1])
theorem rd_same : sameT [kPb, ⟨#[]⟩, kPa] [kPb, ⟨#[]⟩, kPa] = true := by
  simp [sameT]

set_option maxRecDepth 100000 in
set_option maxHeartbeats 8000000 in
theorem known32 (w : World) (hE : Env w) : Calls Tryz.prog 16 #[] w fun e w' => e = .returned (.bool true) ∧ Fr No w w' := by
  have hof1 := array_of kPb rdT1 0 w hE (by decide)
  go_enter Tryz.func16, Tryz.ntmps16
  go_wp2_with fail
  refine hof1.mono ?_
  rintro e w1 ⟨hr, hf1⟩
  obtain ⟨a1, c1, rfl, hSx, hF1⟩ := of_known2 (i := rdI) (sl := 1) (t := 3) (le := 2) hr rdP1 rfl rfl rfl rfl rfl rdX1
  clear hof1 hr hF1
  have hEx := hE.no hf1
  go_upto_region 2 with (fail)
  have hx1 : Fr No w1 (w1.alloc (.cells #[.string kPb, .string rdI, .int .i64 0, .int .i64 1, .int .i64 3, .int .i64 2, .slice a1 1 c1] 31)) := (Fr.refl _ _).alloc _
  have q1 := block_alloc w1 (.cells #[.string kPb, .string rdI, .int .i64 0, .int .i64 1, .int .i64 3, .int .i64 2, .slice a1 1 c1] 31)
  have hE1 := hEx.no hx1
  have hS1 := hSx.no hx1 (fun _ => id)
  have hfs := hf1.step hx1 (fun _ _ h => h)
  have hfw1 := hfs
  change Code.wp _ _ _ _ (w1.alloc (.cells #[.string kPb, .string rdI, .int .i64 0, .int .i64 1, .int .i64 3, .int .i64 2, .slice a1 1 c1] 31))
  generalize w1.alloc (.cells #[.string kPb, .string rdI, .int .i64 0, .int .i64 1, .int .i64 3, .int .i64 2, .slice a1 1 c1] 31) = W1 at *
  clear hSx hEx hx1 hf1 hfs
  have hof2 := array_of kPa rdT2 0 W1 hE1 (by decide)
  go_wp2_with fail
  refine hof2.mono ?_
  rintro e w2 ⟨hr, hf1⟩
  obtain ⟨a2, c2, rfl, hSx, hF1⟩ := of_known2 (i := rdI) (sl := 3) (t := 3) (le := 2) hr rdP2 rfl rfl rfl rfl rfl rdX2
  clear hof2 hr hF1
  have hEx := hE1.no hf1
  go_upto_region 3 with (fail)
  have hx1 : Fr No w2 (w2.alloc (.cells #[.string kPa, .string rdI, .int .i64 0, .int .i64 3, .int .i64 3, .int .i64 2, .slice a2 1 c2] 31)) := (Fr.refl _ _).alloc _
  have q2 := block_alloc w2 (.cells #[.string kPa, .string rdI, .int .i64 0, .int .i64 3, .int .i64 3, .int .i64 2, .slice a2 1 c2] 31)
  have hE2 := hEx.no hx1
  have hS2 := hSx.no hx1 (fun _ => id)
  have hfs := hf1.step hx1 (fun _ _ h => h)
  have hfw2 := hfw1.step hfs (fun _ _ h => h)
  have hS1 := hS1.no hfs (fun _ => id)
  have q1 := hfs.heap q1 id
  change Code.wp _ _ _ _ (w2.alloc (.cells #[.string kPa, .string rdI, .int .i64 0, .int .i64 3, .int .i64 3, .int .i64 2, .slice a2 1 c2] 31))
  generalize w2.alloc (.cells #[.string kPa, .string rdI, .int .i64 0, .int .i64 3, .int .i64 3, .int .i64 2, .slice a2 1 c2] 31) = W2 at *
  clear hSx hEx hx1 hf1 hfs hfw1 hE1
  have hof3 := array_of rdPc rdT3 0 W2 hE2 (by decide)
  go_wp2_with fail
  refine hof3.mono ?_
  rintro e w3 ⟨hr, hf1⟩
  obtain ⟨a3, c3, rfl, hSx, hF1⟩ := of_known2 (i := rdI) (sl := 3) (t := 3) (le := 1) hr rdP3 rfl rfl rfl rfl rfl rdX3
  clear hof3 hr hF1
  have hEx := hE2.no hf1
  go_upto_region 4 with (fail)
  have hx1 : Fr No w3 (w3.alloc (.cells #[.string rdPc, .string rdI, .int .i64 0, .int .i64 3, .int .i64 3, .int .i64 1, .slice a3 1 c3] 31)) := (Fr.refl _ _).alloc _
  have q3 := block_alloc w3 (.cells #[.string rdPc, .string rdI, .int .i64 0, .int .i64 3, .int .i64 3, .int .i64 1, .slice a3 1 c3] 31)
  have hE3 := hEx.no hx1
  have hS3 := hSx.no hx1 (fun _ => id)
  have hfs := hf1.step hx1 (fun _ _ h => h)
  have hfw3 := hfw2.step hfs (fun _ _ h => h)
  have hS1 := hS1.no hfs (fun _ => id)
  have q1 := hfs.heap q1 id
  have hS2 := hS2.no hfs (fun _ => id)
  have q2 := hfs.heap q2 id
  change Code.wp _ _ _ _ (w3.alloc (.cells #[.string rdPc, .string rdI, .int .i64 0, .int .i64 3, .int .i64 3, .int .i64 1, .slice a3 1 c3] 31))
  generalize w3.alloc (.cells #[.string rdPc, .string rdI, .int .i64 0, .int .i64 3, .int .i64 3, .int .i64 1, .slice a3 1 c3] 31) = W3 at *
  clear hSx hEx hx1 hf1 hfs hfw2 hE2
  have y10 : W3.cell? ⟨w1.heap.size, 0, none⟩ = some (.string kPb) := cell_of_block q1 0
  have y11 : W3.cell? ⟨w1.heap.size, 1, none⟩ = some (.string rdI) := cell_of_block q1 1
  have y12 : W3.cell? ⟨w1.heap.size, 2, none⟩ = some (.int .i64 0) := cell_of_block q1 2
  have y13 : W3.cell? ⟨w1.heap.size, 3, none⟩ = some (.int .i64 1) := cell_of_block q1 3
  have y14 : W3.cell? ⟨w1.heap.size, 4, none⟩ = some (.int .i64 3) := cell_of_block q1 4
  have y15 : W3.cell? ⟨w1.heap.size, 5, none⟩ = some (.int .i64 2) := cell_of_block q1 5
  have y16 : W3.cell? ⟨w1.heap.size, 6, none⟩ = some (.slice a1 1 c1) := cell_of_block q1 6
  have y20 : W3.cell? ⟨w2.heap.size, 0, none⟩ = some (.string kPa) := cell_of_block q2 0
  have y21 : W3.cell? ⟨w2.heap.size, 1, none⟩ = some (.string rdI) := cell_of_block q2 1
  have y22 : W3.cell? ⟨w2.heap.size, 2, none⟩ = some (.int .i64 0) := cell_of_block q2 2
  have y23 : W3.cell? ⟨w2.heap.size, 3, none⟩ = some (.int .i64 3) := cell_of_block q2 3
  have y24 : W3.cell? ⟨w2.heap.size, 4, none⟩ = some (.int .i64 3) := cell_of_block q2 4
  have y25 : W3.cell? ⟨w2.heap.size, 5, none⟩ = some (.int .i64 2) := cell_of_block q2 5
  have y26 : W3.cell? ⟨w2.heap.size, 6, none⟩ = some (.slice a2 1 c2) := cell_of_block q2 6
  have y30 : W3.cell? ⟨w3.heap.size, 0, none⟩ = some (.string rdPc) := cell_of_block q3 0
  have y31 : W3.cell? ⟨w3.heap.size, 1, none⟩ = some (.string rdI) := cell_of_block q3 1
  have y32 : W3.cell? ⟨w3.heap.size, 2, none⟩ = some (.int .i64 0) := cell_of_block q3 2
  have y33 : W3.cell? ⟨w3.heap.size, 3, none⟩ = some (.int .i64 3) := cell_of_block q3 3
  have y34 : W3.cell? ⟨w3.heap.size, 4, none⟩ = some (.int .i64 3) := cell_of_block q3 4
  have y35 : W3.cell? ⟨w3.heap.size, 5, none⟩ = some (.int .i64 1) := cell_of_block q3 5
  have y36 : W3.cell? ⟨w3.heap.size, 6, none⟩ = some (.slice a3 1 c3) := cell_of_block q3 6
  have hx4 : Fr No W3 (W3.alloc (.cells (mflat [rdM3 a3 c3, rdM2 a2 c2, rdM1 a1 c1]).toArray 31)) := (Fr.refl _ _).alloc _
  have hM : Mems (W3.alloc (.cells (mflat [rdM3 a3 c3, rdM2 a2 c2, rdM1 a1 c1]).toArray 31)) (some ⟨W3.heap.size, 0, none⟩) 3 [rdM3 a3 c3, rdM2 a2 c2, rdM1 a1 c1] := Mems.of_block (block_alloc _ _) (by unfold maxLen; simp) (fun m hm => by
    simp only [List.mem_cons, List.not_mem_nil, or_false] at hm
    rcases hm with rfl | rfl | rfl
    · exact hS3.no hx4 (fun _ => id)
    · exact hS2.no hx4 (fun _ => id)
    · exact hS1.no hx4 (fun _ => id))
  have hE7 := hE3.no hx4
  obtain ⟨m0, hm0⟩ := hE7.len
  have hsz := hE7.sz
  have hfw4 := hfw3.step hx4 (fun _ _ h => h)
  have hg := a_group (some ⟨W3.heap.size, 0, none⟩) 3 [rdM3 a3 c3, rdM2 a2 c2, rdM1 a1 c1] m0 _ hM (rd_small _ _ _ _ _ _) hm0 (by omega)
  clear q1 q2 q3 hS1 hS2 hS3
  go_wp2_with fail
  refine hg.mono ?_
  rintro e w5 ⟨⟨ga, gc, O, ids, rfl, hO, _, _, hids, hOe, _⟩, hf5⟩
  rw [rd_b3] at hids hOe
  obtain ⟨pa, pc, la, lc, rfl⟩ := one_arr2 hOe hids (rd_ids a1 a2 c1 c2) (rd_arr a1 a2 c1 c2)
  have hfw5 := hfw4.step hf5 (fun _ _ h => h)
  have hE8 := hE7.no hf5
  clear hg hids hOe hf5 hM hE7 hm0 hfw4 hx4 hE3 hfw3 y10 y11 y12 y13 y14 y15 y16 y20 y21 y22 y23 y24 y25 y26 y30 y31 y32 y33 y34 y35 y36
  obtain ⟨gb, go, m, rfl, hme, ⟨hP1, hL1⟩, hA1, _⟩ := hO.elem (k := 0) (by simp)
  obtain rfl : (⟨rdAr, pa, pc, la, lc⟩ : ArrM) = m := by simpa using hme
  obtain ⟨u0, u1, u2, u3, u4, u5⟩ := hA1
  simp only [Nat.zero_mul, Nat.add_zero, rdAr, List.length_cons, List.length_nil, Nat.zero_add, Nat.reduceAdd] at u0 u1 u2 u3 u4 u5 hP1 hL1
  clear hme
  have hx6 : Fr No w5 (w5.alloc (.cells #[.string kPb, .string ⟨#[]⟩, .string kPa] 9)) := (Fr.refl _ _).alloc _
  have hN : Strs (w5.alloc (.cells #[.string kPb, .string ⟨#[]⟩, .string kPa] 9)) (some ⟨w5.heap.size, 0, none⟩) 3 [kPb, ⟨#[]⟩, kPa] := Strs.of_block (l := [kPb, ⟨#[]⟩, kPa]) (block_alloc _ _) (by unfold maxLen; simp)
  have hst := same_texts pa (some ⟨w5.heap.size, 0, none⟩) pc 3 [kPb, ⟨#[]⟩, kPa] [kPb, ⟨#[]⟩, kPa] _ (hP1.no hx6 (fun _ => id)) hN
  rw [rd_same] at hst
  go_wp2_with fail
  refine hst.mono ?_
  rintro e w6 ⟨rfl, hf6⟩
  have hf56 := hx6.step hf6 (fun _ _ h => h)
  have hO6 := hO.no hf56 (fun _ => id)
  have hfw6 := hfw5.step hf56 (fun _ _ h => h)
  have v0 := hf56.cell u0 id
  have v1 := hf56.cell u1 id
  have v2 := hf56.cell u2 id
  have v3 := hf56.cell u3 id
  have v4 := hf56.cell u4 id
  have v5 := hf56.cell u5 id
  clear hst hx6 hN hf6 hf56 hfw5 hO u0 u1 u2 u3 u4 u5 hP1 hL1
  have hwt := a_watch none 0 [] (some ⟨gb, go, none⟩) gc [(⟨rdAr, pa, pc, la, lc⟩ : ArrM)] none 0 [] 5 10 w6 (Dls.nil _) hO6 (Strs.nil _) (by simp) (by simp) (by omega) (by omega) (by omega) (by omega)
  go_wp2_with fail
  refine hwt.mono ?_
  rintro e w7 ⟨⟨va, vc, V, rfl, hV, hVe⟩, hf7⟩
  rw [show ([(⟨rdAr, pa, pc, la, lc⟩ : ArrM)].map ArrM.toArr) = [rdAr] from rfl, rd_watch] at hVe
  subst hVe
  have hfw7 := hfw6.step hf7 (fun _ _ h => h)
  have u0 := hf7.cell v0 id
  have u1 := hf7.cell v1 id
  have u2 := hf7.cell v2 id
  have u3 := hf7.cell v3 id
  have u4 := hf7.cell v4 id
  have u5 := hf7.cell v5 id
  clear hwt hf7 hfw6 hO6 v0 v1 v2 v3 v4 v5
  have hnx := a_next va vc [⟨rdI, 15⟩] 5 w7 hV
  rw [rd_next] at hnx
  go_wp2_with fail
  refine hnx.mono ?_
  rintro e w8 ⟨hne, hf8⟩
  have hne' : e = .returned (.tuple #[.int .i64 15, .bool true]) := hne
  subst hne'
  have hfw8 := hfw7.step hf8 (fun _ _ h => h)
  have hV8 := hV.no hf8 (fun _ => id)
  have v0 := hf8.cell u0 id
  have v1 := hf8.cell u1 id
  have v2 := hf8.cell u2 id
  have v3 := hf8.cell u3 id
  have v4 := hf8.cell u4 id
  have v5 := hf8.cell u5 id
  clear hnx hne hf8 hfw7 hV u0 u1 u2 u3 u4 u5
  have hma := a_must rdI 3 2 2 pa 3 pc la lc [kFx] false false w8
  rw [show mustB 3 2 2 false false = false from rfl] at hma
  go_wp2_with fail
  refine hma.mono ?_
  rintro e w9 ⟨rfl, hf9⟩
  have hfw9 := hfw8.step hf9 (fun _ _ h => h)
  have hV9 := hV8.no hf9 (fun _ => id)
  have u0 := hf9.cell v0 id
  have u1 := hf9.cell v1 id
  have u2 := hf9.cell v2 id
  have u3 := hf9.cell v3 id
  have u4 := hf9.cell v4 id
  have u5 := hf9.cell v5 id
  clear hma hf9 hfw8 hV8 v0 v1 v2 v3 v4 v5
  have hmb := a_must rdI 3 2 2 pa 3 pc la lc [kFx] true false w9
  rw [show mustB 3 2 2 true false = true from rfl] at hmb
  go_wp2_with fail
  refine hmb.mono ?_
  rintro e w10 ⟨rfl, hf10⟩
  have hfw10 := hfw9.step hf10 (fun _ _ h => h)
  have hV10 := hV9.no hf10 (fun _ => id)
  clear hmb hf10 hfw9 hV9 u0 u1 u2 u3 u4 u5
  obtain ⟨db, doff, d', rfl, hdk, ⟨d0, d1⟩, _⟩ := hV10.elem (k := 0) (by simp)
  obtain rfl : (⟨rdI, 15⟩ : Dl) = d' := by simpa using hdk
  simp only [Nat.zero_mul, Nat.add_zero] at d0 d1
  have hea := a_expired (some ⟨db, doff, none⟩) vc [⟨rdI, 15⟩] 14 w10 hV10 (by simp) (by simp; decide)
  clear hdk
  go_wp2_with fail
  refine hea.mono ?_
  rintro e w11 ⟨⟨ea, ec, ids, rfl, hI, hIe, _⟩, hf11⟩
  obtain rfl := hIe.unique (rd_exp 14)
  have hfw11 := hfw10.step hf11 (fun _ _ h => h)
  have hV11 := hV10.no hf11 (fun _ => id)
  have heb := a_expired (some ⟨db, doff, none⟩) vc [⟨rdI, 15⟩] 15 w11 hV11 (by simp) (by simp; decide)
  rw [show ((if (15 : Int) ≤ 14 then [rdI] else [])).length = 0 from rfl]
  clear hea hI hIe hf11 hfw10 hV10 d0 d1
  go_wp2_with fail
  refine heb.mono ?_
  rintro e w12 ⟨⟨fa, fc, ids, rfl, hI, hIe, _⟩, hf12⟩
  obtain rfl := hIe.unique (rd_exp 15)
  have hfin := hfw11.step hf12 (fun _ _ h => h)
  rw [show ((if (15 : Int) ≤ 15 then [rdI] else [])).length = 1 from rfl]
  clear heb hI hIe hf12 hfw11 hV11
  go_wp2_with fail
  go_ret
  exact ⟨rfl, hfin⟩
end Go.Proofs.YtcibciippghooaaGreatDoor
