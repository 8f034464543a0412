/- known: the example of the chapter of layers. Path. layers, keys. keys. The order of members: total and strict on different paths; the best of a list does not depend on its order. Plain. Laws on layers: small lemmas. What the laid variables give to a law of the contents' chapters. The row's frame for a row that lists variables and whose walk wants the world's shape. Plain laws. -/
import Derived.Test.YtmieegcgeolckaaGreatDoorZ6
import Derived.Test.YtmieegcgeolckaaGreatDoorZ7
import Derived.Test.YtmieegcgeolckaaGreatDoorZ13
import Derived.Test.YtmieegcgeolckaaGreatDoorZ4
import Derived.Test.YtmieegcgeolckaaGreatDoorRows
import Derived.Shelf.Vars
import Derived.Stop.LaidErr
import Derived.MakeChecks
import Derived.Lib.LaidTab
import Derived.OpenShut
import Derived.LaidMore
import Derived.Lay
import Derived.HandedShaped
import Derived.Handed
namespace Go.Proofs.YtmieegcgeolckaaGreatDoor
open Go.RowKit Go.Maps
set_option linter.unusedVariables false

theorem of_known {w w' : World} {p s i t : ByteArray} {rd : Int} {e : Ending} {c : Ct} (h : OfRes w p s rd e w') (hp : parseC s = some c) (hk : c.kind = 3) (hi : c.id = i) (ht : c.inner.map Ct.txt = [t]) :
    ∃ a cap, e = .returned (.tuple #[.agg #[.string p, .string i, .int .i64 rd, .int .i64 0, .int .i64 0, .int .i64 0, .slice a 1 cap], .bool true]) ∧ Strs w' a cap [t] ∧ ∀ ad, a = some ad → w.heap.size ≤ ad.block := by
  rcases h with ⟨h1, _⟩ | ⟨c', a, cap, h1, _, h3, h4, h5⟩
  · exact absurd hk (h1 c hp)
  · rw [hp] at h1; cases h1
    have hl : c.inner.length = 1 := by have := congrArg List.length ht; simpa using this
    rw [ht] at h4
    rw [hi, hl] at h3
    exact ⟨a, cap, h3, h4, h5⟩
theorem kA1 : Ascii kT1 := fun j b h => (by decide : ∀ b ∈ kT1.data.toList, b.toNat < 128) b (List.mem_of_getElem? h)
theorem kA2 : Ascii kT2 := fun j b h => (by decide : ∀ b ∈ kT2.data.toList, b.toNat < 128) b (List.mem_of_getElem? h)
theorem kA3 : Ascii kT3 := fun j b h => (by decide : ∀ b ∈ kT3.data.toList, b.toNat < 128) b (List.mem_of_getElem? h)
theorem k_small (a1 a2 a3 : Option Addr) (c1 c2 c3 : Nat) : MemSmall (kL a1 a2 a3 c1 c2 c3) := by
  have h1 : kPa.size ≤ 1000000 ∧ kPb.size ≤ 1000000 ∧ kPd.size ≤ 1000000 ∧ kIc.size ≤ 1000000 ∧ kIe.size ≤ 1000000 := by decide
  refine ⟨by simp [kL], fun m hm => ?_, fun m hm => ?_, fun m hm => ?_⟩
  all_goals
    simp only [kL, List.mem_cons, List.not_mem_nil, or_false] at hm
    rcases hm with rfl | rfl | rfl
  all_goals first | exact h1.1 | exact h1.2.1 | exact h1.2.2.1 | exact h1.2.2.2.1 | exact h1.2.2.2.2 | simp

set_option maxRecDepth 100000 in
set_option maxHeartbeats 8000000 in
theorem known33 (w : World) (hE : Env w) : Calls Tryz.prog 15 #[] w fun e w' => e = .returned (.bool true) ∧ Fr No w w' := by
  have hof1 := crypt_of kPa kT1 0 w kA1 hE (by decide)
  go_enter Tryz.func15, Tryz.ntmps15
  go_wp2_with fail
  refine hof1.mono ?_
  rintro e w1 ⟨hr, hf1⟩
  obtain ⟨a1, c1, rfl, hS1, hF1⟩ := of_known (i := kIc) hr kP1 rfl rfl kX1
  clear hof1 hr
  have hE1 := hE.no hf1
  go_upto_region 2 with (fail)
  have hx1 : Fr No w1 (w1.alloc (.cells #[.string kPa, .string kIc, .int .i64 0, .int .i64 0, .int .i64 0, .int .i64 0, .slice a1 1 c1] 31)) := (Fr.refl _ _).alloc _
  have q1 := block_alloc w1 (.cells #[.string kPa, .string kIc, .int .i64 0, .int .i64 0, .int .i64 0, .int .i64 0, .slice a1 1 c1] 31)
  have hE2 := hE1.no hx1
  have hS1x := hS1.no hx1 (fun _ => id)
  have hfw := hf1.step hx1 (fun _ _ h => h)
  generalize w1.alloc (.cells #[.string kPa, .string kIc, .int .i64 0, .int .i64 0, .int .i64 0, .int .i64 0, .slice a1 1 c1] 31) = W1 at *
  clear hS1 hE1 hx1 hf1 hF1
  have hof2 := crypt_of kPb kT2 1 W1 kA2 hE2 (by decide)
  go_wp2_with fail
  refine hof2.mono ?_
  rintro e w2 ⟨hr, hf2⟩
  obtain ⟨a2, c2, rfl, hS2, hF2⟩ := of_known (i := kIc) hr kP2 rfl rfl kX2
  clear hof2 hr
  have hE3 := hE2.no hf2
  go_upto_region 3 with (fail)
  have hx2 : Fr No w2 (w2.alloc (.cells #[.string kPb, .string kIc, .int .i64 1, .int .i64 0, .int .i64 0, .int .i64 0, .slice a2 1 c2] 31)) := (Fr.refl _ _).alloc _
  have q2 := block_alloc w2 (.cells #[.string kPb, .string kIc, .int .i64 1, .int .i64 0, .int .i64 0, .int .i64 0, .slice a2 1 c2] 31)
  have hE4 := hE3.no hx2
  have hS2x := hS2.no hx2 (fun _ => id)
  have hf12 := hf2.step hx2 (fun _ _ h => h)
  have q1' := hf12.heap q1 id
  have hS1y := hS1x.no hf12 (fun _ => id)
  have hfw2 := hfw.step hf12 (fun _ _ h => h)
  generalize w2.alloc (.cells #[.string kPb, .string kIc, .int .i64 1, .int .i64 0, .int .i64 0, .int .i64 0, .slice a2 1 c2] 31) = W2 at *
  clear hS2 hE3 hx2 hf2 hF2 hE2 q1 hS1x hf12 hfw
  have hof3 := crypt_of kPd kT3 0 W2 kA3 hE4 (by decide)
  go_wp2_with fail
  refine hof3.mono ?_
  rintro e w3 ⟨hr, hf3⟩
  obtain ⟨a3, c3, rfl, hS3, hF3⟩ := of_known (i := kIe) hr kP3 rfl rfl kX3
  clear hof3 hr
  have hE5 := hE4.no hf3
  go_upto_region 4 with (fail)
  have hx3 : Fr No w3 (w3.alloc (.cells #[.string kPd, .string kIe, .int .i64 0, .int .i64 0, .int .i64 0, .int .i64 0, .slice a3 1 c3] 31)) := (Fr.refl _ _).alloc _
  have q3 := block_alloc w3 (.cells #[.string kPd, .string kIe, .int .i64 0, .int .i64 0, .int .i64 0, .int .i64 0, .slice a3 1 c3] 31)
  have hE6 := hE5.no hx3
  have hS3x := hS3.no hx3 (fun _ => id)
  have hf23 := hf3.step hx3 (fun _ _ h => h)
  have q1'' := hf23.heap q1' id
  have q2' := hf23.heap q2 id
  have hS1z := hS1y.no hf23 (fun _ => id)
  have hS2z := hS2x.no hf23 (fun _ => id)
  have hfw3 := hfw2.step hf23 (fun _ _ h => h)
  generalize w3.alloc (.cells #[.string kPd, .string kIe, .int .i64 0, .int .i64 0, .int .i64 0, .int .i64 0, .slice a3 1 c3] 31) = W3 at *
  clear hS3 hE5 hx3 hf3 hF3 hE4 q1' q2 hS1y hS2x hf23 hfw2
  have y10 : W3.cell? ⟨w1.heap.size, 0, none⟩ = some (.string kPa) := cell_of_block q1'' 0
  have y11 : W3.cell? ⟨w1.heap.size, 1, none⟩ = some (.string kIc) := cell_of_block q1'' 1
  have y12 : W3.cell? ⟨w1.heap.size, 2, none⟩ = some (.int .i64 0) := cell_of_block q1'' 2
  have y13 : W3.cell? ⟨w1.heap.size, 3, none⟩ = some (.int .i64 0) := cell_of_block q1'' 3
  have y14 : W3.cell? ⟨w1.heap.size, 4, none⟩ = some (.int .i64 0) := cell_of_block q1'' 4
  have y15 : W3.cell? ⟨w1.heap.size, 5, none⟩ = some (.int .i64 0) := cell_of_block q1'' 5
  have y16 : W3.cell? ⟨w1.heap.size, 6, none⟩ = some (.slice a1 1 c1) := cell_of_block q1'' 6
  have y20 : W3.cell? ⟨w2.heap.size, 0, none⟩ = some (.string kPb) := cell_of_block q2' 0
  have y21 : W3.cell? ⟨w2.heap.size, 1, none⟩ = some (.string kIc) := cell_of_block q2' 1
  have y22 : W3.cell? ⟨w2.heap.size, 2, none⟩ = some (.int .i64 1) := cell_of_block q2' 2
  have y23 : W3.cell? ⟨w2.heap.size, 3, none⟩ = some (.int .i64 0) := cell_of_block q2' 3
  have y24 : W3.cell? ⟨w2.heap.size, 4, none⟩ = some (.int .i64 0) := cell_of_block q2' 4
  have y25 : W3.cell? ⟨w2.heap.size, 5, none⟩ = some (.int .i64 0) := cell_of_block q2' 5
  have y26 : W3.cell? ⟨w2.heap.size, 6, none⟩ = some (.slice a2 1 c2) := cell_of_block q2' 6
  have y30 : W3.cell? ⟨w3.heap.size, 0, none⟩ = some (.string kPd) := cell_of_block q3 0
  have y31 : W3.cell? ⟨w3.heap.size, 1, none⟩ = some (.string kIe) := cell_of_block q3 1
  have y32 : W3.cell? ⟨w3.heap.size, 2, none⟩ = some (.int .i64 0) := cell_of_block q3 2
  have y33 : W3.cell? ⟨w3.heap.size, 3, none⟩ = some (.int .i64 0) := cell_of_block q3 3
  have y34 : W3.cell? ⟨w3.heap.size, 4, none⟩ = some (.int .i64 0) := cell_of_block q3 4
  have y35 : W3.cell? ⟨w3.heap.size, 5, none⟩ = some (.int .i64 0) := cell_of_block q3 5
  have y36 : W3.cell? ⟨w3.heap.size, 6, none⟩ = some (.slice a3 1 c3) := cell_of_block q3 6
  clear q1'' q2' q3
  go_upto_region 5 with (fail)
  have hx4 : Fr No W3 (W3.alloc (.cells (mflat (kL a1 a2 a3 c1 c2 c3)).toArray 31)) := (Fr.refl _ _).alloc _
  have hM : Mems (W3.alloc (.cells (mflat (kL a1 a2 a3 c1 c2 c3)).toArray 31)) (some ⟨W3.heap.size, 0, none⟩) 3 (kL a1 a2 a3 c1 c2 c3) := Mems.of_block (block_alloc _ _) (by unfold maxLen kL; simp) (fun m hm => by
    simp only [kL, List.mem_cons, List.not_mem_nil, or_false] at hm
    rcases hm with rfl | rfl | rfl
    · exact hS1z.no hx4 (fun _ => id)
    · exact hS2z.no hx4 (fun _ => id)
    · exact hS3x.no hx4 (fun _ => id))
  have hE7 := hE6.no hx4
  have hfw4 := hfw3.step hx4 (fun _ _ h => h)
  change Code.wp _ _ _ _ (W3.alloc (.cells (mflat (kL a1 a2 a3 c1 c2 c3)).toArray 31))
  generalize W3.alloc (.cells (mflat (kL a1 a2 a3 c1 c2 c3)).toArray 31) = W4 at *
  clear hx4 hfw3 hE6 hS1z hS2z hS3x
  clear y10 y11 y12 y13 y14 y15 y16 y20 y21 y22 y23 y24 y25 y26 y30 y31 y32 y33 y34 y35 y36
  obtain ⟨m0, hm0⟩ := hE7.len
  have hsz := hE7.sz
  have hsz4 := hfw4.size
  have hx5 : Fr No W4 (W4.alloc (.cells #[.string ⟨#[99]⟩, .string ⟨#[120]⟩] 9)) := (Fr.refl _ _).alloc _
  have hK5 : Strs (W4.alloc (.cells #[.string ⟨#[99]⟩, .string ⟨#[120]⟩] 9)) (some ⟨W4.heap.size, 0, none⟩) 2 [kIc, kIx] := Strs.of_block (l := [kIc, kIx]) (block_alloc _ _) (by unfold maxLen; simp)
  have hkz : ∀ x ∈ [kIc, kIx], x.size ≤ maxLen := fun x hx => by have : x.size ≤ 1 := (by decide : ∀ x ∈ [kIc, kIx], x.size ≤ 1) x hx; unfold maxLen; omega
  have hop := c_open (some ⟨W3.heap.size, 0, none⟩) 3 (kL a1 a2 a3 c1 c2 c3) (some ⟨W4.heap.size, 0, none⟩) 2 [kIc, kIx] 2 m0 _ (hM.no hx5 (fun _ => id)) (k_small _ _ _ _ _ _) hK5 (by simp) hkz (hx5.cell hm0 id) (by have := hx5.size; omega)
  go_wp2_with fail
  refine hop.mono ?_
  rintro e w5 ⟨⟨va, vc, V, ids, rfl, hV, hVf, hids, hVe, _⟩, hf5⟩
  rw [k_ids_is _ _ _ _ _ _ hids, k_opened] at hVe
  subst hVe
  clear hop hids hK5
  have hf45 := hx5.step hf5 (fun _ _ h => h)
  have hM5 := hM.no hf45 (fun _ => id)
  have hm5 := hf45.cell hm0 id
  have hfw5 := hfw4.step hf45 (fun _ _ h => h)
  have hsz5 := hf45.size
  clear hx5 hf5 hf45 hM hm0 hfw4 hE7
  have how := c_owners (some ⟨W3.heap.size, 0, none⟩) 3 (kL a1 a2 a3 c1 c2 c3) m0 w5 hM5 (k_small _ _ _ _ _ _) hm5 (by omega)
  go_wp2_with fail
  refine how.mono ?_
  rintro e w6 ⟨⟨oa, oc, O, ids, rfl, hO, _, _, hids, hOe, _⟩, hf6⟩
  have hO2 : O.length = 2 := by rw [own_len hOe, k_ids_is _ _ _ _ _ _ hids]; rfl
  rw [hO2]
  have hV6 := hV.no hf6 (fun _ => id)
  obtain ⟨vb, vo, v0, rfl, hv0, hat, _⟩ := hV6.elem (k := 0) (by simp)
  have hM6 := hM5.no hf6 (fun _ => id)
  have hm6 := hf6.cell hm5 id
  have hfw6 := hfw5.step hf6 (fun _ _ h => h)
  have hsz6 := hf6.size
  obtain rfl : v0 = ⟨⟨#[]⟩, kOc, kFx, 2⟩ := by simpa using hv0.symm
  obtain ⟨v1, v2, v3, v4⟩ := hat
  simp only [Nat.zero_mul, Nat.add_zero] at v1 v2 v3 v4
  have hx7 : Fr No w6 (w6.alloc (.cells #[.string ⟨#[99]⟩, .string ⟨#[120]⟩] 9)) := (Fr.refl _ _).alloc _
  have hK7 : Strs (w6.alloc (.cells #[.string ⟨#[99]⟩, .string ⟨#[120]⟩] 9)) (some ⟨w6.heap.size, 0, none⟩) 2 [kIc, kIx] := Strs.of_block (l := [kIc, kIx]) (block_alloc _ _) (by unfold maxLen; simp)
  have hak := c_asks (some ⟨W3.heap.size, 0, none⟩) 3 (kL a1 a2 a3 c1 c2 c3) (some ⟨w6.heap.size, 0, none⟩) 2 [kIc, kIx] m0 _ (hM6.no hx7 (fun _ => id)) (k_small _ _ _ _ _ _) hK7 (by simp) hkz (hx7.cell hm6 id) (by have := hx7.size; omega)
  clear how hO hids hOe hO2 hV6 hV hv0 hM6 hM5 hm5 hf6 hfw5 hVf
  have ho1 : kOc.toList = [111, 112, 101, 110, 45, 99] := by rw [ByteArray.toList_eq]; rfl
  have ho2 : kFx.toList = [102, 115, 58, 120, 58] := by rw [ByteArray.toList_eq]; rfl
  go_wp2_with fail
  refine hak.mono ?_
  rintro e w8 ⟨⟨xa, xc, X, ids, rfl, hX, _, hids, hXe, _⟩, hf8⟩
  rw [k_ids_is _ _ _ _ _ _ hids, k_asked] at hXe
  subst hXe
  have hf68 := hx7.step hf8 (fun _ _ h => h)
  have hfw8 := hfw6.step hf68 (fun _ _ h => h)
  have hx9 : Fr No w8 (w8.alloc (.cells #[.string ⟨#[101]⟩] 9)) := (Fr.refl _ _).alloc _
  have hE9 : Strs (w8.alloc (.cells #[.string ⟨#[101]⟩] 9)) (some ⟨w8.heap.size, 0, none⟩) 1 [kIe] := Strs.of_block (l := [kIe]) (block_alloc _ _) (by unfold maxLen; simp)
  have hst := same_texts xa (some ⟨w8.heap.size, 0, none⟩) xc 1 [kIe] [kIe] _ (hX.no hx9 (fun _ => id)) hE9
  rw [show sameT [kIe] [kIe] = true by unfold sameT; simp] at hst
  have hfw9 := hfw8.step hx9 (fun _ _ h => h)
  clear hak hx7 hK7 hids hX hf8 hf68 hfw8 hx9 hE9 v1 v2 v3 v4
  go_wp2_with fail
  refine hst.mono ?_
  rintro e w9 ⟨rfl, hf9⟩
  have hfin := hfw9.step hf9 (fun _ _ h => h)
  clear hst hf9 hfw9
  go_wp2_with fail
  go_ret
  exact ⟨rfl, hfin⟩
end Go.Proofs.YtmieegcgeolckaaGreatDoor
namespace Go.Proofs.YtmieegcgeolckaaGreatDoor
open Go.RowKit Go.Maps
set_option linter.unusedVariables false

def pathNames : List ByteArray := [⟨#[97]⟩, ⟨#[98]⟩, ⟨#[115, 100]⟩, ⟨#[112, 49]⟩, ⟨#[97, 95, 98]⟩, ⟨#[120, 33, 121]⟩, ⟨#[65, 45, 49]⟩]
theorem pathNames_size : ∀ s ∈ pathNames, s.size ≤ 3 := by decide
set_option maxRecDepth 100000 in
set_option maxHeartbeats 1000000 in
theorem made_path (B tb k : Nat) (w : World) (ht : Tape w B tb k) (hk : k ≤ 1000000) :
    Calls Tryz.prog 48 #[.pointer (some ⟨tb, 0, none⟩)] w fun e w' => (∃ s k', e = .returned (.string s) ∧ s.size ≤ 100 ∧ k' ≤ k + 4 ∧ Tape w' B tb k') ∧ Fr (Is tb) w w' := by
  go_enter Tryz.func48, Tryz.ntmps48
  go_wp2_with fail
  refine (tape_next B tb k 3 _ ht (by omega) (by omega) (by omega)).mono ?_
  rintro e w1 ⟨r, rfl, hr1, hr2, ht1, hf1⟩
  obtain ⟨r, rfl⟩ := Int.eq_ofNat_of_zero_le hr1
  go_wp2_with fail
  go_loopw [3, 4] (fun v i wr => ∃ (x : ByteArray) (j kk : Nat), v = .string x ∧ i = .int .i64 (j : Int) ∧ j ≤ 3 ∧ x.size + 10 * j ≤ 30 ∧ kk + j ≤ k + 4 ∧ Tape wr B tb kk ∧ Fr (Is tb) w wr) (fun _ i _ => (intOf i).toNat)
  case atStart => exact ⟨⟨#[]⟩, 1 + r, k + 1, rfl, by go_num, by omega, by show 0 + 10 * (1 + r) ≤ 30; omega, by omega, ht1, hf1⟩
  case round =>
    obtain ⟨x, j, kk, rfl, rfl, hj, hx, hkk, htr, hf⟩ := hrel
    by_cases hlt : 0 < j
    · have hlt' : (0 : Int) < j := by omega
      have hs := Strs.of_block (l := pathNames) (block_alloc wr (.cells (pathNames.map Value.string).toArray 9)) (by unfold maxLen pathNames; simp)
      have hfx : Fr No wr (wr.alloc (.cells (pathNames.map Value.string).toArray 9)) := (Fr.refl _ _).alloc _
      have htl := htr.lt
      have hone := tape_one B tb kk (some ⟨wr.heap.size, 0, none⟩) 7 pathNames _ (htr.fr hfx (fun _ _ => id) id) (by omega) hs (by decide) (by decide) (fun ad e => by cases e; show wr.heap.size ≠ tb; omega)
      have Hf := Lib.hid (hf.step hfx (fun _ _ h => h.elim))
      clear hs htr hf hfx
      go_wp2_with fail
      refine hone.mono ?_
      rintro e w2 ⟨⟨y, rfl, hy⟩, ht2, hf2⟩
      have hys := pathNames_size y hy
      have hz1 : ¬ 9223372036854775807 < 1 + y.size := by omega
      have hz2 : ¬ 9223372036854775807 < x.size + (1 + y.size) := by omega
      have Hf2 := Lib.hid (Hf.out.step hf2 (fun _ _ h => h))
      clear hone hy hf2
      go_wp2_with fail
      go_roundw
      case rel => exact ⟨x ++ (⟨#[47]⟩ ++ y), j - 1, kk + 1, rfl, by go_num, by omega, by simp only [ByteArray.size_append]; show x.size + (1 + y.size) + _ ≤ _; omega, by omega, ht2, Hf2.out⟩
      case measure => simp [intOf]; omega
    · obtain rfl : j = 0 := by omega
      go_wp2_with fail
      go_ret
      exact ⟨⟨x, kk, rfl, by omega, by omega, htr⟩, hf⟩
end Go.Proofs.YtmieegcgeolckaaGreatDoor
namespace Go.Proofs.YtmieegcgeolckaaGreatDoor
open Go.RowKit Go.Maps
set_option linter.unusedVariables false

/-- A layer that layers makes. -/
structure LayOk (m : Mem) : Prop where
  p : m.p.size ≤ 100
  i : m.i.size ≤ 2
  n : m.l.length ≤ 1
  l : ∀ x ∈ m.l, x.size ≤ 5
def layIds : List ByteArray := [⟨#[97]⟩, ⟨#[98]⟩, ⟨#[99]⟩, ⟨#[99, 49]⟩]
def layIn : List ByteArray := [⟨#[]⟩, ⟨#[102, 115, 58, 120, 58]⟩, ⟨#[102, 115, 58, 121, 58]⟩]
def layPaths : List ByteArray := [⟨#[120]⟩, ⟨#[]⟩, ⟨#[47, 97, 47]⟩, ⟨#[47, 97, 32, 98]⟩]
theorem layIds_size : ∀ s ∈ layIds, s.size ≤ 2 := by decide
theorem layIn_size : ∀ s ∈ layIn, s.size ≤ 5 := by decide
theorem layPaths_size : ∀ s ∈ layPaths, s.size ≤ 4 := by decide
/-- What layers answers. -/
def LayRes (w : World) (B tb k : Nat) (e : Ending) (w' : World) : Prop :=
  ∃ (L : List Mem) (a' : Option Addr) (c' k' : Nat), e = .returned (.slice a' L.length c') ∧ Mems w' a' c' L ∧ (∀ ad, a' = some ad → w.heap.size ≤ ad.block) ∧ MFresh w' w.heap.size L ∧ (∀ m ∈ L, LayOk m) ∧ L.length ≤ 8 ∧ k' ≤ k + 100 ∧ Tape w' B tb k'

set_option maxRecDepth 100000 in
set_option maxHeartbeats 8000000 in
theorem made_layers (B tb k : Nat) (w : World) (ht : Tape w B tb k) (hk : k ≤ 100000) :
    Calls Tryz.prog 21 #[.pointer (some ⟨tb, 0, none⟩), .int .i64 8] w fun e w' => LayRes w B tb k e w' ∧ Fr (Is tb) w w' := by
  obtain ⟨i0, hi0, hz0, hz1, hz2⟩ := info_parts infoM
  have htl := ht.lt
  have hBt := ht.le
  go_enter Tryz.func21, Tryz.ntmps21
  go_wp2_with fail
  refine (tape_next B tb k 9 _ ht (by omega) (by omega) (by omega)).mono ?_
  rintro e w1 ⟨r, rfl, hr1, hr2, ht1, hf1⟩
  obtain ⟨r, rfl⟩ := Int.eq_ofNat_of_zero_le hr1
  have hf1' : Fr (TB tb w.heap.size) w w1 := hf1.mono (fun b _ h => .inl h)
  go_wp2_with fail
  go_loopw [5, 6] (fun v i wr => ∃ (L : List Mem) (av : Option Addr) (cv j kk : Nat), v = .slice av L.length cv ∧ i = .int .i64 (j : Int) ∧ L.length + j ≤ 8 ∧ kk + 10 * j ≤ k + 100 ∧ wr.ownsRow w.heap.size 31 7 (.slice av L.length cv) L.length (mflat L) ∧ MFresh wr w.heap.size L ∧ Hid (∀ m ∈ L, LayOk m) ∧ Tape wr B tb kk ∧ Fr (TB tb w.heap.size) w wr) (fun _ i _ => (intOf i).toNat)
  case atStart => exact ⟨[], none, 0, r, k + 1, rfl, rfl, by simp; omega, by omega, World.ownsRow_nil _ _ _ _, fun m hm => by simp at hm, fun m hm => by simp at hm, ht1, hf1'⟩
  case round =>
    obtain ⟨L, av, cv, j, kk, rfl, rfl, hLj, hkk, hown, hMF, Hsm, htr, hf⟩ := hrel
    by_cases hlt : 0 < j
    · have hlt' : (0 : Int) < j := by omega
      have hpath := made_path B tb kk wr htr (by omega)
      have hsr := hf.size
      clear htr
      go_wp2_with fail
      refine hpath.mono ?_
      rintro e w2 ⟨⟨p, k2, rfl, hp, hk2, ht2⟩, hf2⟩
      have hown2 := ownsRow_at hown hf2 (fun b h e => by have h1 := ownsRow_blk hown h; unfold From at h1; unfold Is at e; omega)
      have hMF2 := hMF.fr hf2 (fun b h1 h2 e => by unfold Is at e; omega)
      have hff2 : Fr (TB tb w.heap.size) w w2 := hf.step hf2 (fun b _ h => .inl h)
      have hs2 := hf2.size
      clear hpath hf2 hown hMF hf
      have hS2 := Strs.of_block (l := layIds) (block_alloc w2 (.cells (layIds.map Value.string).toArray 9)) (by unfold maxLen layIds; simp)
      have hx2 : Fr No w2 (w2.alloc (.cells (layIds.map Value.string).toArray 9)) := (Fr.refl _ _).alloc _
      have hone := tape_one B tb k2 (some ⟨w2.heap.size, 0, none⟩) 4 layIds _ (ht2.fr hx2 (fun _ _ => id) id) (by omega) hS2 (by decide) (by decide) (fun ad e => by cases e; show w2.heap.size ≠ tb; omega)
      go_wp2_with fail
      refine hone.mono ?_
      rintro e w3 ⟨⟨y, rfl, hy⟩, ht3, hf3⟩
      have hys := layIds_size y hy
      have hf23 : Fr (Is tb) w2 w3 := (hx2.mono (fun _ _ h => h.elim)).step hf3 (fun _ _ h => h)
      clear hone hS2 hx2 hf3 ht2 hy
      go_wp2_with fail
      refine (tape_next B tb (k2 + 1) 3 _ ht3 (by omega) (by omega) (by omega)).mono ?_
      rintro e w4 ⟨rd, rfl, hrd1, hrd2, ht4, hf4⟩
      have hf24 := hf23.step hf4 (fun _ _ h => h)
      have hs4 := hf24.size
      clear hf23 hf4 ht3
      have hS4 := Strs.of_block (l := layIn) (block_alloc w4 (.cells (layIn.map Value.string).toArray 9)) (by unfold maxLen layIn; simp)
      have hx4 : Fr No w4 (w4.alloc (.cells (layIn.map Value.string).toArray 9)) := (Fr.refl _ _).alloc _
      have hone := tape_one B tb (k2 + 1 + 1) (some ⟨w4.heap.size, 0, none⟩) 3 layIn _ (ht4.fr hx4 (fun _ _ => id) id) (by omega) hS4 (by decide) (by decide) (fun ad e => by cases e; show w4.heap.size ≠ tb; omega)
      go_wp2_with fail
      refine hone.mono ?_
      rintro e w6 ⟨⟨z, rfl, hz⟩, ht6, hf6⟩
      have hzs := layIn_size z hz
      have hf26 : Fr (Is tb) w2 w6 := (hf24.step hx4 (fun _ _ h => h.elim)).step hf6 (fun _ _ h => h)
      clear hone hS4 hx4 hf6 ht4 hz hf24
      have hs6 := hf26.size
      go_upto_region 6 with (fail)
      have hx7 : Fr No w6 ((w6.alloc (.cells #[.string z] 9)).alloc (.cells #[.string p, .string y, .int .i64 rd, .int .i64 0, .int .i64 0, .int .i64 0, .slice (some ⟨w6.heap.size, 0, none⟩) 1 1] 31)) := ((Fr.refl _ _).alloc _).alloc _
      have q1 := block_alloc1 w6 (.cells #[.string z] 9) (.cells #[.string p, .string y, .int .i64 rd, .int .i64 0, .int .i64 0, .int .i64 0, .slice (some ⟨w6.heap.size, 0, none⟩) 1 1] 31)
      have q2 := block_alloc2 w6 (.cells #[.string z] 9) (.cells #[.string p, .string y, .int .i64 rd, .int .i64 0, .int .i64 0, .int .i64 0, .slice (some ⟨w6.heap.size, 0, none⟩) 1 1] 31)
      have hs7 : ((w6.alloc (.cells #[.string z] 9)).alloc (.cells #[.string p, .string y, .int .i64 rd, .int .i64 0, .int .i64 0, .int .i64 0, .slice (some ⟨w6.heap.size, 0, none⟩) 1 1] 31)).heap.size = w6.heap.size + 2 := by simp
      generalize (w6.alloc (.cells #[.string z] 9)).alloc (.cells #[.string p, .string y, .int .i64 rd, .int .i64 0, .int .i64 0, .int .i64 0, .slice (some ⟨w6.heap.size, 0, none⟩) 1 1] 31) = W7 at *
      have hs7' : w6.heap.size + 2 ≤ W7.heap.size := by omega
      clear hs7
      have hf27 : Fr (Is tb) w2 W7 := hf26.step hx7 (fun _ _ h => h.elim)
      have ht7 := ht6.fr hx7 (fun _ _ => id) id
      clear ht6 hx7 hf26
      go_wp2_with fail
      refine (tape_next B tb (k2 + 1 + 1 + 1) 14 _ ht7 (by omega) (by omega) (by omega)).mono ?_
      rintro e w8 ⟨r8, rfl, hr81, hr82, ht8, hf8⟩
      have q1' := hf8.heap q1 (fun e => by unfold Is at e; omega)
      have q2' := hf8.heap q2 (fun e => by unfold Is at e; omega)
      have hf28 := hf27.step hf8 (fun _ _ h => h)
      have hs8 := hf8.size
      have hown8 := ownsRow_at hown2 hf28 (fun b h e => by have h1 := ownsRow_blk hown2 h; unfold From at h1; unfold Is at e; omega)
      have hMF8 := hMF2.fr hf28 (fun b h1 h2 e => by unfold Is at e; omega)
      have hff8 : Fr (TB tb w.heap.size) w w8 := hff2.step hf28 (fun b _ h => .inl h)
      have hnb : ∀ b, (Value.slice av L.length cv).ownBlock = some b → b < w2.heap.size := fun b h => ownsRow_lt hown2 h
      have Hnb := Lib.hid hnb
      have hB8 : BlkT w8 (some ⟨w6.heap.size, 0, none⟩) 9 := fun ad e => by cases e; exact ⟨_, q1'⟩
      have hS8 := Strs.of_block (l := [z]) q1' (by unfold maxLen; simp)
      have Hf28 := Lib.hid hf28
      have Hown2 := Lib.hid hown2
      have HMF2 := Lib.hid hMF2
      have Hff2 := Lib.hid hff2
      clear hf27 hf8 q1 q2 hown2 hMF2 hff2 hf28 ht7 hnb
      rcases hr0 : (r8 == 0) with _ | _
      · rcases hr1' : (r8 == 1) with _ | _
        · -- nothing more
          have Hf8 := Lib.hid hff8
          have Hown8 := Lib.hid hown8
          have HMF8 := Lib.hid hMF8
          have Ht8 := Lib.hid ht8
          have HS8 := Lib.hid hS8
          have HB8 := Lib.hid hB8
          clear hff8 hown8 hMF8 ht8 hS8 hB8 q1'
          have y0 : w8.cell? ⟨w6.heap.size + 1, 0, none⟩ = some (.string p) := cell_of_block q2' 0
          have y1 : w8.cell? ⟨w6.heap.size + 1, 1, none⟩ = some (.string y) := cell_of_block q2' 1
          have y2 : w8.cell? ⟨w6.heap.size + 1, 2, none⟩ = some (.int .i64 rd) := cell_of_block q2' 2
          have y3 : w8.cell? ⟨w6.heap.size + 1, 3, none⟩ = some (.int .i64 0) := cell_of_block q2' 3
          have y4 : w8.cell? ⟨w6.heap.size + 1, 4, none⟩ = some (.int .i64 0) := cell_of_block q2' 4
          have y5 : w8.cell? ⟨w6.heap.size + 1, 5, none⟩ = some (.int .i64 0) := cell_of_block q2' 5
          have y6 : w8.cell? ⟨w6.heap.size + 1, 6, none⟩ = some (.slice (some ⟨w6.heap.size, 0, none⟩) 1 1) := cell_of_block q2' 6
          have hsz := Hf8.out.size
          clear q2'
          go_wp2_with (at_builtin; refine wpList_append_own _ rfl _ _ 36 rfl w.heap.size 31 i0 (.agg #[.string ByteArray.empty, .string ByteArray.empty, .int .i64 0, .int .i64 0, .int .i64 0, .int .i64 0, .slice none 0 0]) 7 88 Tryz.underlying36 hi0 hz0 hz1 hz2 rfl (by decide) _ _ _ rfl (Hown8.out.alloc _) ⟨w8.heap.size, 0, none⟩ 1 1 (Mem.vals ⟨p, y, rd, 0, 0, 0, (some ⟨w6.heap.size, 0, none⟩), [z], 1⟩).toList rfl rfl (cells_new _ (Mem.vals ⟨p, y, rd, 0, 0, 0, (some ⟨w6.heap.size, 0, none⟩), [z], 1⟩) _ rfl) (mvals_one _) (by unfold maxLen; omega) (by omega) (by first | omega | (simp; done) | (simp; omega)) ?_; intro v' w9 hown9 hgrow9 _; obtain ⟨av', cv', rfl⟩ := ownsRow_slice hown9)
          have hal : Fr No w8 (w8.alloc (.cells #[.string p, .string y, .int .i64 rd, .int .i64 0, .int .i64 0, .int .i64 0, .slice (some ⟨w6.heap.size, 0, none⟩) 1 1] 31)) := (Fr.refl _ _).alloc _
          have howa := Hown8.out.alloc (.cells #[.string p, .string y, .int .i64 rd, .int .i64 0, .int .i64 0, .int .i64 0, .slice (some ⟨w6.heap.size, 0, none⟩) 1 1] 31)
          have hgf : Fr (fun b => (Value.slice av L.length cv).ownBlock = some b) (w8.alloc (.cells #[.string p, .string y, .int .i64 rd, .int .i64 0, .int .i64 0, .int .i64 0, .slice (some ⟨w6.heap.size, 0, none⟩) 1 1] 31)) w9 := Fr.of_grown hgrow9
          have hMF9 : MFresh w9 w.heap.size (L ++ [⟨p, y, rd, 0, 0, 0, (some ⟨w6.heap.size, 0, none⟩), [z], 1⟩]) :=
            MFresh.own (MFresh.snoc (HMF8.out.fr hal (fun _ _ _ => id)) (HS8.out.no hal (fun _ => id)) (HB8.out.fr hal (fun _ _ => id)) (fun ad e => by cases e; show w.heap.size ≤ w6.heap.size; omega)) howa hgf
          have hsm9 : ∀ m ∈ L ++ [(⟨p, y, rd, 0, 0, 0, (some ⟨w6.heap.size, 0, none⟩), [z], 1⟩ : Mem)], LayOk m := fun m hm => by
            rcases List.mem_append.1 hm with h | h
            · exact Hsm.out m h
            · obtain rfl : m = ⟨p, y, rd, 0, 0, 0, (some ⟨w6.heap.size, 0, none⟩), [z], 1⟩ := by simpa using h
              exact ⟨hp, hys, Nat.le_refl _, fun x hx => by obtain rfl : x = z := (by simpa using hx); exact hzs⟩
          have ht9 := (Ht8.out.fr hal (fun _ _ => id) id).fr hgf (fun b hb h => by have h2 := ownsRow_blk howa h; unfold From at h2; omega) (fun h => by have h2 := ownsRow_blk howa h; unfold From at h2; omega)
          have hf9 : Fr (TB tb w.heap.size) w w9 := (Hf8.out.step hal (fun _ _ h => h.elim)).step hgf (fun b _ h => .inr (ownsRow_blk howa h))
          have HF := Lib.hid (And.intro hown9 (And.intro hMF9 (And.intro hsm9 (And.intro ht9 hf9))))
          clear hown9 hMF9 hsm9 ht9 hf9 hgf howa hal hgrow9
          go_roundw
          case rel => exact ⟨L ++ [⟨p, y, rd, 0, 0, 0, (some ⟨w6.heap.size, 0, none⟩), [z], 1⟩], av', cv', j - 1, k2 + 1 + 1 + 1 + 1, by simp, by go_num, by simp; omega, by omega, by rw [List.length_append, mflat_snoc]; exact HF.out.1, HF.out.2.1, Lib.hid HF.out.2.2.1, HF.out.2.2.2.1, HF.out.2.2.2.2⟩
          case measure => simp [intOf]; omega
        · -- another path
          have hS9 := Strs.of_block (l := layPaths) (block_alloc w8 (.cells (layPaths.map Value.string).toArray 9)) (by unfold maxLen layPaths; simp)
          have hx9 : Fr No w8 (w8.alloc (.cells (layPaths.map Value.string).toArray 9)) := (Fr.refl _ _).alloc _
          have hone := tape_one B tb (k2 + 1 + 1 + 1 + 1) (some ⟨w8.heap.size, 0, none⟩) 4 layPaths _ (ht8.fr hx9 (fun _ _ => id) id) (by omega) hS9 (by decide) (by decide) (fun ad e => by cases e; show w8.heap.size ≠ tb; omega)
          have q3 := hx9.heap q2' id
          have q3' := hx9.heap q1' id
          have hfx : Fr (TB tb w2.heap.size) w2 (w8.alloc (.cells (layPaths.map Value.string).toArray 9)) := (Hf28.out.mono (fun b _ h => .inl h)).step hx9 (fun _ _ h => h.elim)
          have hxs : (w8.alloc (.cells (layPaths.map Value.string).toArray 9)).heap.size = w8.heap.size + 1 := by simp
          clear hx9 hS9 hff8 hown8 hMF8 q1' q2' ht8 hS8 hB8
          go_wp2_with fail
          refine hone.mono ?_
          rintro e wa ⟨⟨s, rfl, hs⟩, hta, hfa⟩
          have hss := layPaths_size s hs
          have q4 := hfa.heap q3 (fun e => by unfold Is at e; omega)
          have q4' := hfa.heap q3' (fun e => by unfold Is at e; omega)
          have hsa := hfa.size
          have q5 := block_setCell q4 0 (.string s)
          have z0 : wa.frozen? ⟨w6.heap.size + 1, 0, none⟩ = false := free_of_block q4 0
          have z1 : wa.cell? ⟨w6.heap.size + 1, 0, none⟩ = some (.string p) := cell_of_block q4 0
          have hfs : Fr (Is (w6.heap.size + 1)) wa (wa.setCell ⟨w6.heap.size + 1, 0, none⟩ (.string s)) := Fr.setCell (S := Is (w6.heap.size + 1)) (p := ⟨w6.heap.size + 1, 0, none⟩) (Fr.refl _ _) (fun _ => rfl) _
          have q5' := hfs.heap q4' (fun e => by unfold Is at e; omega)
          have htb := hta.fr hfs (fun b hb e => by unfold Is at e; omega) (fun e => by unfold Is at e; omega)
          have hf2b : Fr (TB tb w2.heap.size) w2 (wa.setCell ⟨w6.heap.size + 1, 0, none⟩ (.string s)) := (hfx.step hfa (fun b _ h => .inl h)).step hfs (fun b _ h => by unfold Is at h; exact .inr (by omega))
          clear hone q3 q3' q4 q4' hs hfx hfa hfs hta hxs
          go_upto_region 11 with (fail)
          generalize wa.setCell ⟨w6.heap.size + 1, 0, none⟩ (.string s) = Wb at *
          have Hown9 := Lib.hid (ownsRow_at Hown2.out hf2b (fun b h e => by have h1 := ownsRow_blk Hown2.out h; have h2 := ownsRow_lt Hown2.out h; unfold From at h1; unfold TB at e; omega))
          have HMF9 := Lib.hid (HMF2.out.fr hf2b (fun b h1 h2 e => by unfold TB at e; omega))
          have Hf9 := Lib.hid (Hff2.out.step hf2b (fun b _ h => by unfold TB at h ⊢; omega))
          have HB9 : Hid (BlkT Wb (some ⟨w6.heap.size, 0, none⟩) 9) := fun ad e => by cases e; exact ⟨_, q5'⟩
          have HS9 : Hid (Strs Wb (some ⟨w6.heap.size, 0, none⟩) 1 [z]) := Strs.of_block (l := [z]) q5' (by unfold maxLen; simp)
          have Ht9 := Lib.hid htb
          simp at q5
          clear z0 z1 hf2b q5' htb
          have y0 : Wb.cell? ⟨w6.heap.size + 1, 0, none⟩ = some (.string s) := cell_of_block q5 0
          have y1 : Wb.cell? ⟨w6.heap.size + 1, 1, none⟩ = some (.string y) := cell_of_block q5 1
          have y2 : Wb.cell? ⟨w6.heap.size + 1, 2, none⟩ = some (.int .i64 rd) := cell_of_block q5 2
          have y3 : Wb.cell? ⟨w6.heap.size + 1, 3, none⟩ = some (.int .i64 0) := cell_of_block q5 3
          have y4 : Wb.cell? ⟨w6.heap.size + 1, 4, none⟩ = some (.int .i64 0) := cell_of_block q5 4
          have y5 : Wb.cell? ⟨w6.heap.size + 1, 5, none⟩ = some (.int .i64 0) := cell_of_block q5 5
          have y6 : Wb.cell? ⟨w6.heap.size + 1, 6, none⟩ = some (.slice (some ⟨w6.heap.size, 0, none⟩) 1 1) := cell_of_block q5 6
          have hsz := Hf9.out.size
          clear q5
          go_wp2_with (at_builtin; refine wpList_append_own _ rfl _ _ 36 rfl w.heap.size 31 i0 (.agg #[.string ByteArray.empty, .string ByteArray.empty, .int .i64 0, .int .i64 0, .int .i64 0, .int .i64 0, .slice none 0 0]) 7 88 Tryz.underlying36 hi0 hz0 hz1 hz2 rfl (by decide) _ _ _ rfl (Hown9.out.alloc _) ⟨Wb.heap.size, 0, none⟩ 1 1 (Mem.vals ⟨s, y, rd, 0, 0, 0, (some ⟨w6.heap.size, 0, none⟩), [z], 1⟩).toList rfl rfl (cells_new _ (Mem.vals ⟨s, y, rd, 0, 0, 0, (some ⟨w6.heap.size, 0, none⟩), [z], 1⟩) _ rfl) (mvals_one _) (by unfold maxLen; omega) (by omega) (by first | omega | (simp; done) | (simp; omega)) ?_; intro v' w9 hown9 hgrow9 _; obtain ⟨av', cv', rfl⟩ := ownsRow_slice hown9)
          have hal : Fr No Wb (Wb.alloc (.cells #[.string s, .string y, .int .i64 rd, .int .i64 0, .int .i64 0, .int .i64 0, .slice (some ⟨w6.heap.size, 0, none⟩) 1 1] 31)) := (Fr.refl _ _).alloc _
          have howa := Hown9.out.alloc (.cells #[.string s, .string y, .int .i64 rd, .int .i64 0, .int .i64 0, .int .i64 0, .slice (some ⟨w6.heap.size, 0, none⟩) 1 1] 31)
          have hgf : Fr (fun b => (Value.slice av L.length cv).ownBlock = some b) (Wb.alloc (.cells #[.string s, .string y, .int .i64 rd, .int .i64 0, .int .i64 0, .int .i64 0, .slice (some ⟨w6.heap.size, 0, none⟩) 1 1] 31)) w9 := Fr.of_grown hgrow9
          have hMF9 : MFresh w9 w.heap.size (L ++ [⟨s, y, rd, 0, 0, 0, (some ⟨w6.heap.size, 0, none⟩), [z], 1⟩]) :=
            MFresh.own (MFresh.snoc (HMF9.out.fr hal (fun _ _ _ => id)) (HS9.out.no hal (fun _ => id)) (HB9.out.fr hal (fun _ _ => id)) (fun ad e => by cases e; show w.heap.size ≤ w6.heap.size; omega)) howa hgf
          have hsm9 : ∀ m ∈ L ++ [(⟨s, y, rd, 0, 0, 0, (some ⟨w6.heap.size, 0, none⟩), [z], 1⟩ : Mem)], LayOk m := fun m hm => by
            rcases List.mem_append.1 hm with h | h
            · exact Hsm.out m h
            · obtain rfl : m = ⟨s, y, rd, 0, 0, 0, (some ⟨w6.heap.size, 0, none⟩), [z], 1⟩ := by simpa using h
              exact ⟨by show s.size ≤ 100; omega, hys, Nat.le_refl _, fun x hx => by obtain rfl : x = z := (by simpa using hx); exact hzs⟩
          have ht9 := (Ht9.out.fr hal (fun _ _ => id) id).fr hgf (fun b hb h => by have h2 := ownsRow_blk howa h; unfold From at h2; omega) (fun h => by have h2 := ownsRow_blk howa h; unfold From at h2; omega)
          have hf9 : Fr (TB tb w.heap.size) w w9 := (Hf9.out.step hal (fun _ _ h => h.elim)).step hgf (fun b _ h => .inr (ownsRow_blk howa h))
          have HF := Lib.hid (And.intro hown9 (And.intro hMF9 (And.intro hsm9 (And.intro ht9 hf9))))
          clear hown9 hMF9 hsm9 ht9 hf9 hgf howa hal hgrow9
          go_roundw
          case rel => exact ⟨L ++ [⟨s, y, rd, 0, 0, 0, (some ⟨w6.heap.size, 0, none⟩), [z], 1⟩], av', cv', j - 1, k2 + 1 + 1 + 1 + 1 + 1, by simp, by go_num, by simp; omega, by omega, by rw [List.length_append, mflat_snoc]; exact HF.out.1, HF.out.2.1, Lib.hid HF.out.2.2.1, HF.out.2.2.2.1, HF.out.2.2.2.2⟩
          case measure => simp [intOf]; omega
      · -- no inner ones
          have q5 := block_setCell q2' 6 (.slice none 0 0)
          have z0 : w8.frozen? ⟨w6.heap.size + 1, 6, none⟩ = false := free_of_block q2' 6
          have z1 : w8.cell? ⟨w6.heap.size + 1, 6, none⟩ = some (.slice (some ⟨w6.heap.size, 0, none⟩) 1 1) := cell_of_block q2' 6
          have hfs : Fr (Is (w6.heap.size + 1)) w8 (w8.setCell ⟨w6.heap.size + 1, 6, none⟩ (.slice none 0 0)) := Fr.setCell (S := Is (w6.heap.size + 1)) (p := ⟨w6.heap.size + 1, 6, none⟩) (Fr.refl _ _) (fun _ => rfl) _
          have htb := ht8.fr hfs (fun b hb e => by unfold Is at e; omega) (fun e => by unfold Is at e; omega)
          have hf2b : Fr (TB tb w2.heap.size) w2 (w8.setCell ⟨w6.heap.size + 1, 6, none⟩ (.slice none 0 0)) := (Hf28.out.mono (fun b _ h => .inl h)).step hfs (fun b _ h => by unfold Is at h; exact .inr (by omega))
          clear hff8 hown8 hMF8 q1' q2' ht8 hS8 hB8 hfs
          go_upto_region 11 with (fail)
          generalize w8.setCell ⟨w6.heap.size + 1, 6, none⟩ (.slice none 0 0) = Wb at *
          have Hown7 := Lib.hid (ownsRow_at Hown2.out hf2b (fun b h e => by have h1 := ownsRow_blk Hown2.out h; have h2 := ownsRow_lt Hown2.out h; unfold From at h1; unfold TB at e; omega))
          have HMF7 := Lib.hid (HMF2.out.fr hf2b (fun b h1 h2 e => by unfold TB at e; omega))
          have Hf7 := Lib.hid (Hff2.out.step hf2b (fun b _ h => by unfold TB at h ⊢; omega))
          have Ht7 := Lib.hid htb
          simp at q5
          clear z0 z1 hf2b htb
          have y0 : Wb.cell? ⟨w6.heap.size + 1, 0, none⟩ = some (.string p) := cell_of_block q5 0
          have y1 : Wb.cell? ⟨w6.heap.size + 1, 1, none⟩ = some (.string y) := cell_of_block q5 1
          have y2 : Wb.cell? ⟨w6.heap.size + 1, 2, none⟩ = some (.int .i64 rd) := cell_of_block q5 2
          have y3 : Wb.cell? ⟨w6.heap.size + 1, 3, none⟩ = some (.int .i64 0) := cell_of_block q5 3
          have y4 : Wb.cell? ⟨w6.heap.size + 1, 4, none⟩ = some (.int .i64 0) := cell_of_block q5 4
          have y5 : Wb.cell? ⟨w6.heap.size + 1, 5, none⟩ = some (.int .i64 0) := cell_of_block q5 5
          have y6 : Wb.cell? ⟨w6.heap.size + 1, 6, none⟩ = some (.slice none 0 0) := cell_of_block q5 6
          have hsz := Hf7.out.size
          clear q5
          go_wp2_with (at_builtin; refine wpList_append_own _ rfl _ _ 36 rfl w.heap.size 31 i0 (.agg #[.string ByteArray.empty, .string ByteArray.empty, .int .i64 0, .int .i64 0, .int .i64 0, .int .i64 0, .slice none 0 0]) 7 88 Tryz.underlying36 hi0 hz0 hz1 hz2 rfl (by decide) _ _ _ rfl (Hown7.out.alloc _) ⟨Wb.heap.size, 0, none⟩ 1 1 (Mem.vals ⟨p, y, rd, 0, 0, 0, none, [], 0⟩).toList rfl rfl (cells_new _ (Mem.vals ⟨p, y, rd, 0, 0, 0, none, [], 0⟩) _ rfl) (mvals_one _) (by unfold maxLen; omega) (by omega) (by first | omega | (simp; done) | (simp; omega)) ?_; intro v' w9 hown9 hgrow9 _; obtain ⟨av', cv', rfl⟩ := ownsRow_slice hown9)
          have hal : Fr No Wb (Wb.alloc (.cells #[.string p, .string y, .int .i64 rd, .int .i64 0, .int .i64 0, .int .i64 0, .slice none 0 0] 31)) := (Fr.refl _ _).alloc _
          have howa := Hown7.out.alloc (.cells #[.string p, .string y, .int .i64 rd, .int .i64 0, .int .i64 0, .int .i64 0, .slice none 0 0] 31)
          have hgf : Fr (fun b => (Value.slice av L.length cv).ownBlock = some b) (Wb.alloc (.cells #[.string p, .string y, .int .i64 rd, .int .i64 0, .int .i64 0, .int .i64 0, .slice none 0 0] 31)) w9 := Fr.of_grown hgrow9
          have hMF9 : MFresh w9 w.heap.size (L ++ [⟨p, y, rd, 0, 0, 0, none, [], 0⟩]) :=
            MFresh.own (MFresh.snoc (HMF7.out.fr hal (fun _ _ _ => id)) (Strs.nil _) (BlkT.none _ _) (fun ad e => by cases e)) howa hgf
          have hsm9 : ∀ m ∈ L ++ [(⟨p, y, rd, 0, 0, 0, none, [], 0⟩ : Mem)], LayOk m := fun m hm => by
            rcases List.mem_append.1 hm with h | h
            · exact Hsm.out m h
            · obtain rfl : m = ⟨p, y, rd, 0, 0, 0, none, [], 0⟩ := by simpa using h
              exact ⟨hp, hys, Nat.zero_le _, fun x hx => by simp at hx⟩
          have ht9 := (Ht7.out.fr hal (fun _ _ => id) id).fr hgf (fun b hb h => by have h2 := ownsRow_blk howa h; unfold From at h2; omega) (fun h => by have h2 := ownsRow_blk howa h; unfold From at h2; omega)
          have hf9 : Fr (TB tb w.heap.size) w w9 := (Hf7.out.step hal (fun _ _ h => h.elim)).step hgf (fun b _ h => .inr (ownsRow_blk howa h))
          have HF := Lib.hid (And.intro hown9 (And.intro hMF9 (And.intro hsm9 (And.intro ht9 hf9))))
          clear hown9 hMF9 hsm9 ht9 hf9 hgf howa hal hgrow9
          go_roundw
          case rel => exact ⟨L ++ [⟨p, y, rd, 0, 0, 0, none, [], 0⟩], av', cv', j - 1, k2 + 1 + 1 + 1 + 1, by simp, by go_num, by simp; omega, by omega, by rw [List.length_append, mflat_snoc]; exact HF.out.1, HF.out.2.1, Lib.hid HF.out.2.2.1, HF.out.2.2.2.1, HF.out.2.2.2.2⟩
          case measure => simp [intOf]; omega
    · obtain rfl : j = 0 := by omega
      obtain ⟨a', c', hv, hR, hfresh⟩ := Mems.of_own hown (fun m hm => (hMF m hm).1)
      cases hv
      have H := Lib.hid (And.intro hR (And.intro hfresh (And.intro hMF (And.intro htr (hf.mono (T := Is tb) (fun b hb h => by unfold TB at h; unfold Is; omega))))))
      clear hown hMF htr hf hR hfresh
      go_wp2_with fail
      go_ret
      exact ⟨⟨L, _, _, kk, rfl, H.out.1, H.out.2.1, H.out.2.2.1, Hsm.out, by omega, by omega, H.out.2.2.2.1⟩, H.out.2.2.2.2⟩
end Go.Proofs.YtmieegcgeolckaaGreatDoor
namespace Go.Proofs.YtmieegcgeolckaaGreatDoor
open Go.RowKit Go.Maps
set_option linter.unusedVariables false

def keyAll : List ByteArray := [⟨#[97]⟩, ⟨#[98]⟩, ⟨#[99]⟩, ⟨#[99, 49]⟩, ⟨#[120]⟩]
theorem keyAll_size : ∀ s ∈ keyAll, s.size ≤ 2 := by decide
/-- What keys answers. -/
def KeyRes (w : World) (B tb k : Nat) (e : Ending) (w' : World) : Prop :=
  ∃ (K : List ByteArray) (a' : Option Addr) (c' k' : Nat), e = .returned (.slice a' K.length c') ∧ Strs w' a' c' K ∧ (∀ ad, a' = some ad → w.heap.size ≤ ad.block) ∧ (∀ x ∈ K, x.size ≤ 2) ∧ K.length ≤ 3 ∧ k' ≤ k + 4 ∧ Tape w' B tb k'

set_option maxRecDepth 100000 in
set_option maxHeartbeats 4000000 in
theorem made_keys (B tb k : Nat) (w : World) (ht : Tape w B tb k) (hk : k ≤ 100000) :
    Calls Tryz.prog 22 #[.pointer (some ⟨tb, 0, none⟩)] w fun e w' => KeyRes w B tb k e w' ∧ Fr (Is tb) w w' := by
  obtain ⟨i0, hi0, hz0, hz1, hz2⟩ := info_parts infoS
  have htl := ht.lt
  have hBt := ht.le
  go_enter Tryz.func22, Tryz.ntmps22
  go_wp2_with fail
  refine (tape_next B tb k 4 _ ht (by omega) (by omega) (by omega)).mono ?_
  rintro e w1 ⟨r, rfl, hr1, hr2, ht1, hf1⟩
  obtain ⟨r, rfl⟩ := Int.eq_ofNat_of_zero_le hr1
  have hf1' : Fr (TB tb w.heap.size) w w1 := hf1.mono (fun b _ h => .inl h)
  go_wp2_with fail
  go_loopw [3, 4] (fun v i wr => ∃ (K : List ByteArray) (av : Option Addr) (cv j kk : Nat), v = .slice av K.length cv ∧ i = .int .i64 (j : Int) ∧ K.length + j ≤ 3 ∧ kk + j ≤ k + 4 ∧ wr.ownsRow w.heap.size 9 1 (.slice av K.length cv) K.length (K.map Value.string) ∧ Hid (∀ x ∈ K, x.size ≤ 2) ∧ Tape wr B tb kk ∧ Fr (TB tb w.heap.size) w wr) (fun _ i _ => (intOf i).toNat)
  case atStart => exact ⟨[], none, 0, r, k + 1, rfl, rfl, by simp; omega, by omega, World.ownsRow_nil _ _ _ _, fun m hm => by simp at hm, ht1, hf1'⟩
  case round =>
    obtain ⟨K, av, cv, j, kk, rfl, rfl, hLj, hkk, hown, Hsm, htr, hf⟩ := hrel
    by_cases hlt : 0 < j
    · have hlt' : (0 : Int) < j := by omega
      have hsr := hf.size
      have hS2 := Strs.of_block (l := keyAll) (block_alloc wr (.cells (keyAll.map Value.string).toArray 9)) (by unfold maxLen keyAll; simp)
      have hx2 : Fr No wr (wr.alloc (.cells (keyAll.map Value.string).toArray 9)) := (Fr.refl _ _).alloc _
      have htl2 := htr.lt
      have hone := tape_one B tb kk (some ⟨wr.heap.size, 0, none⟩) 5 keyAll _ (htr.fr hx2 (fun _ _ => id) id) (by omega) hS2 (by decide) (by decide) (fun ad e => by cases e; show wr.heap.size ≠ tb; omega)
      clear hS2 htr
      go_wp2_with fail
      refine hone.mono ?_
      rintro e w3 ⟨⟨y, rfl, hy⟩, ht3, hf3⟩
      have hys := keyAll_size y hy
      have hf23 : Fr (Is tb) wr w3 := (hx2.mono (fun _ _ h => h.elim)).step hf3 (fun _ _ h => h)
      have hown3 := ownsRow_at hown hf23 (fun b h e => by have h1 := ownsRow_blk hown h; unfold From at h1; unfold Is at e; omega)
      have Hf3 := Lib.hid (hf.step hf23 (fun b _ h => .inl h))
      have Ht3 := Lib.hid ht3
      have hs3 := Hf3.out.size
      clear hone hx2 hf3 hy hf23 hown hf ht3
      go_wp2_with (at_builtin; refine wpList_append_own _ rfl _ _ 27 rfl w.heap.size 9 i0 (.string ByteArray.empty) 1 16 Tryz.underlying27 hi0 hz0 hz1 hz2 rfl (by decide) _ _ _ rfl (hown3.alloc _) ⟨w3.heap.size, 0, none⟩ 1 1 [.string y] rfl rfl (cell_one_new _ _ _) (strs_one [y]) (by unfold maxLen; omega) (by omega) (by first | omega | (simp; done) | (simp; omega)) ?_; intro v' w9 hown9 hgrow9 _; obtain ⟨av', cv', rfl⟩ := ownsRow_slice hown9)
      have hal : Fr No w3 (w3.alloc (.cells #[.string y] 9)) := (Fr.refl _ _).alloc _
      have howa := hown3.alloc (.cells #[.string y] 9)
      have hgf : Fr (fun b => (Value.slice av K.length cv).ownBlock = some b) (w3.alloc (.cells #[.string y] 9)) w9 := Fr.of_grown hgrow9
      have hsm9 : ∀ x ∈ K ++ [y], x.size ≤ 2 := fun x hx => by
        rcases List.mem_append.1 hx with h | h
        · exact Hsm.out x h
        · obtain rfl : x = y := by simpa using h
          exact hys
      have ht9 := (Ht3.out.fr hal (fun _ _ => id) id).fr hgf (fun b hb h => by have h2 := ownsRow_blk howa h; unfold From at h2; omega) (fun h => by have h2 := ownsRow_blk howa h; unfold From at h2; omega)
      have hf9 : Fr (TB tb w.heap.size) w w9 := (Hf3.out.step hal (fun _ _ h => h.elim)).step hgf (fun b _ h => .inr (ownsRow_blk howa h))
      have HF := Lib.hid (And.intro hown9 (And.intro hsm9 (And.intro ht9 hf9)))
      clear hown9 hsm9 ht9 hf9 hgf howa hal hgrow9 hown3
      go_roundw
      case rel => exact ⟨K ++ [y], av', cv', j - 1, kk + 1, by simp, by go_num, by simp; omega, by omega, by rw [List.length_append, List.map_append]; exact HF.out.1, Lib.hid HF.out.2.1, HF.out.2.2.1, HF.out.2.2.2⟩
      case measure => simp [intOf]; omega
    · obtain rfl : j = 0 := by omega
      obtain ⟨a', c', hv, hR, hfresh⟩ := Strs.of_own hown
      cases hv
      have H := Lib.hid (And.intro hR (And.intro hfresh (And.intro htr (hf.mono (T := Is tb) (fun b hb h => by unfold TB at h; unfold Is; omega)))))
      clear hown htr hf hR hfresh
      go_wp2_with fail
      go_ret
      exact ⟨⟨K, _, _, kk, rfl, H.out.1, H.out.2.1, Hsm.out, by omega, by omega, H.out.2.2.1⟩, H.out.2.2.2⟩
end Go.Proofs.YtmieegcgeolckaaGreatDoor
namespace Go.Proofs.YtmieegcgeolckaaGreatDoor
open Go.RowKit
set_option linter.unusedVariables false

/-- A comparison: what is equal, turned round, chained. -/
structure IsCmp {α : Type} (c : α → α → Int) : Prop where
  zero : ∀ x y, c x y = 0 → x = y
  turn : ∀ x y, c y x = - c x y
  trans : ∀ x y z, c x y < 0 → c y z < 0 → c x z < 0
theorem IsCmp.self {α : Type} {c : α → α → Int} (h : IsCmp c) (x : α) : c x x = 0 := by have := h.turn x x; omega

theorem cb_turn : ∀ a b : List UInt8, Lib.compareBytes b a = - Lib.compareBytes a b
  | [], [] => rfl
  | [], _ :: _ => rfl
  | _ :: _, [] => rfl
  | a :: s, b :: t => by
    have ih := cb_turn s t
    unfold Lib.compareBytes
    by_cases h1 : a < b
    · have h2 : ¬ b < a := fun h => UInt8.lt_asymm h1 h
      simp [h1, h2]
    · by_cases h2 : b < a
      · simp [h1, h2]
      · simp [h1, h2, ih]
theorem cb_trans : ∀ a b c : List UInt8, Lib.compareBytes a b < 0 → Lib.compareBytes b c < 0 → Lib.compareBytes a c < 0
  | [], [], _, h, _ => by simp [Lib.compareBytes] at h
  | [], _ :: _, [], _, h => by simp [Lib.compareBytes] at h
  | [], _ :: _, _ :: _, _, _ => by simp [Lib.compareBytes]
  | _ :: _, [], _, h, _ => by simp [Lib.compareBytes] at h
  | _ :: _, _ :: _, [], _, h => by simp [Lib.compareBytes] at h
  | a :: s, b :: t, c :: u, h, h' => by
    have ih := cb_trans s t u
    unfold Lib.compareBytes at h h' ⊢
    by_cases h1 : a < b
    · by_cases h2 : b < c
      · rw [if_pos (UInt8.lt_trans h1 h2)]; decide
      · rw [if_neg h2] at h'
        by_cases h3 : c < b
        · rw [if_pos h3] at h'; omega
        · have e : b = c := UInt8.le_antisymm (UInt8.not_lt.1 h3) (UInt8.not_lt.1 h2)
          subst e
          rw [if_pos h1]; decide
    · rw [if_neg h1] at h
      by_cases h3 : b < a
      · rw [if_pos h3] at h; omega
      · have e : a = b := UInt8.le_antisymm (UInt8.not_lt.1 h3) (UInt8.not_lt.1 h1)
        subst e
        rw [if_neg h3] at h
        by_cases h2 : a < c
        · rw [if_pos h2]; decide
        · rw [if_neg h2] at h' ⊢
          by_cases h4 : c < a
          · rw [if_pos h4] at h'; omega
          · rw [if_neg h4] at h' ⊢
            exact ih h h'
theorem cb_cmp : IsCmp Lib.compareBytes := ⟨compareBytes_zero, cb_turn, cb_trans⟩
theorem ba_ext' {x y : ByteArray} (h : x.data.toList = y.data.toList) : x = y := by
  cases x; cases y
  simp only at h
  congr 1
  exact Array.toList_inj.1 h
theorem cn_turn : ∀ a b : List ByteArray, cmpN b a = - cmpN a b
  | [], [] => rfl
  | [], _ :: _ => rfl
  | _ :: _, [] => rfl
  | a :: s, b :: t => by
    have ih := cn_turn s t
    unfold cmpN
    by_cases h1 : a = b
    · subst h1; simp [ih]
    · rw [if_neg h1, if_neg (Ne.symm h1)]; exact cb_turn _ _
theorem cn_trans : ∀ a b c : List ByteArray, cmpN a b < 0 → cmpN b c < 0 → cmpN a c < 0
  | [], [], _, h, _ => by simp [cmpN] at h
  | [], _ :: _, [], _, h => by simp [cmpN] at h
  | [], _ :: _, _ :: _, _, _ => by simp [cmpN]
  | _ :: _, [], _, h, _ => by simp [cmpN] at h
  | _ :: _, _ :: _, [], _, h => by simp [cmpN] at h
  | a :: s, b :: t, c :: u, h, h' => by
    have ih := cn_trans s t u
    unfold cmpN at h h' ⊢
    by_cases h1 : a = b
    · subst h1
      rw [if_pos rfl] at h
      by_cases h2 : a = c
      · subst h2
        rw [if_pos rfl] at h' ⊢
        exact ih h h'
      · rw [if_neg h2] at h' ⊢; exact h'
    · rw [if_neg h1] at h
      by_cases h2 : b = c
      · subst h2
        rw [if_neg h1]; exact h
      · rw [if_neg h2] at h'
        have h3 := cb_trans _ _ _ h h'
        by_cases h4 : a = c
        · subst h4
          have := cb_turn a.data.toList b.data.toList
          omega
        · rw [if_neg h4]; exact h3
theorem cn_cmp : IsCmp cmpN := ⟨cmpN_zero, cn_turn, cn_trans⟩

/-- The parts give the text back. -/
theorem spl_back (c : UInt8) : ∀ s : List UInt8, Lib.join (spl c s) [c] = s
  | [] => rfl
  | x :: t => by
    have ih := spl_back c t
    unfold spl
    split
    · rename_i e
      subst e
      rcases h : spl x t with _ | ⟨a, r⟩
      · exact absurd h (spl_ne _ _)
      · rw [h] at ih
        simp [Lib.join] at ih ⊢
        exact ih
    · rcases h : spl c t with _ | ⟨a, r⟩
      · exact absurd h (spl_ne _ _)
      · rw [h] at ih
        cases r with
        | nil => simp [Lib.join] at ih ⊢; exact ih
        | cons b r => simp [Lib.join] at ih ⊢; exact ih
theorem good_inj {s t : ByteArray} (hs : goodPath s = true) (ht : goodPath t = true) (h : sparts s = sparts t) : s = t := by
  unfold goodPath at hs ht
  simp only [Bool.and_eq_true] at hs ht
  have back : ∀ x : ByteArray, Lib.hasPrefix x.data.toList [47] = true → x.data.toList = 47 :: Lib.join ((sparts x).map fun y => y.data.toList) [47] := by
    intro x hx
    have e1 : (sparts x).map (fun y => y.data.toList) = spl 47 (Lib.trimPrefix x.data.toList [47]) := by
      unfold sparts
      rw [List.map_map]
      have : ((fun y : ByteArray => y.data.toList) ∘ fun x : List UInt8 => (⟨x.toArray⟩ : ByteArray)) = id := by funext z; simp
      rw [this, List.map_id]
    rw [e1, spl_back]
    unfold Lib.trimPrefix
    rw [if_pos hx]
    unfold Lib.hasPrefix at hx
    rcases hl : x.data.toList with _ | ⟨a, r⟩
    · rw [hl] at hx; simp at hx
    · rw [hl] at hx
      simp at hx
      simp [← hx]
  apply ba_ext'
  rw [back s hs.1, back t ht.1, h]
theorem path_cmp : IsCmp pathO := by
  refine ⟨fun s t h => ?_, fun s t => ?_, fun s t u h h' => ?_⟩
  · unfold pathO at h
    cases hs : goodPath s <;> cases ht : goodPath t <;> simp [hs, ht] at h
    · exact ba_ext' (compareBytes_zero _ _ h)
    · exact good_inj hs ht (cmpN_zero _ _ h)
  · unfold pathO
    cases hs : goodPath s <;> cases ht : goodPath t <;> simp
    · exact cb_turn _ _
    · exact cn_turn _ _
  · unfold pathO at h h' ⊢
    cases hs : goodPath s <;> cases ht : goodPath t <;> cases hu : goodPath u <;> simp [hs, ht, hu] at h h' ⊢
    · exact cb_trans _ _ _ h h'
    · exact cn_trans _ _ _ h h'
theorem ahead_iff (m o : Mem) : ahead m o = true ↔ m.r < o.r ∨ m.r = o.r ∧ pathO m.p o.p < 0 := by
  unfold ahead aheadB
  rw [decide_eq_true_iff]
  unfold orI cmpI
  by_cases h1 : m.r < o.r
  · simp [h1]
  · by_cases h2 : o.r < m.r
    · simp [h1, h2]; omega
    · have : m.r = o.r := by omega
      simp [this]
theorem ahead_asymm {m o : Mem} (h : ahead m o = true) : ahead o m = false := by
  cases h' : ahead o m with
  | false => rfl
  | true =>
    rw [ahead_iff] at h h'
    have := path_cmp.turn m.p o.p
    omega
theorem ahead_trans {m o q : Mem} (h : ahead m o = true) (h' : ahead o q = true) : ahead m q = true := by
  rw [ahead_iff] at h h' ⊢
  rcases h with h | ⟨h1, h2⟩
  · left; omega
  · rcases h' with h' | ⟨h3, h4⟩
    · left; omega
    · exact .inr ⟨by omega, path_cmp.trans _ _ _ h2 h4⟩
theorem ahead_total {m o : Mem} (h : m.p ≠ o.p) (h' : ahead m o = false) : ahead o m = true := by
  have h1 : ¬ (ahead m o = true) := by rw [h']; decide
  rw [ahead_iff] at h1 ⊢
  have h2 := path_cmp.turn m.p o.p
  have h3 : pathO m.p o.p ≠ 0 := fun e => h (path_cmp.zero _ _ e)
  omega
/-- In a list of different paths no other member of the ID comes ahead of the best. -/
theorem best_least (L : List Mem) : L.Pairwise (fun m o => m.p ≠ o.p) → ∀ m ∈ L, m.l.length = 1 → ∀ o, best L (kb m.i) = some o → m = o ∨ ahead o m = true := by
  refine rev_ind (P := fun L => L.Pairwise (fun m o => m.p ≠ o.p) → ∀ m ∈ L, m.l.length = 1 → ∀ o, best L (kb m.i) = some o → m = o ∨ ahead o m = true) ?_ ?_ L
  · intro _ m h; cases h
  · intro l y ih hp m hm h1 o ho
    obtain ⟨hp1, _, hp2⟩ := List.pairwise_append.1 hp
    rw [best_snoc] at ho
    rcases bestS_cases (best l) y (kb m.i) with ⟨h2, h3, h4, h5⟩ | ⟨h2, h3⟩
    · rw [h2] at ho; cases ho
      rcases List.mem_append.1 hm with hm | hm
      · obtain ⟨o', ho'⟩ := best_some l m hm h1
        right
        rcases ih hp1 m hm h1 o' ho' with rfl | h6
        · exact h5 _ ho'
        · exact ahead_trans (h5 o' ho') h6
      · exact .inl (by simpa using hm)
    · rw [h2] at ho
      rcases List.mem_append.1 hm with hm | hm
      · exact ih hp1 m hm h1 o ho
      · obtain rfl : m = y := by simpa using hm
        obtain ⟨o', ho', h6⟩ := h3 h1 rfl
        rw [ho] at ho'; cases ho'
        exact .inr (ahead_total (Ne.symm (hp2 o (best_mem l _ o ho).1 m (by simp))) h6)
theorem best_order {L L' : List Mem} (hp : L.Pairwise (fun m o => m.p ≠ o.p)) (hp' : L'.Pairwise (fun m o => m.p ≠ o.p)) (h : ∀ m, m ∈ L ↔ m ∈ L') (x : List UInt8) : best L x = best L' x := by
  rcases h1 : best L x with _ | o
  · rcases h2 : best L' x with _ | o'
    · rfl
    · exfalso
      obtain ⟨a, b, c⟩ := best_mem L' x o' h2
      obtain ⟨z, hz⟩ := best_some L o' ((h o').2 a) b
      rw [c, h1] at hz; cases hz
  · obtain ⟨a, b, c⟩ := best_mem L x o h1
    obtain ⟨o', ho'⟩ := best_some L' o ((h o).1 a) b
    rw [c] at ho'
    rw [ho']
    obtain ⟨a', b', c'⟩ := best_mem L' x o' ho'
    rcases best_least L' hp' o ((h o).1 a) b o' (by rw [c]; exact ho') with e | h3
    · rw [e]
    · rcases best_least L hp o' ((h o').2 a') b' o (by rw [c']; exact h1) with e | h4
      · rw [e]
      · rw [ahead_asymm h3] at h4; cases h4
end Go.Proofs.YtmieegcgeolckaaGreatDoor
namespace Go.Proofs.YtmieegcgeolckaaGreatDoor
open Go.RowKit Go.Maps
set_option linter.unusedVariables false

theorem lay_small {L : List Mem} (h : ∀ m ∈ L, LayOk m) (hl : L.length ≤ 8) : MemSmall L :=
  ⟨by omega, fun m hm => by have := (h m hm).p; omega, fun m hm => by have := (h m hm).i; omega, fun m hm => by have := (h m hm).n; omega⟩

theorem ids_less {L O : List Mem} {ids : List ByteArray} (hids : IsIds L ids) (h : O.map Mem.k = own1 L ids) {q : Nat} {p m : Mem} (hp : O[q]? = some p) (hm : O[q + 1]? = some m) : Op.bytesLess p.i.toList m.i.toList = true := by
  obtain ⟨_, h1, _⟩ := own_at hids h hp
  obtain ⟨_, h2, _⟩ := own_at hids h hm
  have ha := List.pairwise_map.1 hids.asc
  obtain ⟨l1, e1⟩ := List.getElem?_eq_some_iff.1 h1
  obtain ⟨l2, e2⟩ := List.getElem?_eq_some_iff.1 h2
  have h3 := List.pairwise_iff_getElem.1 ha q (q + 1) l1 l2 (by omega)
  rw [e1, e2, leS_less] at h3
  rw [ByteArray.toList_eq, ByteArray.toList_eq]
  have h4 := h3.1
  simp only [h3.2, decide_false, Bool.or_false] at h4
  exact h4
theorem opened_one {ids : List ByteArray} (hn : ids.Nodup) {x : ByteArray} (hx : x ∈ ids) : opened ids [x] = [x] := by
  unfold opened
  have e : ∀ l : List ByteArray, l.filter (hasS [x]) = l.filter (fun y => decide (y = x)) := fun l => List.filter_congr (fun y _ => by
    unfold hasS
    simp only [List.any_cons, List.any_nil, Bool.or_false]
    rw [strEq, decide_eq_decide]
    exact eq_comm)
  rw [e]
  have h1 := filter_one hn hx
  rcases hf : ids.filter (fun y => decide (y = x)) with _ | ⟨y, _ | ⟨z, t⟩⟩
  · rw [hf] at h1; simp at h1
  · have : y ∈ ids.filter (fun y => decide (y = x)) := by rw [hf]; simp
    have := (List.mem_filter.1 this).2
    simp at this
    rw [this]
  · rw [hf] at h1; simp at h1
/-- What is opened with one key of an owner. -/
theorem open_one {L O : List Mem} {ids : List ByteArray} (hids : IsIds L ids) (h : O.map Mem.k = own1 L ids) {j : Nat} {p : Mem} (hp : O[j]? = some p) (r : Int) :
    ∃ c, p.l[0]? = some c ∧ (opened ids [p.i]).map (virOf L r) = [⟨⟨#[]⟩, openT ++ p.i, c, r⟩] := by
  obtain ⟨o, hid, hbo, _, hl, h1, _⟩ := own_at hids h hp
  rw [opened_one (AscS.nodup hids.asc) (List.mem_of_getElem? hid)]
  rcases hpl : p.l with _ | ⟨c, t⟩
  · rw [hpl] at h1; simp at h1
  · refine ⟨c, rfl, ?_⟩
    simp only [List.map_cons, List.map_nil, virOf, inner0, hbo, Option.getD_some, ← hl, hpl, List.headD_cons]
/-- The owner of a layer's ID is in no later round. -/
theorem own_round {L O : List Mem} {ids : List ByteArray} (hids : IsIds L ids) (h : O.map Mem.k = own1 L ids) {j : Nat} {p m : Mem} (hp : O[j]? = some p) (hm : m ∈ L) (h1 : m.l.length = 1) (he : p.i = m.i) : ¬ m.r < p.r := by
  obtain ⟨o, _, hbo, hk, _⟩ := own_at hids h hp
  rw [he] at hbo
  have h2 := best_round L m hm h1 o hbo
  have h3 := congrArg Mem.r hk
  have h4 : p.r = o.r := h3
  omega
theorem own_some {L O : List Mem} {ids : List ByteArray} (hids : IsIds L ids) (h : O.map Mem.k = own1 L ids) {m : Mem} (hm : m ∈ L) (h1 : m.l.length = 1) : ∃ (j : Nat) (p : Mem), O[j]? = some p ∧ p.i = m.i := by
  have h2 : m.i ∈ ids := (hids.mem m.i).2 ((best_some_iff L _).2 ⟨m, hm, h1, rfl⟩)
  obtain ⟨j, hj⟩ := List.getElem?_of_mem h2
  have hl := own_len h
  have hlt : j < O.length := by rw [hl]; exact (List.getElem?_eq_some_iff.1 hj).1
  obtain ⟨o, hid, _⟩ := own_at hids h (List.getElem?_eq_getElem hlt)
  rw [hj] at hid
  exact ⟨j, _, List.getElem?_eq_getElem hlt, (Option.some.inj hid).symm⟩
end Go.Proofs.YtmieegcgeolckaaGreatDoor
namespace Go.Proofs.YtmieegcgeolckaaGreatDoor
open Go.ChangeShapes Go.WideShapes Go.RowKit
set_option linter.unusedVariables false

theorem gES : Tryz.prog.globalNamed "strconv.ErrSyntax" = some 2 := by kernel_rfl
theorem gESType : (Tryz.prog.globals[2]?).map (·.type) = some 148 := by kernel_rfl
theorem gER : Tryz.prog.globalNamed "strconv.ErrRange" = some 3 := by kernel_rfl
theorem gERType : (Tryz.prog.globals[3]?).map (·.type) = some 148 := by kernel_rfl
theorem cellsE : Tryz.prog.cellsOf 244 = 1 := by kernel_rfl
theorem cellsS : Tryz.prog.cellsOf 9 = 1 := by kernel_rfl
theorem starE : "*" ++ "errors.errorString" = "*errors.errorString" := by decide
theorem rowE (u : TypeId) (h : Tryz.prog.typeName? 3 u = some "*errors.errorString") : u = 242 :=
  typeName_ptr_named (nm := "errors.errorString") (by rw [starE]; kernel_rfl) (by kernel_rfl) (by decide) u (by rw [starE]; exact h)
theorem gPow : Tryz.prog.globalNamed "internal/strconv.uint64pow10" = some 1 := by kernel_rfl
theorem gPowType : (Tryz.prog.globals[1]?).map (·.type) = some 218 := by kernel_rfl
theorem gAcc : Tryz.prog.globalNamed "unicode/utf8.acceptRanges" = some 8 := by kernel_rfl
theorem cellsU : Tryz.prog.cellsOf 181 = 1 := by kernel_rfl
theorem cellsP : Tryz.prog.cellsOf 218 = 20 := by kernel_rfl
theorem laid_lt {P : Program} {n : String} {d : DataW Unit} {r : List (String × DataW Unit)} {W : World} {g : Nat} (h : laidMet P ((n, d) :: r) W) (hg : P.globalNamed n = some g) : g < W.heap.size := by
  obtain ⟨ps, ⟨g0, t0, cs0, f0, p0, q0, hg0, ht0, hv0, _⟩, _⟩ := h
  unfold World.var? at hv0
  rw [hg] at hv0
  simp only [Option.bind_some] at hv0
  cases hh : W.heap[g]? with
  | none => simp [hh] at hv0
  | some o => exact (Array.getElem?_eq_some_iff.1 hh).1

theorem env_of {W : World} (hsh : W.ShapedOpen Tryz.prog) (hL : laidMet Tryz.prog Rows.cryptSharesRow.laid W) : Env W := by
  obtain ⟨m, hm⟩ := cell_of_shapedOpen_int (P := Tryz.prog) (g := 0) (t := 3) (zero := #[.int .i64 0]) hsh (of_decide_eq_true (by kernel_rfl)) (by kernel_rfl) rfl (by kernel_rfl) (by kernel_rfl) Tryz.underlying3
  have hLr := hL.tail.tail.tail.tail
  have hA := laid_lt hL.tail.tail.tail gAcc
  obtain ⟨ar, sr, hvr, -, -, -⟩ := laid_sentinel hLr gER gERType Tryz.underlying148 rowE Tryz.underlying242 Tryz.underlying244 rfl rfl Tryz.underlying9 cellsE cellsS
  obtain ⟨asx, ssx, hvs, -, -, -⟩ := laid_sentinel hLr.tail gES gESType Tryz.underlying148 rowE Tryz.underlying242 Tryz.underlying244 rfl rfl Tryz.underlying9 cellsE cellsS
  have c5 : W.cell? ⟨2, 0, none⟩ = some (.iface 242 (.pointer (some asx))) := by have h0 := World.var?_cell gES hvs 0; simpa using h0
  have c6 : W.cell? ⟨3, 0, none⟩ = some (.iface 242 (.pointer (some ar))) := by have h0 := World.var?_cell gER hvr 0; simpa using h0
  exact ⟨⟨m, hm⟩, ⟨⟨_, c5, .inr ⟨_, _, rfl⟩⟩, ⟨_, c6, .inr ⟨_, _, rfl⟩⟩⟩, Lib.tabIs_of_head gPow gPowType Tryz.underlying218 Tryz.underlying181 cellsU cellsP hL.tail.tail, hA⟩
end Go.Proofs.YtmieegcgeolckaaGreatDoor
namespace Go.Proofs.YtmieegcgeolckaaGreatDoor
open Go
variable {H : Type} {enc : TypeId × Value → H}

/-- As the library's wrap with a condition beside it; the contract is told the world's shape too. -/
theorem returns_laid_shaped {a : Assume} {C : Checked} {os : Os} {f : FuncId} {fn : Func} {s : ChangeSpec} {conds : List PathCond} {apart fresh handsOn again : Bool} {X : World → Array Value → Prop}
    (hX : ∀ (w w' : World) (args : Array Value), w.heap = w'.heap → X w args → X w' args)
    (own : ownKnob C.prog.godebug = none) (started : os.Started) (noInit : C.prog.inits.idxOf? f = none) (hfn : C.prog.funcs[f]? = some fn)
    (witness : ∃ (w : World) (tape : Go.Tape) (i : Input), w.os = os ∧ (w.forCall tape i).Shaped C.prog ∧ i.vars = [] ∧ Input.okWide C.prog (w.forCall tape i) .any w.heap.size f i ∧
      ((s.pre enc C.prog fn conds apart (w.forCall tape i).memory i.args ∧ X (w.forCall tape i).memory i.args) ∧ sizedMet enc C.prog fn (OpenSpec.ofChange s) apart (w.forCall tape i).memory i.args) ∧ a.holds C.prog (lone (Frame.enter C.prog f i.args .normal) [] (w.forCall tape i)))
    (contract : ∀ (W : World) (base : Nat) (args : Array Value) (ds gs : List (DataW H)) (before : List MemPlace),
      (∀ (j : Nat) t v, fn.params[j]? = some t → args[j]? = some v → Value.okWide C.prog W .any base t v) →
      DataW.Whole enc C.prog fn.params.toList s.vars apart W args.toList ds gs before →
      X W args → W.ShapedOpen C.prog →
      Calls C.prog f args W fun e W' => ∃ v, e = .returned v ∧ s.post enc C.prog fn apart fresh handsOn again W args v W') :
    ReturnsInHanded a C os f .any (fun w args => (s.pre enc C.prog fn conds apart w args ∧ X w args) ∧ sizedMet enc C.prog fn (OpenSpec.ofChange s) apart w args) (s.post enc C.prog fn apart fresh handsOn again) := by
  refine returnsInHanded_of_calls own started noInit witness ?_
  intro w tape i _ hsh _ hok hpre hholds
  obtain ⟨_, _, _, fn', hfn', _, _, _, _, hval⟩ := hok
  have e : fn' = fn := Option.some.inj (hfn'.symm.trans hfn)
  subst e
  obtain ⟨⟨⟨ds, gs, before, hw, hc⟩, hx⟩, hz⟩ := hpre
  have hw' := DataW.Whole.of_heap (w' := w.forCall tape i) (by rfl) hw
  refine (contract (w.forCall tape i) w.heap.size i.args ds gs before hval hw' (hX _ _ _ (by rfl) hx) hsh).mono fun e W' ⟨v, he, hp⟩ => ?_
  subst he
  exact ChangeSpec.post_blind hp
end Go.Proofs.YtmieegcgeolckaaGreatDoor
