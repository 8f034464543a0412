/- coldplugref07.read. -/
import Derived.Test.YtcibciippghooaaGreatDoorZL6
import Derived.Test.YtcibciippghooaaGreatDoorZL9
import Derived.Deep.DeepCutAuto
namespace Go.Proofs.YtcibciippghooaaGreatDoor
open Go.RowKit Go.Maps
set_option linter.unusedVariables false

theorem splitP (c : UInt8) (s : ByteArray) : Lib.splitB ⟨#[c]⟩ 0 (Lib.countB s ⟨#[c]⟩) s = (spl c s.data.toList).map baL := by
  have h1 := Lib.splitB_data ⟨#[c]⟩ 0 (Lib.countB s ⟨#[c]⟩) s
  have h2 : Lib.countB s ⟨#[c]⟩ = s.data.toList.count c := Lib.count_one c s.data.toList
  have h3 : (⟨#[c]⟩ : ByteArray).data.toList = [c] := rfl
  rw [h3] at h1
  rw [h2] at h1 ⊢
  rw [splitK_spl] at h1
  rw [← h1, List.map_map]
  symm
  rw [List.map_congr_left (g := id)]
  · simp
  · intro x _; simp [baL]
theorem splitL (c : UInt8) (s : ByteArray) : Lib.countB s ⟨#[c]⟩ + 1 = (spl c s.data.toList).length := by
  have h := Lib.splitB_all ⟨#[c]⟩ (by show 1 ≤ 1; decide) 0 (Lib.countB s ⟨#[c]⟩) s rfl
  rw [splitP, List.length_map] at h
  exact h.symm
theorem x_split (c : UInt8) (s : ByteArray) (w : World) (hs : s.size ≤ 1000000) (hE : Env w) :
    Calls Tryz.prog 69 #[.string s, .string ⟨#[c]⟩] w fun e w' => ∃ n, e = .returned (.slice (some ⟨w.heap.size, 0, none⟩) n n) ∧ n = (spl c (bl s)).length ∧ n ≤ 1000001 ∧ (∀ j x, (spl c (bl s))[j]? = some x → w'.cell? ⟨w.heap.size, j, none⟩ = some (.string (baL x))) ∧ Fr No w w' ∧ w.heap.size < w'.heap.size := by
  obtain ⟨m, hm⟩ := hE.len
  refine (Tryz.strings_Split s ⟨#[c]⟩ m w (by omega) hm (by show 1 ≤ 1; decide)).mono ?_
  rintro e w1 ⟨rfl, rfl⟩
  have hle := Lib.countB_le ⟨#[c]⟩ (by show 1 ≤ 1; decide) s.size s (Nat.le_refl _)
  refine ⟨_, rfl, splitL c s, by omega, fun j x hx => ?_, (Fr.refl _ _).alloc _, by simp⟩
  rw [cell_of_block (block_alloc _ _), splitP]
  simp [hx]

/-- What read leaves, at a depth. -/
def RdRes (w : World) (d : Nat) (s : ByteArray) (e : Ending) (w' : World) : Prop :=
  Fr No w w' ∧ ∃ (k : Int) (i l : ByteArray) (sl t le : Int) (a : Option Addr) (m c : Nat) (rest : ByteArray) (ok : Bool), e = .returned (.tuple #[.agg #[.int .i64 k, .string i, .string l, .int .i64 sl, .int .i64 t, .int .i64 le, .slice a m c], .string rest, .bool ok]) ∧
    ((ok = false ∧ rd d (bl s) = none) ∨ (ok = true ∧ ∃ ct, rd d (bl s) = some (ct, bl rest) ∧ CAt w' (From w.heap.size) #[.int .i64 k, .string i, .string l, .int .i64 sl, .int .i64 t, .int .i64 le, .slice a m c] ct))
def RdSpec (d : Nat) : Prop := ∀ (s : ByteArray) (w : World), s.size ≤ 900 → Env w → Calls Tryz.prog 44 #[.string s, .int .i64 (d : Int)] w (RdRes w d s)
def strLen : Value → Nat
  | .string s => s.size
  | _ => 0
theorem stopR_emp {s : ByteArray} (h : s.toList.isEmpty = true) : stopR (bl s) = true := by
  rw [ByteArray.toList_eq, List.isEmpty_iff] at h
  show stopR s.data.toList = true
  rw [h]; rfl
theorem bl_first {s : ByteArray} (h : s.toList.isEmpty = false) : ∃ hp : 0 < s.size, ∃ t, bl s = s[0]'hp :: t := by
  have hp : 0 < s.size := by
    rw [Nat.pos_iff_ne_zero]; intro h0
    rw [ByteArray.toList_eq] at h
    have : s.data.toList = [] := List.eq_nil_of_length_eq_zero (by rw [← Lib.size_eq]; exact h0)
    rw [this] at h; cases h
  obtain ⟨b, t, h1, h2⟩ := at_zero hp
  exact ⟨hp, t, by rw [h1, h2]⟩
theorem rd_stop {d : Nat} {r : List UInt8} (h : stopR r = true) : rd d r = some (Ct.zero, r) := by
  cases d <;> rw [rd, if_pos h]

set_option maxRecDepth 100000 in
set_option maxHeartbeats 4000000 in
theorem rd_zero : RdSpec 0 := by
  intro s w hs hE
  obtain ⟨D, hD⟩ : ∃ D : Int, D = ((0 : Nat) : Int) := ⟨_, rfl⟩
  rw [← hD]
  have nd : D ≤ 0 := by omega
  clear hD
  have h0 : Fr No w (w.alloc (.cells #[.int .i64 0, .string ⟨#[]⟩, .string ⟨#[]⟩, .int .i64 0, .int .i64 0, .int .i64 0, .slice none 0 0] 48)) := (Fr.refl _ _).alloc _
  have q0 := block_alloc w (.cells #[.int .i64 0, .string ⟨#[]⟩, .string ⟨#[]⟩, .int .i64 0, .int .i64 0, .int .i64 0, .slice none 0 0] 48)
  have hsz : w.heap.size < (w.alloc (.cells #[.int .i64 0, .string ⟨#[]⟩, .string ⟨#[]⟩, .int .i64 0, .int .i64 0, .int .i64 0, .slice none 0 0] 48)).heap.size := by simp
  obtain ⟨W0, hW0⟩ : ∃ W0, W0 = w.alloc (.cells #[.int .i64 0, .string ⟨#[]⟩, .string ⟨#[]⟩, .int .i64 0, .int .i64 0, .int .i64 0, .slice none 0 0] 48) := ⟨_, rfl⟩
  rw [← hW0] at h0 q0 hsz
  have hE0 := hE.no h0
  have Hf := Lib.hid h0
  have hsm : s.size ≤ 9223372036854775807 := by omega
  clear h0 hE
  go_enter Tryz.func44, Tryz.ntmps44
  go_upto_region 1 with (fail)
  rw [← hW0]
  clear hW0
  rcases he : s.toList.isEmpty with _ | _
  case true =>
    have Hst : Hid (stopR (bl s) = true) := stopR_emp he
    have h7 := set7 q0 rfl (.int .i64 0) (.string ⟨#[]⟩) (.string ⟨#[]⟩) (.int .i64 0) (.int .i64 0) (.int .i64 0) (.slice none 0 0)
    have Hres : Hid (RdRes w 0 s (.returned (.tuple #[.agg #[.int .i64 0, .string ⟨#[]⟩, .string ⟨#[]⟩, .int .i64 0, .int .i64 0, .int .i64 0, .slice none 0 0], .string s, .bool true])) (((((((W0.setCell ⟨w.heap.size, 0, none⟩ (.int .i64 0)).setCell ⟨w.heap.size, 1, none⟩ (.string ⟨#[]⟩)).setCell ⟨w.heap.size, 2, none⟩ (.string ⟨#[]⟩)).setCell ⟨w.heap.size, 3, none⟩ (.int .i64 0)).setCell ⟨w.heap.size, 4, none⟩ (.int .i64 0)).setCell ⟨w.heap.size, 5, none⟩ (.int .i64 0)).setCell ⟨w.heap.size, 6, none⟩ (.slice none 0 0))) := by
      refine ⟨Hf.out.step h7.2 (fun b hb h => by unfold Is at h; omega), _, _, _, _, _, _, _, _, _, _, _, rfl, ?_⟩
      exact .inr ⟨rfl, Ct.zero, rd_stop Hst.out, CAt.of_in (InAt.nil _ _) 0 ⟨#[]⟩ ⟨#[]⟩ 0 0 0⟩
    have Hq := Lib.hid h7.1
    have b0 : W0.cell? ⟨w.heap.size, 0, none⟩ = some (.int .i64 0) := cell_of_block q0 0
    have f0 : W0.frozen? ⟨w.heap.size, 0, none⟩ = false := free_of_block q0 0
    have b1 : W0.cell? ⟨w.heap.size, 1, none⟩ = some (.string ⟨#[]⟩) := cell_of_block q0 1
    have f1 : W0.frozen? ⟨w.heap.size, 1, none⟩ = false := free_of_block q0 1
    have b2 : W0.cell? ⟨w.heap.size, 2, none⟩ = some (.string ⟨#[]⟩) := cell_of_block q0 2
    have f2 : W0.frozen? ⟨w.heap.size, 2, none⟩ = false := free_of_block q0 2
    have b3 : W0.cell? ⟨w.heap.size, 3, none⟩ = some (.int .i64 0) := cell_of_block q0 3
    have f3 : W0.frozen? ⟨w.heap.size, 3, none⟩ = false := free_of_block q0 3
    have b4 : W0.cell? ⟨w.heap.size, 4, none⟩ = some (.int .i64 0) := cell_of_block q0 4
    have f4 : W0.frozen? ⟨w.heap.size, 4, none⟩ = false := free_of_block q0 4
    have b5 : W0.cell? ⟨w.heap.size, 5, none⟩ = some (.int .i64 0) := cell_of_block q0 5
    have f5 : W0.frozen? ⟨w.heap.size, 5, none⟩ = false := free_of_block q0 5
    have b6 : W0.cell? ⟨w.heap.size, 6, none⟩ = some (.slice none 0 0) := cell_of_block q0 6
    have f6 : W0.frozen? ⟨w.heap.size, 6, none⟩ = false := free_of_block q0 6
    clear h7 
    go_wp2_with fail
    have y0 := cell_of_block Hq.out 0
    have y1 := cell_of_block Hq.out 1
    have y2 := cell_of_block Hq.out 2
    have y3 := cell_of_block Hq.out 3
    have y4 := cell_of_block Hq.out 4
    have y5 := cell_of_block Hq.out 5
    have y6 := cell_of_block Hq.out 6
    refine bodyPost_ret (v := .tuple #[.agg #[.int .i64 0, .string ⟨#[]⟩, .string ⟨#[]⟩, .int .i64 0, .int .i64 0, .int .i64 0, .slice none 0 0], .string s, .bool true]) (by simp [results, Tryz.results44, go_sem, y0, y1, y2, y3, y4, y5, y6]) rfl ?_
    exact Hres.out
  obtain ⟨hp, t0, ht0⟩ := bl_first he
  have hp' : (0 : Int) < s.size := by omega
  obtain ⟨B, hB⟩ : ∃ B : Nat, (s[0]'hp).toNat = B := ⟨_, rfl⟩
  have Ht0 := Lib.hid ht0
  have HB := Lib.hid hB
  clear ht0
  by_cases h44 : B = 44
  · have Hst : Hid (stopR (bl s) = true) := by
      unfold Hid; rw [Ht0.out]
      have : s[0]'hp = 44 := UInt8.toNat.inj (by rw [HB.out, h44]; rfl)
      rw [this]; rfl
    subst h44
    have h7 := set7 q0 rfl (.int .i64 0) (.string ⟨#[]⟩) (.string ⟨#[]⟩) (.int .i64 0) (.int .i64 0) (.int .i64 0) (.slice none 0 0)
    have Hres : Hid (RdRes w 0 s (.returned (.tuple #[.agg #[.int .i64 0, .string ⟨#[]⟩, .string ⟨#[]⟩, .int .i64 0, .int .i64 0, .int .i64 0, .slice none 0 0], .string s, .bool true])) (((((((W0.setCell ⟨w.heap.size, 0, none⟩ (.int .i64 0)).setCell ⟨w.heap.size, 1, none⟩ (.string ⟨#[]⟩)).setCell ⟨w.heap.size, 2, none⟩ (.string ⟨#[]⟩)).setCell ⟨w.heap.size, 3, none⟩ (.int .i64 0)).setCell ⟨w.heap.size, 4, none⟩ (.int .i64 0)).setCell ⟨w.heap.size, 5, none⟩ (.int .i64 0)).setCell ⟨w.heap.size, 6, none⟩ (.slice none 0 0))) := by
      refine ⟨Hf.out.step h7.2 (fun b hb h => by unfold Is at h; omega), _, _, _, _, _, _, _, _, _, _, _, rfl, ?_⟩
      exact .inr ⟨rfl, Ct.zero, rd_stop Hst.out, CAt.of_in (InAt.nil _ _) 0 ⟨#[]⟩ ⟨#[]⟩ 0 0 0⟩
    have Hq := Lib.hid h7.1
    have b0 : W0.cell? ⟨w.heap.size, 0, none⟩ = some (.int .i64 0) := cell_of_block q0 0
    have f0 : W0.frozen? ⟨w.heap.size, 0, none⟩ = false := free_of_block q0 0
    have b1 : W0.cell? ⟨w.heap.size, 1, none⟩ = some (.string ⟨#[]⟩) := cell_of_block q0 1
    have f1 : W0.frozen? ⟨w.heap.size, 1, none⟩ = false := free_of_block q0 1
    have b2 : W0.cell? ⟨w.heap.size, 2, none⟩ = some (.string ⟨#[]⟩) := cell_of_block q0 2
    have f2 : W0.frozen? ⟨w.heap.size, 2, none⟩ = false := free_of_block q0 2
    have b3 : W0.cell? ⟨w.heap.size, 3, none⟩ = some (.int .i64 0) := cell_of_block q0 3
    have f3 : W0.frozen? ⟨w.heap.size, 3, none⟩ = false := free_of_block q0 3
    have b4 : W0.cell? ⟨w.heap.size, 4, none⟩ = some (.int .i64 0) := cell_of_block q0 4
    have f4 : W0.frozen? ⟨w.heap.size, 4, none⟩ = false := free_of_block q0 4
    have b5 : W0.cell? ⟨w.heap.size, 5, none⟩ = some (.int .i64 0) := cell_of_block q0 5
    have f5 : W0.frozen? ⟨w.heap.size, 5, none⟩ = false := free_of_block q0 5
    have b6 : W0.cell? ⟨w.heap.size, 6, none⟩ = some (.slice none 0 0) := cell_of_block q0 6
    have f6 : W0.frozen? ⟨w.heap.size, 6, none⟩ = false := free_of_block q0 6
    clear h7 
    go_wp2_with fail
    have y0 := cell_of_block Hq.out 0
    have y1 := cell_of_block Hq.out 1
    have y2 := cell_of_block Hq.out 2
    have y3 := cell_of_block Hq.out 3
    have y4 := cell_of_block Hq.out 4
    have y5 := cell_of_block Hq.out 5
    have y6 := cell_of_block Hq.out 6
    refine bodyPost_ret (v := .tuple #[.agg #[.int .i64 0, .string ⟨#[]⟩, .string ⟨#[]⟩, .int .i64 0, .int .i64 0, .int .i64 0, .slice none 0 0], .string s, .bool true]) (by simp [results, Tryz.results44, go_sem, y0, y1, y2, y3, y4, y5, y6]) rfl ?_
    exact Hres.out
  have n44 : ((B : Int) == 44) = false := by simp; omega
  by_cases h41 : B = 41
  · have Hst : Hid (stopR (bl s) = true) := by
      unfold Hid; rw [Ht0.out]
      have : s[0]'hp = 41 := UInt8.toNat.inj (by rw [HB.out, h41]; rfl)
      rw [this]; rfl
    subst h41
    have h7 := set7 q0 rfl (.int .i64 0) (.string ⟨#[]⟩) (.string ⟨#[]⟩) (.int .i64 0) (.int .i64 0) (.int .i64 0) (.slice none 0 0)
    have Hres : Hid (RdRes w 0 s (.returned (.tuple #[.agg #[.int .i64 0, .string ⟨#[]⟩, .string ⟨#[]⟩, .int .i64 0, .int .i64 0, .int .i64 0, .slice none 0 0], .string s, .bool true])) (((((((W0.setCell ⟨w.heap.size, 0, none⟩ (.int .i64 0)).setCell ⟨w.heap.size, 1, none⟩ (.string ⟨#[]⟩)).setCell ⟨w.heap.size, 2, none⟩ (.string ⟨#[]⟩)).setCell ⟨w.heap.size, 3, none⟩ (.int .i64 0)).setCell ⟨w.heap.size, 4, none⟩ (.int .i64 0)).setCell ⟨w.heap.size, 5, none⟩ (.int .i64 0)).setCell ⟨w.heap.size, 6, none⟩ (.slice none 0 0))) := by
      refine ⟨Hf.out.step h7.2 (fun b hb h => by unfold Is at h; omega), _, _, _, _, _, _, _, _, _, _, _, rfl, ?_⟩
      exact .inr ⟨rfl, Ct.zero, rd_stop Hst.out, CAt.of_in (InAt.nil _ _) 0 ⟨#[]⟩ ⟨#[]⟩ 0 0 0⟩
    have Hq := Lib.hid h7.1
    have b0 : W0.cell? ⟨w.heap.size, 0, none⟩ = some (.int .i64 0) := cell_of_block q0 0
    have f0 : W0.frozen? ⟨w.heap.size, 0, none⟩ = false := free_of_block q0 0
    have b1 : W0.cell? ⟨w.heap.size, 1, none⟩ = some (.string ⟨#[]⟩) := cell_of_block q0 1
    have f1 : W0.frozen? ⟨w.heap.size, 1, none⟩ = false := free_of_block q0 1
    have b2 : W0.cell? ⟨w.heap.size, 2, none⟩ = some (.string ⟨#[]⟩) := cell_of_block q0 2
    have f2 : W0.frozen? ⟨w.heap.size, 2, none⟩ = false := free_of_block q0 2
    have b3 : W0.cell? ⟨w.heap.size, 3, none⟩ = some (.int .i64 0) := cell_of_block q0 3
    have f3 : W0.frozen? ⟨w.heap.size, 3, none⟩ = false := free_of_block q0 3
    have b4 : W0.cell? ⟨w.heap.size, 4, none⟩ = some (.int .i64 0) := cell_of_block q0 4
    have f4 : W0.frozen? ⟨w.heap.size, 4, none⟩ = false := free_of_block q0 4
    have b5 : W0.cell? ⟨w.heap.size, 5, none⟩ = some (.int .i64 0) := cell_of_block q0 5
    have f5 : W0.frozen? ⟨w.heap.size, 5, none⟩ = false := free_of_block q0 5
    have b6 : W0.cell? ⟨w.heap.size, 6, none⟩ = some (.slice none 0 0) := cell_of_block q0 6
    have f6 : W0.frozen? ⟨w.heap.size, 6, none⟩ = false := free_of_block q0 6
    clear h7 
    go_wp2_with fail
    have y0 := cell_of_block Hq.out 0
    have y1 := cell_of_block Hq.out 1
    have y2 := cell_of_block Hq.out 2
    have y3 := cell_of_block Hq.out 3
    have y4 := cell_of_block Hq.out 4
    have y5 := cell_of_block Hq.out 5
    have y6 := cell_of_block Hq.out 6
    refine bodyPost_ret (v := .tuple #[.agg #[.int .i64 0, .string ⟨#[]⟩, .string ⟨#[]⟩, .int .i64 0, .int .i64 0, .int .i64 0, .slice none 0 0], .string s, .bool true]) (by simp [results, Tryz.results44, go_sem, y0, y1, y2, y3, y4, y5, y6]) rfl ?_
    exact Hres.out
  have n41 : ((B : Int) == 41) = false := by simp; omega
  have Hns : Hid (stopR (bl s) = false) := by
    unfold Hid; rw [Ht0.out]
    have e1 : ¬ s[0]'hp = 44 := fun e => h44 (by rw [← HB.out, e]; rfl)
    have e2 : ¬ s[0]'hp = 41 := fun e => h41 (by rw [← HB.out, e]; rfl)
    simp [stopR, e1, e2]
  clear h44 h41
  have Hnone : Hid (rd 0 (bl s) = none) := by unfold Hid; rw [rd, if_neg (by rw [Hns.out]; simp)]
  have h7 := set7 q0 rfl (.int .i64 0) (.string ⟨#[]⟩) (.string ⟨#[]⟩) (.int .i64 0) (.int .i64 0) (.int .i64 0) (.slice none 0 0)
  have Hres : Hid (RdRes w 0 s (.returned (.tuple #[.agg #[.int .i64 0, .string ⟨#[]⟩, .string ⟨#[]⟩, .int .i64 0, .int .i64 0, .int .i64 0, .slice none 0 0], .string ⟨#[]⟩, .bool false])) (((((((W0.setCell ⟨w.heap.size, 0, none⟩ (.int .i64 0)).setCell ⟨w.heap.size, 1, none⟩ (.string ⟨#[]⟩)).setCell ⟨w.heap.size, 2, none⟩ (.string ⟨#[]⟩)).setCell ⟨w.heap.size, 3, none⟩ (.int .i64 0)).setCell ⟨w.heap.size, 4, none⟩ (.int .i64 0)).setCell ⟨w.heap.size, 5, none⟩ (.int .i64 0)).setCell ⟨w.heap.size, 6, none⟩ (.slice none 0 0))) := by
    refine ⟨Hf.out.step h7.2 (fun b hb h => by unfold Is at h; omega), _, _, _, _, _, _, _, _, _, _, _, rfl, ?_⟩
    exact .inl ⟨rfl, Hnone.out⟩
  have Hq := Lib.hid h7.1
  have b0 : W0.cell? ⟨w.heap.size, 0, none⟩ = some (.int .i64 0) := cell_of_block q0 0
  have f0 : W0.frozen? ⟨w.heap.size, 0, none⟩ = false := free_of_block q0 0
  have b1 : W0.cell? ⟨w.heap.size, 1, none⟩ = some (.string ⟨#[]⟩) := cell_of_block q0 1
  have f1 : W0.frozen? ⟨w.heap.size, 1, none⟩ = false := free_of_block q0 1
  have b2 : W0.cell? ⟨w.heap.size, 2, none⟩ = some (.string ⟨#[]⟩) := cell_of_block q0 2
  have f2 : W0.frozen? ⟨w.heap.size, 2, none⟩ = false := free_of_block q0 2
  have b3 : W0.cell? ⟨w.heap.size, 3, none⟩ = some (.int .i64 0) := cell_of_block q0 3
  have f3 : W0.frozen? ⟨w.heap.size, 3, none⟩ = false := free_of_block q0 3
  have b4 : W0.cell? ⟨w.heap.size, 4, none⟩ = some (.int .i64 0) := cell_of_block q0 4
  have f4 : W0.frozen? ⟨w.heap.size, 4, none⟩ = false := free_of_block q0 4
  have b5 : W0.cell? ⟨w.heap.size, 5, none⟩ = some (.int .i64 0) := cell_of_block q0 5
  have f5 : W0.frozen? ⟨w.heap.size, 5, none⟩ = false := free_of_block q0 5
  have b6 : W0.cell? ⟨w.heap.size, 6, none⟩ = some (.slice none 0 0) := cell_of_block q0 6
  have f6 : W0.frozen? ⟨w.heap.size, 6, none⟩ = false := free_of_block q0 6
  clear h7 
  go_wp2_with fail
  have y0 := cell_of_block Hq.out 0
  have y1 := cell_of_block Hq.out 1
  have y2 := cell_of_block Hq.out 2
  have y3 := cell_of_block Hq.out 3
  have y4 := cell_of_block Hq.out 4
  have y5 := cell_of_block Hq.out 5
  have y6 := cell_of_block Hq.out 6
  refine bodyPost_ret (v := .tuple #[.agg #[.int .i64 0, .string ⟨#[]⟩, .string ⟨#[]⟩, .int .i64 0, .int .i64 0, .int .i64 0, .slice none 0 0], .string ⟨#[]⟩, .bool false]) (by simp [results, Tryz.results44, go_sem, y0, y1, y2, y3, y4, y5, y6]) rfl ?_
  exact Hres.out

/-- The head of a content in terms of its pieces. -/
theorem rHead_q (ps qs : List (List UInt8)) (hq : qs = if ps.length = 3 then spl 47 (ps.getD 2 []) else []) (h2 : ¬ ps.length < 2) : rHead ps =
    if ps.getD 0 [] = [102, 115] ∧ ps.length = 3 then some (.mk 1 (baL (ps.getD 1 [])) (baL (ps.getD 2 [])) 0 0 0 [])
    else if ps.getD 0 [] = [114, 97, 105, 100] ∧ qs.length = 3 then some (.mk 2 (baL (ps.getD 1 [])) ⟨#[]⟩ (rNum (qs.getD 0 [])) (rNum (qs.getD 1 [])) (rNum (qs.getD 2 [])) [])
    else if ps.getD 0 [] = [99, 114, 121, 112, 116] ∧ ps.length = 2 then some (.mk 3 (baL (ps.getD 1 [])) ⟨#[]⟩ 0 0 0 [])
    else if ps.getD 0 [] = [112, 118] ∧ qs.length = 2 then some (.mk 4 (baL (ps.getD 1 [])) ⟨#[]⟩ (rNum (qs.getD 0 [])) (rNum (qs.getD 1 [])) 0 [])
    else if ps.getD 0 [] = [116, 97, 98, 108, 101] ∧ ps.length = 2 then some (.mk 5 (baL (ps.getD 1 [])) ⟨#[]⟩ 0 0 0 [])
    else none := by
  unfold rHead
  rw [if_neg h2]
  by_cases h3 : ps.length = 3
  · rw [if_pos h3] at hq
    subst hq
    simp only [h3, true_and]
  · rw [if_neg h3] at hq
    subst hq
    simp only [h3, false_and, and_false, if_false, List.length_nil]
    simp
theorem getD_at {l : List (List UInt8)} {j : Nat} (h : j < l.length) : l[j]? = some (l.getD j []) := by
  rw [List.getD_eq_getElem?_getD, List.getElem?_eq_getElem h]; rfl
theorem baL_is {l m : List UInt8} : ((baL l).toList == m) = decide (l = m) := ba_eq (bl_mk l)
theorem sz_of {l : List UInt8} {s : ByteArray} (h : l.length ≤ s.size) (hs : s.size ≤ 900) : (baL l).size ≤ 900 := by rw [baL_size]; omega

theorem kinds6 (p : List UInt8) :
    (p = [102, 115] ∧ ((baL p).toList == [102, 115]) = true ∧ ((baL p).toList == [114, 97, 105, 100]) = false ∧ ((baL p).toList == [99, 114, 121, 112, 116]) = false ∧ ((baL p).toList == [112, 118]) = false ∧ ((baL p).toList == [116, 97, 98, 108, 101]) = false) ∨
    (p = [114, 97, 105, 100] ∧ ((baL p).toList == [102, 115]) = false ∧ ((baL p).toList == [114, 97, 105, 100]) = true ∧ ((baL p).toList == [99, 114, 121, 112, 116]) = false ∧ ((baL p).toList == [112, 118]) = false ∧ ((baL p).toList == [116, 97, 98, 108, 101]) = false) ∨
    (p = [99, 114, 121, 112, 116] ∧ ((baL p).toList == [102, 115]) = false ∧ ((baL p).toList == [114, 97, 105, 100]) = false ∧ ((baL p).toList == [99, 114, 121, 112, 116]) = true ∧ ((baL p).toList == [112, 118]) = false ∧ ((baL p).toList == [116, 97, 98, 108, 101]) = false) ∨
    (p = [112, 118] ∧ ((baL p).toList == [102, 115]) = false ∧ ((baL p).toList == [114, 97, 105, 100]) = false ∧ ((baL p).toList == [99, 114, 121, 112, 116]) = false ∧ ((baL p).toList == [112, 118]) = true ∧ ((baL p).toList == [116, 97, 98, 108, 101]) = false) ∨
    (p = [116, 97, 98, 108, 101] ∧ ((baL p).toList == [102, 115]) = false ∧ ((baL p).toList == [114, 97, 105, 100]) = false ∧ ((baL p).toList == [99, 114, 121, 112, 116]) = false ∧ ((baL p).toList == [112, 118]) = false ∧ ((baL p).toList == [116, 97, 98, 108, 101]) = true) ∨
    (p ≠ [102, 115] ∧ p ≠ [114, 97, 105, 100] ∧ p ≠ [99, 114, 121, 112, 116] ∧ p ≠ [112, 118] ∧ p ≠ [116, 97, 98, 108, 101] ∧ ((baL p).toList == [102, 115]) = false ∧ ((baL p).toList == [114, 97, 105, 100]) = false ∧ ((baL p).toList == [99, 114, 121, 112, 116]) = false ∧ ((baL p).toList == [112, 118]) = false ∧ ((baL p).toList == [116, 97, 98, 108, 101]) = false) := by
  simp only [baL_is]
  by_cases h1 : p = [102, 115]
  · left; subst h1; decide
  by_cases h2 : p = [114, 97, 105, 100]
  · right; left; subst h2; decide
  by_cases h3 : p = [99, 114, 121, 112, 116]
  · right; right; left; subst h3; decide
  by_cases h4 : p = [112, 118]
  · right; right; right; left; subst h4; decide
  by_cases h5 : p = [116, 97, 98, 108, 101]
  · right; right; right; right; left; subst h5; decide
  · right; right; right; right; right; simp [h1, h2, h3, h4, h5]
theorem spl_sz {ps qs : List (List UInt8)} (hq : qs = if ps.length = 3 then spl 47 (ps.getD 2 []) else []) (hp : ∀ x ∈ ps, (baL x).size ≤ 900) {j : Nat} {x : List UInt8} (hx : qs[j]? = some x) : (baL x).size ≤ 900 := by
  by_cases h3 : ps.length = 3
  · rw [if_pos h3] at hq
    subst hq
    have h1 := spl_mem (List.mem_of_getElem? hx)
    have h2 := hp _ (List.mem_of_getElem? (getD_at (l := ps) (j := 2) (by rw [h3]; decide)))
    rw [baL_size] at h2 ⊢
    omega
  · rw [if_neg h3] at hq; subst hq; simp at hx

set_option maxRecDepth 100000 in
set_option maxHeartbeats 8000000 in
theorem rd_succ (d : Nat) (hd : d + 1 ≤ 6) (ih : RdSpec d) : RdSpec (d + 1) := by
  intro s w hs hE
  have Ih := Lib.hid ih
  obtain ⟨D, hD⟩ : ∃ D : Int, D = ((d + 1 : Nat) : Int) := ⟨_, rfl⟩
  rw [← hD]
  have nd : ¬ D ≤ 0 := by omega
  have nd2 : D - 1 = (d : Int) := by omega
  clear hD ih
  have h0 : Fr No w (w.alloc (.cells #[.int .i64 0, .string ⟨#[]⟩, .string ⟨#[]⟩, .int .i64 0, .int .i64 0, .int .i64 0, .slice none 0 0] 48)) := (Fr.refl _ _).alloc _
  have q0 := block_alloc w (.cells #[.int .i64 0, .string ⟨#[]⟩, .string ⟨#[]⟩, .int .i64 0, .int .i64 0, .int .i64 0, .slice none 0 0] 48)
  have hsz : w.heap.size < (w.alloc (.cells #[.int .i64 0, .string ⟨#[]⟩, .string ⟨#[]⟩, .int .i64 0, .int .i64 0, .int .i64 0, .slice none 0 0] 48)).heap.size := by simp
  obtain ⟨W0, hW0⟩ : ∃ W0, W0 = w.alloc (.cells #[.int .i64 0, .string ⟨#[]⟩, .string ⟨#[]⟩, .int .i64 0, .int .i64 0, .int .i64 0, .slice none 0 0] 48) := ⟨_, rfl⟩
  rw [← hW0] at h0 q0 hsz
  have hE0 := hE.no h0
  have Hf := Lib.hid h0
  have hsm : s.size ≤ 9223372036854775807 := by omega
  clear h0 hE
  go_enter Tryz.func44, Tryz.ntmps44
  go_upto_region 1 with (fail)
  rw [← hW0]
  clear hW0
  rcases he : s.toList.isEmpty with _ | _
  case true =>
    have Hst : Hid (stopR (bl s) = true) := stopR_emp he
    have h7 := set7 q0 rfl (.int .i64 0) (.string ⟨#[]⟩) (.string ⟨#[]⟩) (.int .i64 0) (.int .i64 0) (.int .i64 0) (.slice none 0 0)
    have Hres : Hid (RdRes w (d + 1) s (.returned (.tuple #[.agg #[.int .i64 0, .string ⟨#[]⟩, .string ⟨#[]⟩, .int .i64 0, .int .i64 0, .int .i64 0, .slice none 0 0], .string s, .bool true])) (((((((W0.setCell ⟨w.heap.size, 0, none⟩ (.int .i64 0)).setCell ⟨w.heap.size, 1, none⟩ (.string ⟨#[]⟩)).setCell ⟨w.heap.size, 2, none⟩ (.string ⟨#[]⟩)).setCell ⟨w.heap.size, 3, none⟩ (.int .i64 0)).setCell ⟨w.heap.size, 4, none⟩ (.int .i64 0)).setCell ⟨w.heap.size, 5, none⟩ (.int .i64 0)).setCell ⟨w.heap.size, 6, none⟩ (.slice none 0 0))) := by
      refine ⟨Hf.out.step h7.2 (fun b hb h => by unfold Is at h; omega), _, _, _, _, _, _, _, _, _, _, _, rfl, ?_⟩
      exact .inr ⟨rfl, Ct.zero, rd_stop Hst.out, CAt.of_in (InAt.nil _ _) 0 ⟨#[]⟩ ⟨#[]⟩ 0 0 0⟩
    have Hq := Lib.hid h7.1
    have b0 : W0.cell? ⟨w.heap.size, 0, none⟩ = some (.int .i64 0) := cell_of_block q0 0
    have f0 : W0.frozen? ⟨w.heap.size, 0, none⟩ = false := free_of_block q0 0
    have b1 : W0.cell? ⟨w.heap.size, 1, none⟩ = some (.string ⟨#[]⟩) := cell_of_block q0 1
    have f1 : W0.frozen? ⟨w.heap.size, 1, none⟩ = false := free_of_block q0 1
    have b2 : W0.cell? ⟨w.heap.size, 2, none⟩ = some (.string ⟨#[]⟩) := cell_of_block q0 2
    have f2 : W0.frozen? ⟨w.heap.size, 2, none⟩ = false := free_of_block q0 2
    have b3 : W0.cell? ⟨w.heap.size, 3, none⟩ = some (.int .i64 0) := cell_of_block q0 3
    have f3 : W0.frozen? ⟨w.heap.size, 3, none⟩ = false := free_of_block q0 3
    have b4 : W0.cell? ⟨w.heap.size, 4, none⟩ = some (.int .i64 0) := cell_of_block q0 4
    have f4 : W0.frozen? ⟨w.heap.size, 4, none⟩ = false := free_of_block q0 4
    have b5 : W0.cell? ⟨w.heap.size, 5, none⟩ = some (.int .i64 0) := cell_of_block q0 5
    have f5 : W0.frozen? ⟨w.heap.size, 5, none⟩ = false := free_of_block q0 5
    have b6 : W0.cell? ⟨w.heap.size, 6, none⟩ = some (.slice none 0 0) := cell_of_block q0 6
    have f6 : W0.frozen? ⟨w.heap.size, 6, none⟩ = false := free_of_block q0 6
    clear h7 
    go_wp2_with fail
    have y0 := cell_of_block Hq.out 0
    have y1 := cell_of_block Hq.out 1
    have y2 := cell_of_block Hq.out 2
    have y3 := cell_of_block Hq.out 3
    have y4 := cell_of_block Hq.out 4
    have y5 := cell_of_block Hq.out 5
    have y6 := cell_of_block Hq.out 6
    refine bodyPost_ret (v := .tuple #[.agg #[.int .i64 0, .string ⟨#[]⟩, .string ⟨#[]⟩, .int .i64 0, .int .i64 0, .int .i64 0, .slice none 0 0], .string s, .bool true]) (by simp [results, Tryz.results44, go_sem, y0, y1, y2, y3, y4, y5, y6]) rfl ?_
    exact Hres.out
  obtain ⟨hp, t0, ht0⟩ := bl_first he
  have hp' : (0 : Int) < s.size := by omega
  obtain ⟨B, hB⟩ : ∃ B : Nat, (s[0]'hp).toNat = B := ⟨_, rfl⟩
  have Ht0 := Lib.hid ht0
  have HB := Lib.hid hB
  clear ht0
  by_cases h44 : B = 44
  · have Hst : Hid (stopR (bl s) = true) := by
      unfold Hid; rw [Ht0.out]
      have : s[0]'hp = 44 := UInt8.toNat.inj (by rw [HB.out, h44]; rfl)
      rw [this]; rfl
    subst h44
    have h7 := set7 q0 rfl (.int .i64 0) (.string ⟨#[]⟩) (.string ⟨#[]⟩) (.int .i64 0) (.int .i64 0) (.int .i64 0) (.slice none 0 0)
    have Hres : Hid (RdRes w (d + 1) s (.returned (.tuple #[.agg #[.int .i64 0, .string ⟨#[]⟩, .string ⟨#[]⟩, .int .i64 0, .int .i64 0, .int .i64 0, .slice none 0 0], .string s, .bool true])) (((((((W0.setCell ⟨w.heap.size, 0, none⟩ (.int .i64 0)).setCell ⟨w.heap.size, 1, none⟩ (.string ⟨#[]⟩)).setCell ⟨w.heap.size, 2, none⟩ (.string ⟨#[]⟩)).setCell ⟨w.heap.size, 3, none⟩ (.int .i64 0)).setCell ⟨w.heap.size, 4, none⟩ (.int .i64 0)).setCell ⟨w.heap.size, 5, none⟩ (.int .i64 0)).setCell ⟨w.heap.size, 6, none⟩ (.slice none 0 0))) := by
      refine ⟨Hf.out.step h7.2 (fun b hb h => by unfold Is at h; omega), _, _, _, _, _, _, _, _, _, _, _, rfl, ?_⟩
      exact .inr ⟨rfl, Ct.zero, rd_stop Hst.out, CAt.of_in (InAt.nil _ _) 0 ⟨#[]⟩ ⟨#[]⟩ 0 0 0⟩
    have Hq := Lib.hid h7.1
    have b0 : W0.cell? ⟨w.heap.size, 0, none⟩ = some (.int .i64 0) := cell_of_block q0 0
    have f0 : W0.frozen? ⟨w.heap.size, 0, none⟩ = false := free_of_block q0 0
    have b1 : W0.cell? ⟨w.heap.size, 1, none⟩ = some (.string ⟨#[]⟩) := cell_of_block q0 1
    have f1 : W0.frozen? ⟨w.heap.size, 1, none⟩ = false := free_of_block q0 1
    have b2 : W0.cell? ⟨w.heap.size, 2, none⟩ = some (.string ⟨#[]⟩) := cell_of_block q0 2
    have f2 : W0.frozen? ⟨w.heap.size, 2, none⟩ = false := free_of_block q0 2
    have b3 : W0.cell? ⟨w.heap.size, 3, none⟩ = some (.int .i64 0) := cell_of_block q0 3
    have f3 : W0.frozen? ⟨w.heap.size, 3, none⟩ = false := free_of_block q0 3
    have b4 : W0.cell? ⟨w.heap.size, 4, none⟩ = some (.int .i64 0) := cell_of_block q0 4
    have f4 : W0.frozen? ⟨w.heap.size, 4, none⟩ = false := free_of_block q0 4
    have b5 : W0.cell? ⟨w.heap.size, 5, none⟩ = some (.int .i64 0) := cell_of_block q0 5
    have f5 : W0.frozen? ⟨w.heap.size, 5, none⟩ = false := free_of_block q0 5
    have b6 : W0.cell? ⟨w.heap.size, 6, none⟩ = some (.slice none 0 0) := cell_of_block q0 6
    have f6 : W0.frozen? ⟨w.heap.size, 6, none⟩ = false := free_of_block q0 6
    clear h7 
    go_wp2_with fail
    have y0 := cell_of_block Hq.out 0
    have y1 := cell_of_block Hq.out 1
    have y2 := cell_of_block Hq.out 2
    have y3 := cell_of_block Hq.out 3
    have y4 := cell_of_block Hq.out 4
    have y5 := cell_of_block Hq.out 5
    have y6 := cell_of_block Hq.out 6
    refine bodyPost_ret (v := .tuple #[.agg #[.int .i64 0, .string ⟨#[]⟩, .string ⟨#[]⟩, .int .i64 0, .int .i64 0, .int .i64 0, .slice none 0 0], .string s, .bool true]) (by simp [results, Tryz.results44, go_sem, y0, y1, y2, y3, y4, y5, y6]) rfl ?_
    exact Hres.out
  have n44 : ((B : Int) == 44) = false := by simp; omega
  by_cases h41 : B = 41
  · have Hst : Hid (stopR (bl s) = true) := by
      unfold Hid; rw [Ht0.out]
      have : s[0]'hp = 41 := UInt8.toNat.inj (by rw [HB.out, h41]; rfl)
      rw [this]; rfl
    subst h41
    have h7 := set7 q0 rfl (.int .i64 0) (.string ⟨#[]⟩) (.string ⟨#[]⟩) (.int .i64 0) (.int .i64 0) (.int .i64 0) (.slice none 0 0)
    have Hres : Hid (RdRes w (d + 1) s (.returned (.tuple #[.agg #[.int .i64 0, .string ⟨#[]⟩, .string ⟨#[]⟩, .int .i64 0, .int .i64 0, .int .i64 0, .slice none 0 0], .string s, .bool true])) (((((((W0.setCell ⟨w.heap.size, 0, none⟩ (.int .i64 0)).setCell ⟨w.heap.size, 1, none⟩ (.string ⟨#[]⟩)).setCell ⟨w.heap.size, 2, none⟩ (.string ⟨#[]⟩)).setCell ⟨w.heap.size, 3, none⟩ (.int .i64 0)).setCell ⟨w.heap.size, 4, none⟩ (.int .i64 0)).setCell ⟨w.heap.size, 5, none⟩ (.int .i64 0)).setCell ⟨w.heap.size, 6, none⟩ (.slice none 0 0))) := by
      refine ⟨Hf.out.step h7.2 (fun b hb h => by unfold Is at h; omega), _, _, _, _, _, _, _, _, _, _, _, rfl, ?_⟩
      exact .inr ⟨rfl, Ct.zero, rd_stop Hst.out, CAt.of_in (InAt.nil _ _) 0 ⟨#[]⟩ ⟨#[]⟩ 0 0 0⟩
    have Hq := Lib.hid h7.1
    have b0 : W0.cell? ⟨w.heap.size, 0, none⟩ = some (.int .i64 0) := cell_of_block q0 0
    have f0 : W0.frozen? ⟨w.heap.size, 0, none⟩ = false := free_of_block q0 0
    have b1 : W0.cell? ⟨w.heap.size, 1, none⟩ = some (.string ⟨#[]⟩) := cell_of_block q0 1
    have f1 : W0.frozen? ⟨w.heap.size, 1, none⟩ = false := free_of_block q0 1
    have b2 : W0.cell? ⟨w.heap.size, 2, none⟩ = some (.string ⟨#[]⟩) := cell_of_block q0 2
    have f2 : W0.frozen? ⟨w.heap.size, 2, none⟩ = false := free_of_block q0 2
    have b3 : W0.cell? ⟨w.heap.size, 3, none⟩ = some (.int .i64 0) := cell_of_block q0 3
    have f3 : W0.frozen? ⟨w.heap.size, 3, none⟩ = false := free_of_block q0 3
    have b4 : W0.cell? ⟨w.heap.size, 4, none⟩ = some (.int .i64 0) := cell_of_block q0 4
    have f4 : W0.frozen? ⟨w.heap.size, 4, none⟩ = false := free_of_block q0 4
    have b5 : W0.cell? ⟨w.heap.size, 5, none⟩ = some (.int .i64 0) := cell_of_block q0 5
    have f5 : W0.frozen? ⟨w.heap.size, 5, none⟩ = false := free_of_block q0 5
    have b6 : W0.cell? ⟨w.heap.size, 6, none⟩ = some (.slice none 0 0) := cell_of_block q0 6
    have f6 : W0.frozen? ⟨w.heap.size, 6, none⟩ = false := free_of_block q0 6
    clear h7 
    go_wp2_with fail
    have y0 := cell_of_block Hq.out 0
    have y1 := cell_of_block Hq.out 1
    have y2 := cell_of_block Hq.out 2
    have y3 := cell_of_block Hq.out 3
    have y4 := cell_of_block Hq.out 4
    have y5 := cell_of_block Hq.out 5
    have y6 := cell_of_block Hq.out 6
    refine bodyPost_ret (v := .tuple #[.agg #[.int .i64 0, .string ⟨#[]⟩, .string ⟨#[]⟩, .int .i64 0, .int .i64 0, .int .i64 0, .slice none 0 0], .string s, .bool true]) (by simp [results, Tryz.results44, go_sem, y0, y1, y2, y3, y4, y5, y6]) rfl ?_
    exact Hres.out
  have n41 : ((B : Int) == 41) = false := by simp; omega
  have Hns : Hid (stopR (bl s) = false) := by
    unfold Hid; rw [Ht0.out]
    have e1 : ¬ s[0]'hp = 44 := fun e => h44 (by rw [← HB.out, e]; rfl)
    have e2 : ¬ s[0]'hp = 41 := fun e => h41 (by rw [← HB.out, e]; rfl)
    simp [stopR, e1, e2]
  clear h44 h41
  have Hrd : Hid (rd (d + 1) (bl s) = (rHead (spl 58 (upto [40, 44, 41] (bl s)))).bind fun c => rBox (fun x => rL (rd d) (x.length + 1) [] x) c (past [40, 44, 41] (bl s))) := by
    unfold Hid; rw [rd, if_neg (by rw [Hns.out]; simp)]
  have hul := upto_len [40, 44, 41] (bl s)
  have hpl := past_len [40, 44, 41] (bl s)
  have hbs : (bl s).length = s.size := (Lib.size_eq s).symm
  obtain ⟨hdB, hhd⟩ : ∃ x, x = baL (upto [40, 44, 41] (bl s)) := ⟨_, rfl⟩
  obtain ⟨rs, hrs⟩ : ∃ x, x = baL (past [40, 44, 41] (bl s)) := ⟨_, rfl⟩
  have hbh : bl hdB = upto [40, 44, 41] (bl s) := by rw [hhd]; exact bl_mk _
  have hbr : bl rs = past [40, 44, 41] (bl s) := by rw [hrs]; exact bl_mk _
  have hhs : hdB.size ≤ 900 := by rw [hhd]; exact sz_of (by omega) hs
  have hrsz : rs.size ≤ 900 := by rw [hrs]; exact sz_of (by omega) hs
  have hU : ∀ W, Calls Tryz.prog 68 #[.string s, .string ⟨#[40, 44, 41]⟩] W fun e w' => e = .returned (.tuple #[.string hdB, .string rs]) ∧ Fr No W w' := by
    intro W; rw [hhd, hrs]; exact r_until s ⟨#[40, 44, 41]⟩ W (by unfold maxLen; omega)
  have HU := Lib.hid hU
  have Hbh := Lib.hid hbh
  have Hbr := Lib.hid hbr
  have Hns2 := Hns
  clear hU hbh hbr hhd hrs hul hpl hbs HB Ht0 Hns
  go_wp2_with fail
  refine (HU.out _).mono ?_
  rintro e w1 ⟨rfl, hf1⟩
  have hs1 := hf1.size
  have q1 := hf1.heap q0 id
  have hE1 := hE0.no hf1
  have Hf1 := Lib.hid (Hf.out.step hf1 (fun _ _ h => h))
  clear hf1 q0 hE0
  go_wp2_with fail
  refine (x_split 58 hdB _ (by omega) hE1).mono ?_
  rintro e w2 ⟨n, rfl, hn, hn1, hc, hf2, hlt2⟩
  rw [Hbh.out] at hn hc
  obtain ⟨ps, hps⟩ : ∃ ps, ps = spl 58 (upto [40, 44, 41] (bl s)) := ⟨_, rfl⟩
  have Hrd2 : Hid (rd (d + 1) (bl s) = (rHead ps).bind fun c => rBox (fun x => rL (rd d) (x.length + 1) [] x) c (bl rs)) := by
    unfold Hid; rw [Hrd.out, hps, Hbr.out]
  rw [← hps] at hn hc
  have hpsz : ∀ x ∈ ps, (baL x).size ≤ 900 := fun x hx => by
    rw [hps] at hx
    have h1 := spl_mem hx
    have h2 := upto_len [40, 44, 41] (bl s)
    have h3 : (bl s).length = s.size := (Lib.size_eq s).symm
    exact sz_of (by omega) hs
  have q2 := hf2.heap q1 id
  have hE2 := hE1.no hf2
  have h9 : 9 ≤ w2.heap.size := hE2.sz
  have Hf2 := Lib.hid (Hf1.out.step hf2 (fun _ _ h => h))
  have hx3 : Fr No w2 (w2.alloc (.cells #[.int .i64 0, .string ⟨#[]⟩, .string ⟨#[]⟩, .int .i64 0, .int .i64 0, .int .i64 0, .slice none 0 0] 48)) := (Fr.refl _ _).alloc _
  have qc := block_alloc w2 (.cells #[.int .i64 0, .string ⟨#[]⟩, .string ⟨#[]⟩, .int .i64 0, .int .i64 0, .int .i64 0, .slice none 0 0] 48)
  have q3 := hx3.heap q2 id
  have hE3 := hE2.no hx3
  have Hf3 := Lib.hid (Hf2.out.step hx3 (fun _ _ h => h))
  have Hc3 : Hid (∀ j x, ps[j]? = some x → (w2.alloc (.cells #[.int .i64 0, .string ⟨#[]⟩, .string ⟨#[]⟩, .int .i64 0, .int .i64 0, .int .i64 0, .slice none 0 0] 48)).cell? ⟨w1.heap.size, j, none⟩ = some (.string (baL x))) := fun j x hx => hx3.cell (hc j x hx) id
  have Hpsz := Lib.hid hpsz
  have hs3 : w2.heap.size < (w2.alloc (.cells #[.int .i64 0, .string ⟨#[]⟩, .string ⟨#[]⟩, .int .i64 0, .int .i64 0, .int .i64 0, .slice none 0 0] 48)).heap.size := by simp
  have Hn := Lib.hid hn
  clear hc hf2 q1 hE1 q2 hE2 hx3 hps hpsz Hrd hn
  go_upto_region 8 with (fail)
  generalize w2.alloc (.cells #[.int .i64 0, .string ⟨#[]⟩, .string ⟨#[]⟩, .int .i64 0, .int .i64 0, .int .i64 0, .slice none 0 0] 48) = W3 at *
  by_cases hn2 : n < 2
  · have Hnone : Hid (rd (d + 1) (bl s) = none) := by
      unfold Hid; rw [Hrd2.out]; unfold rHead; rw [if_pos (by rw [← Hn.out]; exact hn2)]; rfl
    have hn2' : (n : Int) < 2 := by omega
    have h7 := set7 q3 rfl (.int .i64 0) (.string ⟨#[]⟩) (.string ⟨#[]⟩) (.int .i64 0) (.int .i64 0) (.int .i64 0) (.slice none 0 0)
    have Hres : Hid (RdRes w (d + 1) s (.returned (.tuple #[.agg #[.int .i64 0, .string ⟨#[]⟩, .string ⟨#[]⟩, .int .i64 0, .int .i64 0, .int .i64 0, .slice none 0 0], .string ⟨#[]⟩, .bool false])) (((((((W3.setCell ⟨w.heap.size, 0, none⟩ (.int .i64 0)).setCell ⟨w.heap.size, 1, none⟩ (.string ⟨#[]⟩)).setCell ⟨w.heap.size, 2, none⟩ (.string ⟨#[]⟩)).setCell ⟨w.heap.size, 3, none⟩ (.int .i64 0)).setCell ⟨w.heap.size, 4, none⟩ (.int .i64 0)).setCell ⟨w.heap.size, 5, none⟩ (.int .i64 0)).setCell ⟨w.heap.size, 6, none⟩ (.slice none 0 0))) := by
      refine ⟨Hf3.out.step h7.2 (fun b hb h => by unfold Is at h; omega), _, _, _, _, _, _, _, _, _, _, _, rfl, ?_⟩
      exact .inl ⟨rfl, Hnone.out⟩
    have Hq := Lib.hid h7.1
    have b0 : W3.cell? ⟨w.heap.size, 0, none⟩ = some (.int .i64 0) := cell_of_block q3 0
    have f0 : W3.frozen? ⟨w.heap.size, 0, none⟩ = false := free_of_block q3 0
    have b1 : W3.cell? ⟨w.heap.size, 1, none⟩ = some (.string ⟨#[]⟩) := cell_of_block q3 1
    have f1 : W3.frozen? ⟨w.heap.size, 1, none⟩ = false := free_of_block q3 1
    have b2 : W3.cell? ⟨w.heap.size, 2, none⟩ = some (.string ⟨#[]⟩) := cell_of_block q3 2
    have f2 : W3.frozen? ⟨w.heap.size, 2, none⟩ = false := free_of_block q3 2
    have b3 : W3.cell? ⟨w.heap.size, 3, none⟩ = some (.int .i64 0) := cell_of_block q3 3
    have f3 : W3.frozen? ⟨w.heap.size, 3, none⟩ = false := free_of_block q3 3
    have b4 : W3.cell? ⟨w.heap.size, 4, none⟩ = some (.int .i64 0) := cell_of_block q3 4
    have f4 : W3.frozen? ⟨w.heap.size, 4, none⟩ = false := free_of_block q3 4
    have b5 : W3.cell? ⟨w.heap.size, 5, none⟩ = some (.int .i64 0) := cell_of_block q3 5
    have f5 : W3.frozen? ⟨w.heap.size, 5, none⟩ = false := free_of_block q3 5
    have b6 : W3.cell? ⟨w.heap.size, 6, none⟩ = some (.slice none 0 0) := cell_of_block q3 6
    have f6 : W3.frozen? ⟨w.heap.size, 6, none⟩ = false := free_of_block q3 6
    have a0 : W3.cell? ⟨w2.heap.size, 0, none⟩ = some (.int .i64 0) := cell_of_block qc 0
    have a1 : W3.cell? ⟨w2.heap.size, 1, none⟩ = some (.string ⟨#[]⟩) := cell_of_block qc 1
    have a2 : W3.cell? ⟨w2.heap.size, 2, none⟩ = some (.string ⟨#[]⟩) := cell_of_block qc 2
    have a3 : W3.cell? ⟨w2.heap.size, 3, none⟩ = some (.int .i64 0) := cell_of_block qc 3
    have a4 : W3.cell? ⟨w2.heap.size, 4, none⟩ = some (.int .i64 0) := cell_of_block qc 4
    have a5 : W3.cell? ⟨w2.heap.size, 5, none⟩ = some (.int .i64 0) := cell_of_block qc 5
    have a6 : W3.cell? ⟨w2.heap.size, 6, none⟩ = some (.slice none 0 0) := cell_of_block qc 6
    clear h7 
    go_wp2_with fail
    have y0 := cell_of_block Hq.out 0
    have y1 := cell_of_block Hq.out 1
    have y2 := cell_of_block Hq.out 2
    have y3 := cell_of_block Hq.out 3
    have y4 := cell_of_block Hq.out 4
    have y5 := cell_of_block Hq.out 5
    have y6 := cell_of_block Hq.out 6
    refine bodyPost_ret (v := .tuple #[.agg #[.int .i64 0, .string ⟨#[]⟩, .string ⟨#[]⟩, .int .i64 0, .int .i64 0, .int .i64 0, .slice none 0 0], .string ⟨#[]⟩, .bool false]) (by simp [results, Tryz.results44, go_sem, y0, y1, y2, y3, y4, y5, y6]) rfl ?_
    exact Hres.out
  have hn2' : ¬ (n : Int) < 2 := by omega
  have p1 : W3.cell? ⟨w1.heap.size, 1, none⟩ = some (.string (baL (ps.getD 1 []))) := Hc3.out 1 _ (getD_at (by rw [← Hn.out]; omega))
  have z1 : W3.cell? ⟨w2.heap.size, 1, none⟩ = some (.string ⟨#[]⟩) := cell_of_block qc 1
  have f1 : W3.frozen? ⟨w2.heap.size, 1, none⟩ = false := free_of_block qc 1
  have n1' : (1 : Int) < n := by omega
  obtain ⟨idb, hid⟩ : ∃ x, x = baL (ps.getD 1 []) := ⟨_, rfl⟩
  rw [← hid] at p1
  have Hid1 := Lib.hid hid
  have q4c := block_setCell qc 1 (.string idb)
  have fx4 : Fr (Is w2.heap.size) W3 (W3.setCell ⟨w2.heap.size, 1, none⟩ (.string idb)) := Fr.setAt (Fr.refl _ _) _
  have q44 := fx4.heap q3 (fun h => by unfold Is at h; omega)
  have hE4 := hE3.fr fx4 (fun b hb h => by unfold Is at h; omega)
  have Hf4 := Lib.hid (Hf3.out.step fx4 (fun b hb h => by unfold Is at h; omega))
  have Hc4 : Hid (∀ j x, ps[j]? = some x → (W3.setCell ⟨w2.heap.size, 1, none⟩ (.string idb)).cell? ⟨w1.heap.size, j, none⟩ = some (.string (baL x))) := fun j x hx => fx4.cell (Hc3.out j x hx) (fun h => by unfold Is at h; simp only at h; omega)
  have hs4 := fx4.size
  clear hid q3 hE3 fx4 qc
  go_upto_region 11 with (fail)
  have e4c : (#[.int .i64 0, .string ⟨#[]⟩, .string ⟨#[]⟩, .int .i64 0, .int .i64 0, .int .i64 0, .slice none 0 0] : Array Value).setIfInBounds 1 (.string idb) = #[.int .i64 0, .string idb, .string ⟨#[]⟩, .int .i64 0, .int .i64 0, .int .i64 0, .slice none 0 0] := rfl
  rw [e4c] at q4c
  clear e4c
  generalize W3.setCell ⟨w2.heap.size, 1, none⟩ (.string idb) = W4 at *
  clear p1 z1 f1
  obtain ⟨qs, hqs⟩ : ∃ qs, qs = if ps.length = 3 then spl 47 (ps.getD 2 []) else [] := ⟨_, rfl⟩
  have Hqs := Lib.hid hqs
  have hlt4 : w2.heap.size < W4.heap.size := by omega
  clear hqs
  go_upto_if 49 with (fail)
  go_cut [11] (fun v wc => ∃ (av : Option Addr) (m : Nat), v = .slice av m m ∧ Hid (m = qs.length) ∧ m ≤ 1000001 ∧ Hid (∀ j x, qs[j]? = some x → ∃ sb, av = some ⟨sb, 0, none⟩ ∧ w2.heap.size < sb ∧ wc.cell? ⟨sb, j, none⟩ = some (.string (baL x))) ∧ Fr No W4 wc)
  case first =>
    rcases g3 : ((n : Int) == 3) with _ | _
    · have Hqn : Hid (qs = []) := by
        unfold Hid; rw [Hqs.out, if_neg]; rw [← Hn.out]; intro h; rw [h] at g3; simp at g3
      go_wp2_with fail
      go_meet
      exact ⟨none, 0, rfl, by unfold Hid; rw [Hqn.out]; rfl, by omega, (by intro j x hx; rw [Hqn.out] at hx; simp at hx), Fr.refl _ _⟩
    · have hn3 : n = 3 := by simp at g3; omega
      have Hqn : Hid (qs = spl 47 (ps.getD 2 [])) := by
        unfold Hid; rw [Hqs.out, if_pos]; rw [← Hn.out]; exact hn3
      have p2 : W4.cell? ⟨w1.heap.size, 2, none⟩ = some (.string (baL (ps.getD 2 []))) := Hc4.out 2 _ (getD_at (by rw [← Hn.out]; omega))
      have hp2 : (baL (ps.getD 2 [])).size ≤ 900 := Hpsz.out _ (List.mem_of_getElem? (getD_at (l := ps) (j := 2) (by rw [← Hn.out]; omega)))
      have hSp := x_split 47 (baL (ps.getD 2 [])) W4 (by omega) hE4
      rw [show bl (baL (ps.getD 2 [])) = ps.getD 2 [] from bl_mk _, ← Hqn.out] at hSp
      generalize baL (ps.getD 2 []) = b2 at *
      have n2' : (2 : Int) < n := by omega
      subst hn3
      go_wp2_with fail
      refine hSp.mono ?_
      rintro e w5 ⟨m, rfl, hm, hm1, hcm, hf5, hlt5⟩
      have Hm := Lib.hid hm
      have Hcm := Lib.hid hcm
      have Hf5 := Lib.hid hf5
      clear hm hcm hSp hf5
      go_wp2_with fail
      go_meet
      exact ⟨_, m, rfl, Hm.out, hm1, (fun j x hx => ⟨_, rfl, by omega, Hcm.out j x hx⟩), Hf5.out⟩
  obtain ⟨av, m, rfl, Hm, hm1, Hsl, hf5⟩ := hcut
  rename_i hK
  refine hK _ _ ?_
  have q5c := hf5.heap q4c id
  have q54 := hf5.heap q44 id
  have hE5 := hE4.no hf5
  have Hf5 := Lib.hid (Hf4.out.step hf5 (fun _ _ h => h))
  have Hc5 : Hid (∀ j x, ps[j]? = some x → wc.cell? ⟨w1.heap.size, j, none⟩ = some (.string (baL x))) := fun j x hx => hf5.cell (Hc4.out j x hx) id
  have hs5 := hf5.size
  obtain ⟨W5, rfl⟩ : ∃ W5, W5 = wc := ⟨_, rfl⟩
  have p0 : W5.cell? ⟨w1.heap.size, 0, none⟩ = some (.string (baL (ps.getD 0 []))) := Hc5.out 0 _ (getD_at (by rw [← Hn.out]; omega))
  have hks := kinds6 (ps.getD 0 [])
  have Hrq : Hid (rHead ps = _) := rHead_q ps qs Hqs.out (by rw [← Hn.out]; exact hn2)
  obtain ⟨b0, hb0⟩ : ∃ x, x = baL (ps.getD 0 []) := ⟨_, rfl⟩
  rw [← hb0] at p0 hks
  have n0' : (0 : Int) < n := by omega
  clear hf5 q4c q44 hE4 hb0 hB n44 n41
  go_upto_block 0 with (fail)
  go_cut [8] (fun v wc => v = .string rs ∧ ∃ (k sl t e : Int), Hid (rHead ps = some (.mk k idb ⟨#[]⟩ sl t e []) ∧ k ≠ 1) ∧ wc.heap[w2.heap.size]? = some (.cells #[.int .i64 k, .string idb, .string ⟨#[]⟩, .int .i64 sl, .int .i64 t, .int .i64 e, .slice none 0 0] 48) ∧ wc.heap[w.heap.size]? = some (.cells #[.int .i64 0, .string ⟨#[]⟩, .string ⟨#[]⟩, .int .i64 0, .int .i64 0, .int .i64 0, .slice none 0 0] 48) ∧ Fr No w wc ∧ Env wc ∧ w2.heap.size < wc.heap.size)
  case first =>
    rcases hks with ⟨hk0, k1, k2, k3, k4, k5⟩ | ⟨hk0, k1, k2, k3, k4, k5⟩ | ⟨hk0, k1, k2, k3, k4, k5⟩ | ⟨hk0, k1, k2, k3, k4, k5⟩ | ⟨hk0, k1, k2, k3, k4, k5⟩ | ⟨hk0, hk0b, hk0c, hk0d, hk0e, k1, k2, k3, k4, k5⟩
    · rcases g2 : ((n : Int) == 3) with _ | _
      · have hnn : ¬ ps.length = 3 := by rw [← Hn.out]; intro h; rw [h] at g2; simp at g2
        have Hnone : Hid (rd (d + 1) (bl s) = none) := by
          unfold Hid; rw [Hrd2.out, Hrq.out]; rw [hk0]; simp [hnn]
        have h7 := set7 q54 rfl (.int .i64 0) (.string idb) (.string ⟨#[]⟩) (.int .i64 0) (.int .i64 0) (.int .i64 0) (.slice none 0 0)
        have Hres : Hid (RdRes w (d + 1) s (.returned (.tuple #[.agg #[.int .i64 0, .string idb, .string ⟨#[]⟩, .int .i64 0, .int .i64 0, .int .i64 0, .slice none 0 0], .string ⟨#[]⟩, .bool false])) (((((((W5.setCell ⟨w.heap.size, 0, none⟩ (.int .i64 0)).setCell ⟨w.heap.size, 1, none⟩ (.string idb)).setCell ⟨w.heap.size, 2, none⟩ (.string ⟨#[]⟩)).setCell ⟨w.heap.size, 3, none⟩ (.int .i64 0)).setCell ⟨w.heap.size, 4, none⟩ (.int .i64 0)).setCell ⟨w.heap.size, 5, none⟩ (.int .i64 0)).setCell ⟨w.heap.size, 6, none⟩ (.slice none 0 0))) := by
          refine ⟨Hf5.out.step h7.2 (fun b hb h => by unfold Is at h; omega), _, _, _, _, _, _, _, _, _, _, _, rfl, ?_⟩
          exact .inl ⟨rfl, Hnone.out⟩
        have Hq := Lib.hid h7.1
        have b0 : W5.cell? ⟨w.heap.size, 0, none⟩ = some (.int .i64 0) := cell_of_block q54 0
        have f0 : W5.frozen? ⟨w.heap.size, 0, none⟩ = false := free_of_block q54 0
        have b1 : W5.cell? ⟨w.heap.size, 1, none⟩ = some (.string ⟨#[]⟩) := cell_of_block q54 1
        have f1 : W5.frozen? ⟨w.heap.size, 1, none⟩ = false := free_of_block q54 1
        have b2 : W5.cell? ⟨w.heap.size, 2, none⟩ = some (.string ⟨#[]⟩) := cell_of_block q54 2
        have f2 : W5.frozen? ⟨w.heap.size, 2, none⟩ = false := free_of_block q54 2
        have b3 : W5.cell? ⟨w.heap.size, 3, none⟩ = some (.int .i64 0) := cell_of_block q54 3
        have f3 : W5.frozen? ⟨w.heap.size, 3, none⟩ = false := free_of_block q54 3
        have b4 : W5.cell? ⟨w.heap.size, 4, none⟩ = some (.int .i64 0) := cell_of_block q54 4
        have f4 : W5.frozen? ⟨w.heap.size, 4, none⟩ = false := free_of_block q54 4
        have b5 : W5.cell? ⟨w.heap.size, 5, none⟩ = some (.int .i64 0) := cell_of_block q54 5
        have f5 : W5.frozen? ⟨w.heap.size, 5, none⟩ = false := free_of_block q54 5
        have b6 : W5.cell? ⟨w.heap.size, 6, none⟩ = some (.slice none 0 0) := cell_of_block q54 6
        have f6 : W5.frozen? ⟨w.heap.size, 6, none⟩ = false := free_of_block q54 6
        have a0 : W5.cell? ⟨w2.heap.size, 0, none⟩ = some (.int .i64 0) := cell_of_block q5c 0
        have a1 : W5.cell? ⟨w2.heap.size, 1, none⟩ = some (.string idb) := cell_of_block q5c 1
        have a2 : W5.cell? ⟨w2.heap.size, 2, none⟩ = some (.string ⟨#[]⟩) := cell_of_block q5c 2
        have a3 : W5.cell? ⟨w2.heap.size, 3, none⟩ = some (.int .i64 0) := cell_of_block q5c 3
        have a4 : W5.cell? ⟨w2.heap.size, 4, none⟩ = some (.int .i64 0) := cell_of_block q5c 4
        have a5 : W5.cell? ⟨w2.heap.size, 5, none⟩ = some (.int .i64 0) := cell_of_block q5c 5
        have a6 : W5.cell? ⟨w2.heap.size, 6, none⟩ = some (.slice none 0 0) := cell_of_block q5c 6
        clear h7 
        go_wp2_with fail
        have y0 := cell_of_block Hq.out 0
        have y1 := cell_of_block Hq.out 1
        have y2 := cell_of_block Hq.out 2
        have y3 := cell_of_block Hq.out 3
        have y4 := cell_of_block Hq.out 4
        have y5 := cell_of_block Hq.out 5
        have y6 := cell_of_block Hq.out 6
        refine bodyPost_ret (v := .tuple #[.agg #[.int .i64 0, .string idb, .string ⟨#[]⟩, .int .i64 0, .int .i64 0, .int .i64 0, .slice none 0 0], .string ⟨#[]⟩, .bool false]) (by simp [results, Tryz.results44, go_sem, y0, y1, y2, y3, y4, y5, y6]) rfl ?_
        exact Hres.out
      · have hnn : ps.length = 3 := by rw [← Hn.out]; simp at g2; omega
        have x2 : W5.cell? ⟨w1.heap.size, 2, none⟩ = some (.string (baL (ps.getD 2 []))) := Hc5.out 2 _ (getD_at (by rw [hnn]; decide))
        have Hhd : Hid (rd (d + 1) (bl s) = some (.mk 1 idb (baL (ps.getD 2 [])) 0 0 0 [], bl rs)) := by
          unfold Hid
          rw [Hrd2.out, Hrq.out, hk0, Hid1.out]; simp [hnn, rBox, Ct.kind]
        generalize baL (ps.getD 2 []) = lab at *
        have n2' : (2 : Int) < n := by have h1 := Hn.out; omega
        have n2'' : ((n : Int) == 3) = true := g2
        clear hk0 hnn
        go_wp2_with fail
        refine region_sig (Is w2.heap.size) [(0, false), (1, false), (2, false), (3, false), (4, true), (5, false), (6, true)] (by kernel_rfl) (by kernel_rfl) (fun w6 hf6 => ?_)
        have d2 : ∀ g : Gr (Is w2.heap.size) w6, g.W.cell? ⟨w1.heap.size, 2, none⟩ = some (.string lab) := fun g => g.fr.cell (hf6.cell x2 id) (fun h => by unfold Is at h; simp only at h; omega)
        repeat (apply sig_q; exact rfl; exact rfl; exact rfl; intro K hK; go_big_quiet_op; go_big_quiet_on)
        clear d2 x2
        have y0 := hf6.heap q5c id
        have y4 := hf6.heap q54 id
        have u0 : w6.cell? ⟨w2.heap.size, 0, none⟩ = some (.int .i64 0) := cell_of_block y0 0
        have v0 : w6.frozen? ⟨w2.heap.size, 0, none⟩ = false := free_of_block y0 0
        have k1 : Fr (Is w2.heap.size) w6 (w6.setCell ⟨w2.heap.size, 0, none⟩ (.int .i64 1)) := Fr.setAt (Fr.refl _ _) _
        have y1 : (w6.setCell ⟨w2.heap.size, 0, none⟩ (.int .i64 1)).heap[w2.heap.size]? = some (.cells #[.int .i64 1, .string idb, .string ⟨#[]⟩, .int .i64 0, .int .i64 0, .int .i64 0, .slice none 0 0] 48) := (block_setCell y0 0 _).trans rfl
        have u1 : (w6.setCell ⟨w2.heap.size, 0, none⟩ (.int .i64 1)).cell? ⟨w2.heap.size, 2, none⟩ = some (.string ⟨#[]⟩) := cell_of_block y1 2
        have v1 : (w6.setCell ⟨w2.heap.size, 0, none⟩ (.int .i64 1)).frozen? ⟨w2.heap.size, 2, none⟩ = false := free_of_block y1 2
        have k2 : Fr (Is w2.heap.size) w6 ((w6.setCell ⟨w2.heap.size, 0, none⟩ (.int .i64 1)).setCell ⟨w2.heap.size, 2, none⟩ (.string lab)) := Fr.setAt k1 _
        have y2 : ((w6.setCell ⟨w2.heap.size, 0, none⟩ (.int .i64 1)).setCell ⟨w2.heap.size, 2, none⟩ (.string lab)).heap[w2.heap.size]? = some (.cells #[.int .i64 1, .string idb, .string lab, .int .i64 0, .int .i64 0, .int .i64 0, .slice none 0 0] 48) := (block_setCell y1 2 _).trans rfl
        apply sig_m
        exact rfl
        go_wp2_with fail
        refine OnlyN.mk ⟨Fr.setAt (Fr.refl _ _) _, ?_⟩
        apply sig_q; exact rfl; exact rfl; exact rfl; intro K hK; go_big_quiet_op; go_big_quiet_on
        apply sig_m
        exact rfl
        go_wp2_with fail
        refine OnlyN.mk ⟨Fr.setAt (Fr.refl _ _) _, ?_⟩
        refine sig_end ?_
        have q64 := k2.heap y4 (fun h => by unfold Is at h; omega)
        have Hf6 := Lib.hid ((Hf5.out.step hf6 (fun _ _ h => h)).step k2 (fun b hb h => by unfold Is at h; omega))
        clear u0 v0 u1 v1 y0 y1 y4 k1 k2 hf6
        generalize ((w6.setCell ⟨w2.heap.size, 0, none⟩ (.int .i64 1)).setCell ⟨w2.heap.size, 2, none⟩ (.string lab)) = W6 at *
        have h7 := set7 q64 rfl (.int .i64 1) (.string idb) (.string lab) (.int .i64 0) (.int .i64 0) (.int .i64 0) (.slice none 0 0)
        have Hres : Hid (RdRes w (d + 1) s (.returned (.tuple #[.agg #[.int .i64 1, .string idb, .string lab, .int .i64 0, .int .i64 0, .int .i64 0, .slice none 0 0], .string rs, .bool true])) (((((((W6.setCell ⟨w.heap.size, 0, none⟩ (.int .i64 1)).setCell ⟨w.heap.size, 1, none⟩ (.string idb)).setCell ⟨w.heap.size, 2, none⟩ (.string lab)).setCell ⟨w.heap.size, 3, none⟩ (.int .i64 0)).setCell ⟨w.heap.size, 4, none⟩ (.int .i64 0)).setCell ⟨w.heap.size, 5, none⟩ (.int .i64 0)).setCell ⟨w.heap.size, 6, none⟩ (.slice none 0 0))) := by
          refine ⟨Hf6.out.step h7.2 (fun b hb h => by unfold Is at h; omega), _, _, _, _, _, _, _, _, _, _, _, rfl, ?_⟩
          exact .inr ⟨rfl, _, Hhd.out, CAt.of_in (InAt.nil _ _) 1 idb lab 0 0 0⟩
        have Hq := Lib.hid h7.1
        have b0 : W6.cell? ⟨w.heap.size, 0, none⟩ = some (.int .i64 0) := cell_of_block q64 0
        have f0 : W6.frozen? ⟨w.heap.size, 0, none⟩ = false := free_of_block q64 0
        have b1 : W6.cell? ⟨w.heap.size, 1, none⟩ = some (.string ⟨#[]⟩) := cell_of_block q64 1
        have f1 : W6.frozen? ⟨w.heap.size, 1, none⟩ = false := free_of_block q64 1
        have b2 : W6.cell? ⟨w.heap.size, 2, none⟩ = some (.string ⟨#[]⟩) := cell_of_block q64 2
        have f2 : W6.frozen? ⟨w.heap.size, 2, none⟩ = false := free_of_block q64 2
        have b3 : W6.cell? ⟨w.heap.size, 3, none⟩ = some (.int .i64 0) := cell_of_block q64 3
        have f3 : W6.frozen? ⟨w.heap.size, 3, none⟩ = false := free_of_block q64 3
        have b4 : W6.cell? ⟨w.heap.size, 4, none⟩ = some (.int .i64 0) := cell_of_block q64 4
        have f4 : W6.frozen? ⟨w.heap.size, 4, none⟩ = false := free_of_block q64 4
        have b5 : W6.cell? ⟨w.heap.size, 5, none⟩ = some (.int .i64 0) := cell_of_block q64 5
        have f5 : W6.frozen? ⟨w.heap.size, 5, none⟩ = false := free_of_block q64 5
        have b6 : W6.cell? ⟨w.heap.size, 6, none⟩ = some (.slice none 0 0) := cell_of_block q64 6
        have f6 : W6.frozen? ⟨w.heap.size, 6, none⟩ = false := free_of_block q64 6
        have a0 : W6.cell? ⟨w2.heap.size, 0, none⟩ = some (.int .i64 1) := cell_of_block y2 0
        have a1 : W6.cell? ⟨w2.heap.size, 1, none⟩ = some (.string idb) := cell_of_block y2 1
        have a2 : W6.cell? ⟨w2.heap.size, 2, none⟩ = some (.string lab) := cell_of_block y2 2
        have a3 : W6.cell? ⟨w2.heap.size, 3, none⟩ = some (.int .i64 0) := cell_of_block y2 3
        have a4 : W6.cell? ⟨w2.heap.size, 4, none⟩ = some (.int .i64 0) := cell_of_block y2 4
        have a5 : W6.cell? ⟨w2.heap.size, 5, none⟩ = some (.int .i64 0) := cell_of_block y2 5
        have a6 : W6.cell? ⟨w2.heap.size, 6, none⟩ = some (.slice none 0 0) := cell_of_block y2 6
        clear h7 
        go_wp2_with fail
        have y0 := cell_of_block Hq.out 0
        have y1 := cell_of_block Hq.out 1
        have y2 := cell_of_block Hq.out 2
        have y3 := cell_of_block Hq.out 3
        have y4 := cell_of_block Hq.out 4
        have y5 := cell_of_block Hq.out 5
        have y6 := cell_of_block Hq.out 6
        refine bodyPost_ret (v := .tuple #[.agg #[.int .i64 1, .string idb, .string lab, .int .i64 0, .int .i64 0, .int .i64 0, .slice none 0 0], .string rs, .bool true]) (by simp [results, Tryz.results44, go_sem, y0, y1, y2, y3, y4, y5, y6]) rfl ?_
        exact Hres.out
    · rcases g2 : ((m : Int) == 3) with _ | _
      · have hnn : ¬ qs.length = 3 := by rw [← Hm.out]; intro h; rw [h] at g2; simp at g2
        have Hnone : Hid (rd (d + 1) (bl s) = none) := by
          unfold Hid; rw [Hrd2.out, Hrq.out]; rw [hk0]; simp [hnn]
        have h7 := set7 q54 rfl (.int .i64 0) (.string idb) (.string ⟨#[]⟩) (.int .i64 0) (.int .i64 0) (.int .i64 0) (.slice none 0 0)
        have Hres : Hid (RdRes w (d + 1) s (.returned (.tuple #[.agg #[.int .i64 0, .string idb, .string ⟨#[]⟩, .int .i64 0, .int .i64 0, .int .i64 0, .slice none 0 0], .string ⟨#[]⟩, .bool false])) (((((((W5.setCell ⟨w.heap.size, 0, none⟩ (.int .i64 0)).setCell ⟨w.heap.size, 1, none⟩ (.string idb)).setCell ⟨w.heap.size, 2, none⟩ (.string ⟨#[]⟩)).setCell ⟨w.heap.size, 3, none⟩ (.int .i64 0)).setCell ⟨w.heap.size, 4, none⟩ (.int .i64 0)).setCell ⟨w.heap.size, 5, none⟩ (.int .i64 0)).setCell ⟨w.heap.size, 6, none⟩ (.slice none 0 0))) := by
          refine ⟨Hf5.out.step h7.2 (fun b hb h => by unfold Is at h; omega), _, _, _, _, _, _, _, _, _, _, _, rfl, ?_⟩
          exact .inl ⟨rfl, Hnone.out⟩
        have Hq := Lib.hid h7.1
        have b0 : W5.cell? ⟨w.heap.size, 0, none⟩ = some (.int .i64 0) := cell_of_block q54 0
        have f0 : W5.frozen? ⟨w.heap.size, 0, none⟩ = false := free_of_block q54 0
        have b1 : W5.cell? ⟨w.heap.size, 1, none⟩ = some (.string ⟨#[]⟩) := cell_of_block q54 1
        have f1 : W5.frozen? ⟨w.heap.size, 1, none⟩ = false := free_of_block q54 1
        have b2 : W5.cell? ⟨w.heap.size, 2, none⟩ = some (.string ⟨#[]⟩) := cell_of_block q54 2
        have f2 : W5.frozen? ⟨w.heap.size, 2, none⟩ = false := free_of_block q54 2
        have b3 : W5.cell? ⟨w.heap.size, 3, none⟩ = some (.int .i64 0) := cell_of_block q54 3
        have f3 : W5.frozen? ⟨w.heap.size, 3, none⟩ = false := free_of_block q54 3
        have b4 : W5.cell? ⟨w.heap.size, 4, none⟩ = some (.int .i64 0) := cell_of_block q54 4
        have f4 : W5.frozen? ⟨w.heap.size, 4, none⟩ = false := free_of_block q54 4
        have b5 : W5.cell? ⟨w.heap.size, 5, none⟩ = some (.int .i64 0) := cell_of_block q54 5
        have f5 : W5.frozen? ⟨w.heap.size, 5, none⟩ = false := free_of_block q54 5
        have b6 : W5.cell? ⟨w.heap.size, 6, none⟩ = some (.slice none 0 0) := cell_of_block q54 6
        have f6 : W5.frozen? ⟨w.heap.size, 6, none⟩ = false := free_of_block q54 6
        have a0 : W5.cell? ⟨w2.heap.size, 0, none⟩ = some (.int .i64 0) := cell_of_block q5c 0
        have a1 : W5.cell? ⟨w2.heap.size, 1, none⟩ = some (.string idb) := cell_of_block q5c 1
        have a2 : W5.cell? ⟨w2.heap.size, 2, none⟩ = some (.string ⟨#[]⟩) := cell_of_block q5c 2
        have a3 : W5.cell? ⟨w2.heap.size, 3, none⟩ = some (.int .i64 0) := cell_of_block q5c 3
        have a4 : W5.cell? ⟨w2.heap.size, 4, none⟩ = some (.int .i64 0) := cell_of_block q5c 4
        have a5 : W5.cell? ⟨w2.heap.size, 5, none⟩ = some (.int .i64 0) := cell_of_block q5c 5
        have a6 : W5.cell? ⟨w2.heap.size, 6, none⟩ = some (.slice none 0 0) := cell_of_block q5c 6
        clear h7 
        go_wp2_with fail
        have y0 := cell_of_block Hq.out 0
        have y1 := cell_of_block Hq.out 1
        have y2 := cell_of_block Hq.out 2
        have y3 := cell_of_block Hq.out 3
        have y4 := cell_of_block Hq.out 4
        have y5 := cell_of_block Hq.out 5
        have y6 := cell_of_block Hq.out 6
        refine bodyPost_ret (v := .tuple #[.agg #[.int .i64 0, .string idb, .string ⟨#[]⟩, .int .i64 0, .int .i64 0, .int .i64 0, .slice none 0 0], .string ⟨#[]⟩, .bool false]) (by simp [results, Tryz.results44, go_sem, y0, y1, y2, y3, y4, y5, y6]) rfl ?_
        exact Hres.out
      · have hnn : qs.length = 3 := by rw [← Hm.out]; simp at g2; omega
        have hmm : m = 3 := by rw [Hm.out]; exact hnn
        obtain ⟨sb, hav, hsb, x0⟩ := Hsl.out 0 _ (getD_at (by rw [hnn]; decide))
        subst hav
        have x1 : W5.cell? ⟨sb, 1, none⟩ = some (.string (baL (qs.getD 1 []))) := by
          obtain ⟨sb2, h1, h2, h3⟩ := Hsl.out 1 _ (getD_at (by rw [hnn]; decide))
          injection h1 with h1; injection h1 with h1; subst h1; exact h3
        have x2 : W5.cell? ⟨sb, 2, none⟩ = some (.string (baL (qs.getD 2 []))) := by
          obtain ⟨sb2, h1, h2, h3⟩ := Hsl.out 2 _ (getD_at (by rw [hnn]; decide))
          injection h1 with h1; injection h1 with h1; subst h1; exact h3
        obtain ⟨N0, hN0⟩ : ∃ N, N = rNum (qs.getD 0 []) := ⟨_, rfl⟩
        have G0 : ∀ W, Calls Tryz.prog 70 #[.string (baL (qs.getD 0 []))] W fun e w' => e = .returned (.int .i64 N0) ∧ W = w' := by
          intro W; rw [hN0]
          have h1 := spl_sz Hqs.out Hpsz.out (getD_at (l := qs) (j := 0) (by rw [hnn]; decide))
          have h2 := r_number (baL (qs.getD 0 [])) W (by unfold maxLen; omega)
          rw [show bl (baL (qs.getD 0 [])) = qs.getD 0 [] from bl_mk _] at h2
          exact h2
        generalize baL (qs.getD 0 []) = s0 at *
        have HG0 := Lib.hid G0
        have HN0 := Lib.hid hN0
        clear G0 hN0
        obtain ⟨N1, hN1⟩ : ∃ N, N = rNum (qs.getD 1 []) := ⟨_, rfl⟩
        have G1 : ∀ W, Calls Tryz.prog 70 #[.string (baL (qs.getD 1 []))] W fun e w' => e = .returned (.int .i64 N1) ∧ W = w' := by
          intro W; rw [hN1]
          have h1 := spl_sz Hqs.out Hpsz.out (getD_at (l := qs) (j := 1) (by rw [hnn]; decide))
          have h2 := r_number (baL (qs.getD 1 [])) W (by unfold maxLen; omega)
          rw [show bl (baL (qs.getD 1 [])) = qs.getD 1 [] from bl_mk _] at h2
          exact h2
        generalize baL (qs.getD 1 []) = s1 at *
        have HG1 := Lib.hid G1
        have HN1 := Lib.hid hN1
        clear G1 hN1
        obtain ⟨N2, hN2⟩ : ∃ N, N = rNum (qs.getD 2 []) := ⟨_, rfl⟩
        have G2 : ∀ W, Calls Tryz.prog 70 #[.string (baL (qs.getD 2 []))] W fun e w' => e = .returned (.int .i64 N2) ∧ W = w' := by
          intro W; rw [hN2]
          have h1 := spl_sz Hqs.out Hpsz.out (getD_at (l := qs) (j := 2) (by rw [hnn]; decide))
          have h2 := r_number (baL (qs.getD 2 [])) W (by unfold maxLen; omega)
          rw [show bl (baL (qs.getD 2 [])) = qs.getD 2 [] from bl_mk _] at h2
          exact h2
        generalize baL (qs.getD 2 []) = s2 at *
        have HG2 := Lib.hid G2
        have HN2 := Lib.hid hN2
        clear G2 hN2
        have Hhd : Hid (rHead ps = some (.mk 2 idb ⟨#[]⟩ N0 N1 N2 []) ∧ (2 : Int) ≠ 1) := by
          refine ⟨?_, by decide⟩
          rw [Hrq.out, hk0, Hid1.out]; simp [hnn, HN0.out, HN1.out, HN2.out]
        have Hhk := Lib.hid hk0
        clear hk0 hnn
        subst hmm
        go_wp2_with fail
        refine region_sig (Is w2.heap.size) [(0, false), (1, false), (2, false), (4, false), (5, false), (6, false), (8, false), (9, false), (10, false), (12, false), (3, true), (7, true), (11, true), (13, true), (14, false), (15, true), (16, false), (17, true), (18, false), (19, true)] (by kernel_rfl) (by kernel_rfl) (fun w6 hf6 => ?_)
        have d0 : ∀ g : Gr (Is w2.heap.size) w6, g.W.cell? ⟨sb, 0, none⟩ = some (.string s0) := fun g => g.fr.cell (hf6.cell x0 id) (fun h => by unfold Is at h; simp only at h; omega)
        have d1 : ∀ g : Gr (Is w2.heap.size) w6, g.W.cell? ⟨sb, 1, none⟩ = some (.string s1) := fun g => g.fr.cell (hf6.cell x1 id) (fun h => by unfold Is at h; simp only at h; omega)
        have d2 : ∀ g : Gr (Is w2.heap.size) w6, g.W.cell? ⟨sb, 2, none⟩ = some (.string s2) := fun g => g.fr.cell (hf6.cell x2 id) (fun h => by unfold Is at h; simp only at h; omega)
        repeat (apply sig_q; exact rfl; exact rfl; exact rfl; intro K hK; go_big_quiet_op; go_big_quiet_on)
        clear d0 x0 d1 x1 d2 x2
        apply sig_m
        exact rfl
        go_wp2_with fail
        refine (HG0.out _).mono ?_
        rintro en w7 ⟨rfl, rfl⟩
        go_wp2_with fail
        refine OnlyN.mk ⟨Fr.refl _ _, ?_⟩
        apply sig_m
        exact rfl
        go_wp2_with fail
        refine (HG1.out _).mono ?_
        rintro en w7 ⟨rfl, rfl⟩
        go_wp2_with fail
        refine OnlyN.mk ⟨Fr.refl _ _, ?_⟩
        apply sig_m
        exact rfl
        go_wp2_with fail
        refine (HG2.out _).mono ?_
        rintro en w7 ⟨rfl, rfl⟩
        go_wp2_with fail
        refine OnlyN.mk ⟨Fr.refl _ _, ?_⟩
        have y0 := hf6.heap q5c id
        have k0 : Fr (Is w2.heap.size) w6 w6 := Fr.refl _ _
        have u0 : w6.cell? ⟨w2.heap.size, 0, none⟩ = some (.int .i64 0) := cell_of_block y0 0
        have v0 : w6.frozen? ⟨w2.heap.size, 0, none⟩ = false := free_of_block y0 0
        have y1 : (w6.setCell ⟨w2.heap.size, 0, none⟩ (.int .i64 2)).heap[w2.heap.size]? = some (.cells #[.int .i64 2, .string idb, .string ⟨#[]⟩, .int .i64 0, .int .i64 0, .int .i64 0, .slice none 0 0] 48) := (block_setCell y0 0 _).trans rfl
        have k1 : Fr (Is w2.heap.size) w6 (w6.setCell ⟨w2.heap.size, 0, none⟩ (.int .i64 2)) := Fr.setAt k0 _
        have u1 : (w6.setCell ⟨w2.heap.size, 0, none⟩ (.int .i64 2)).cell? ⟨w2.heap.size, 3, none⟩ = some (.int .i64 0) := cell_of_block y1 3
        have v1 : (w6.setCell ⟨w2.heap.size, 0, none⟩ (.int .i64 2)).frozen? ⟨w2.heap.size, 3, none⟩ = false := free_of_block y1 3
        have y2 : ((w6.setCell ⟨w2.heap.size, 0, none⟩ (.int .i64 2)).setCell ⟨w2.heap.size, 3, none⟩ (.int .i64 N0)).heap[w2.heap.size]? = some (.cells #[.int .i64 2, .string idb, .string ⟨#[]⟩, .int .i64 N0, .int .i64 0, .int .i64 0, .slice none 0 0] 48) := (block_setCell y1 3 _).trans rfl
        have k2 : Fr (Is w2.heap.size) w6 ((w6.setCell ⟨w2.heap.size, 0, none⟩ (.int .i64 2)).setCell ⟨w2.heap.size, 3, none⟩ (.int .i64 N0)) := Fr.setAt k1 _
        have u2 : ((w6.setCell ⟨w2.heap.size, 0, none⟩ (.int .i64 2)).setCell ⟨w2.heap.size, 3, none⟩ (.int .i64 N0)).cell? ⟨w2.heap.size, 4, none⟩ = some (.int .i64 0) := cell_of_block y2 4
        have v2 : ((w6.setCell ⟨w2.heap.size, 0, none⟩ (.int .i64 2)).setCell ⟨w2.heap.size, 3, none⟩ (.int .i64 N0)).frozen? ⟨w2.heap.size, 4, none⟩ = false := free_of_block y2 4
        have y3 : (((w6.setCell ⟨w2.heap.size, 0, none⟩ (.int .i64 2)).setCell ⟨w2.heap.size, 3, none⟩ (.int .i64 N0)).setCell ⟨w2.heap.size, 4, none⟩ (.int .i64 N1)).heap[w2.heap.size]? = some (.cells #[.int .i64 2, .string idb, .string ⟨#[]⟩, .int .i64 N0, .int .i64 N1, .int .i64 0, .slice none 0 0] 48) := (block_setCell y2 4 _).trans rfl
        have k3 : Fr (Is w2.heap.size) w6 (((w6.setCell ⟨w2.heap.size, 0, none⟩ (.int .i64 2)).setCell ⟨w2.heap.size, 3, none⟩ (.int .i64 N0)).setCell ⟨w2.heap.size, 4, none⟩ (.int .i64 N1)) := Fr.setAt k2 _
        have u3 : (((w6.setCell ⟨w2.heap.size, 0, none⟩ (.int .i64 2)).setCell ⟨w2.heap.size, 3, none⟩ (.int .i64 N0)).setCell ⟨w2.heap.size, 4, none⟩ (.int .i64 N1)).cell? ⟨w2.heap.size, 5, none⟩ = some (.int .i64 0) := cell_of_block y3 5
        have v3 : (((w6.setCell ⟨w2.heap.size, 0, none⟩ (.int .i64 2)).setCell ⟨w2.heap.size, 3, none⟩ (.int .i64 N0)).setCell ⟨w2.heap.size, 4, none⟩ (.int .i64 N1)).frozen? ⟨w2.heap.size, 5, none⟩ = false := free_of_block y3 5
        have y4 : ((((w6.setCell ⟨w2.heap.size, 0, none⟩ (.int .i64 2)).setCell ⟨w2.heap.size, 3, none⟩ (.int .i64 N0)).setCell ⟨w2.heap.size, 4, none⟩ (.int .i64 N1)).setCell ⟨w2.heap.size, 5, none⟩ (.int .i64 N2)).heap[w2.heap.size]? = some (.cells #[.int .i64 2, .string idb, .string ⟨#[]⟩, .int .i64 N0, .int .i64 N1, .int .i64 N2, .slice none 0 0] 48) := (block_setCell y3 5 _).trans rfl
        have k4 : Fr (Is w2.heap.size) w6 ((((w6.setCell ⟨w2.heap.size, 0, none⟩ (.int .i64 2)).setCell ⟨w2.heap.size, 3, none⟩ (.int .i64 N0)).setCell ⟨w2.heap.size, 4, none⟩ (.int .i64 N1)).setCell ⟨w2.heap.size, 5, none⟩ (.int .i64 N2)) := Fr.setAt k3 _
        apply sig_m
        exact rfl
        go_wp2_with fail
        refine OnlyN.mk ⟨Fr.setAt (Fr.refl _ _) _, ?_⟩
        apply sig_q; exact rfl; exact rfl; exact rfl; intro K hK; go_big_quiet_op; go_big_quiet_on
        apply sig_m
        exact rfl
        go_wp2_with fail
        refine OnlyN.mk ⟨Fr.setAt (Fr.refl _ _) _, ?_⟩
        apply sig_q; exact rfl; exact rfl; exact rfl; intro K hK; go_big_quiet_op; go_big_quiet_on
        apply sig_m
        exact rfl
        go_wp2_with fail
        refine OnlyN.mk ⟨Fr.setAt (Fr.refl _ _) _, ?_⟩
        apply sig_q; exact rfl; exact rfl; exact rfl; intro K hK; go_big_quiet_op; go_big_quiet_on
        apply sig_m
        exact rfl
        go_wp2_with fail
        refine OnlyN.mk ⟨Fr.setAt (Fr.refl _ _) _, ?_⟩
        refine sig_end ?_
        have hg := k4
        have Hq6c := Lib.hid y4
        have Hq64 := Lib.hid (hg.heap (hf6.heap q54 id) (fun h => by unfold Is at h; omega))
        have HE6 := Lib.hid ((hE5.no hf6).fr hg (fun b hb h => by unfold Is at h; omega))
        have Hf6 := Lib.hid ((Hf5.out.step hf6 (fun _ _ h => h)).step hg (fun b hb h => by unfold Is at h; omega))
        have ht6 := hg.size
        have ht7 := hf6.size
        clear hg hf6 q5c q54 hE5 u0 v0 y1 k1 u1 v1 y2 k2 u2 v2 y3 k3 u3 v3 y4 k4 y0 k0
        go_wp2_with fail
        go_meet
        exact ⟨rfl, 2, N0, N1, N2, Hhd, Hq6c.out, Hq64.out, Hf6.out, HE6.out, by omega⟩
    · rcases g2 : ((n : Int) == 2) with _ | _
      · have hnn : ¬ ps.length = 2 := by rw [← Hn.out]; intro h; rw [h] at g2; simp at g2
        have hx := hk0
        have Hnone : Hid (rd (d + 1) (bl s) = none) := by
          unfold Hid; rw [Hrd2.out, Hrq.out]; rw [hk0]; simp [hnn]
        have h7 := set7 q54 rfl (.int .i64 0) (.string idb) (.string ⟨#[]⟩) (.int .i64 0) (.int .i64 0) (.int .i64 0) (.slice none 0 0)
        have Hres : Hid (RdRes w (d + 1) s (.returned (.tuple #[.agg #[.int .i64 0, .string idb, .string ⟨#[]⟩, .int .i64 0, .int .i64 0, .int .i64 0, .slice none 0 0], .string ⟨#[]⟩, .bool false])) (((((((W5.setCell ⟨w.heap.size, 0, none⟩ (.int .i64 0)).setCell ⟨w.heap.size, 1, none⟩ (.string idb)).setCell ⟨w.heap.size, 2, none⟩ (.string ⟨#[]⟩)).setCell ⟨w.heap.size, 3, none⟩ (.int .i64 0)).setCell ⟨w.heap.size, 4, none⟩ (.int .i64 0)).setCell ⟨w.heap.size, 5, none⟩ (.int .i64 0)).setCell ⟨w.heap.size, 6, none⟩ (.slice none 0 0))) := by
          refine ⟨Hf5.out.step h7.2 (fun b hb h => by unfold Is at h; omega), _, _, _, _, _, _, _, _, _, _, _, rfl, ?_⟩
          exact .inl ⟨rfl, Hnone.out⟩
        have Hq := Lib.hid h7.1
        have b0 : W5.cell? ⟨w.heap.size, 0, none⟩ = some (.int .i64 0) := cell_of_block q54 0
        have f0 : W5.frozen? ⟨w.heap.size, 0, none⟩ = false := free_of_block q54 0
        have b1 : W5.cell? ⟨w.heap.size, 1, none⟩ = some (.string ⟨#[]⟩) := cell_of_block q54 1
        have f1 : W5.frozen? ⟨w.heap.size, 1, none⟩ = false := free_of_block q54 1
        have b2 : W5.cell? ⟨w.heap.size, 2, none⟩ = some (.string ⟨#[]⟩) := cell_of_block q54 2
        have f2 : W5.frozen? ⟨w.heap.size, 2, none⟩ = false := free_of_block q54 2
        have b3 : W5.cell? ⟨w.heap.size, 3, none⟩ = some (.int .i64 0) := cell_of_block q54 3
        have f3 : W5.frozen? ⟨w.heap.size, 3, none⟩ = false := free_of_block q54 3
        have b4 : W5.cell? ⟨w.heap.size, 4, none⟩ = some (.int .i64 0) := cell_of_block q54 4
        have f4 : W5.frozen? ⟨w.heap.size, 4, none⟩ = false := free_of_block q54 4
        have b5 : W5.cell? ⟨w.heap.size, 5, none⟩ = some (.int .i64 0) := cell_of_block q54 5
        have f5 : W5.frozen? ⟨w.heap.size, 5, none⟩ = false := free_of_block q54 5
        have b6 : W5.cell? ⟨w.heap.size, 6, none⟩ = some (.slice none 0 0) := cell_of_block q54 6
        have f6 : W5.frozen? ⟨w.heap.size, 6, none⟩ = false := free_of_block q54 6
        have a0 : W5.cell? ⟨w2.heap.size, 0, none⟩ = some (.int .i64 0) := cell_of_block q5c 0
        have a1 : W5.cell? ⟨w2.heap.size, 1, none⟩ = some (.string idb) := cell_of_block q5c 1
        have a2 : W5.cell? ⟨w2.heap.size, 2, none⟩ = some (.string ⟨#[]⟩) := cell_of_block q5c 2
        have a3 : W5.cell? ⟨w2.heap.size, 3, none⟩ = some (.int .i64 0) := cell_of_block q5c 3
        have a4 : W5.cell? ⟨w2.heap.size, 4, none⟩ = some (.int .i64 0) := cell_of_block q5c 4
        have a5 : W5.cell? ⟨w2.heap.size, 5, none⟩ = some (.int .i64 0) := cell_of_block q5c 5
        have a6 : W5.cell? ⟨w2.heap.size, 6, none⟩ = some (.slice none 0 0) := cell_of_block q5c 6
        clear h7 
        go_wp2_with fail
        have y0 := cell_of_block Hq.out 0
        have y1 := cell_of_block Hq.out 1
        have y2 := cell_of_block Hq.out 2
        have y3 := cell_of_block Hq.out 3
        have y4 := cell_of_block Hq.out 4
        have y5 := cell_of_block Hq.out 5
        have y6 := cell_of_block Hq.out 6
        refine bodyPost_ret (v := .tuple #[.agg #[.int .i64 0, .string idb, .string ⟨#[]⟩, .int .i64 0, .int .i64 0, .int .i64 0, .slice none 0 0], .string ⟨#[]⟩, .bool false]) (by simp [results, Tryz.results44, go_sem, y0, y1, y2, y3, y4, y5, y6]) rfl ?_
        exact Hres.out
      · have hnn : ps.length = 2 := by rw [← Hn.out]; simp at g2; omega
        have Hhd : Hid (rHead ps = some (.mk 3 idb ⟨#[]⟩ 0 0 0 []) ∧ (3 : Int) ≠ 1) := by
          refine ⟨?_, by decide⟩
          rw [Hrq.out, hk0, Hid1.out]; simp [hnn]
        have hg : Fr (Is w2.heap.size) W5 (W5.setCell ⟨w2.heap.size, 0, none⟩ (.int .i64 3)) := Fr.setAt (Fr.refl _ _) _
        have q6c : (W5.setCell ⟨w2.heap.size, 0, none⟩ (.int .i64 3)).heap[w2.heap.size]? = some (.cells #[.int .i64 3, .string idb, .string ⟨#[]⟩, .int .i64 0, .int .i64 0, .int .i64 0, .slice none 0 0] 48) := (block_setCell q5c 0 _).trans rfl
        have q64 := hg.heap q54 (fun h => by unfold Is at h; omega)
        have hE6 := hE5.fr hg (fun b hb h => by unfold Is at h; omega)
        have Hf6 := Lib.hid (Hf5.out.step hg (fun b hb h => by unfold Is at h; omega))
        have ht6 := hg.size
        have u0 : W5.cell? ⟨w2.heap.size, 0, none⟩ = some (.int .i64 0) := cell_of_block q5c 0
        have v0 : W5.frozen? ⟨w2.heap.size, 0, none⟩ = false := free_of_block q5c 0
        have Hq6c := Lib.hid q6c
        have Hq64 := Lib.hid q64
        have HE6 := Lib.hid hE6
        clear hg q6c q64 hE6 hk0 hnn q5c q54 hE5
        go_wp2_with fail
        go_meet
        exact ⟨rfl, 3, 0, 0, 0, Hhd, Hq6c.out, Hq64.out, Hf6.out, HE6.out, by omega⟩
    · rcases g2 : ((m : Int) == 2) with _ | _
      · have hnn : ¬ qs.length = 2 := by rw [← Hm.out]; intro h; rw [h] at g2; simp at g2
        have Hnone : Hid (rd (d + 1) (bl s) = none) := by
          unfold Hid; rw [Hrd2.out, Hrq.out]; rw [hk0]; simp [hnn]
        have h7 := set7 q54 rfl (.int .i64 0) (.string idb) (.string ⟨#[]⟩) (.int .i64 0) (.int .i64 0) (.int .i64 0) (.slice none 0 0)
        have Hres : Hid (RdRes w (d + 1) s (.returned (.tuple #[.agg #[.int .i64 0, .string idb, .string ⟨#[]⟩, .int .i64 0, .int .i64 0, .int .i64 0, .slice none 0 0], .string ⟨#[]⟩, .bool false])) (((((((W5.setCell ⟨w.heap.size, 0, none⟩ (.int .i64 0)).setCell ⟨w.heap.size, 1, none⟩ (.string idb)).setCell ⟨w.heap.size, 2, none⟩ (.string ⟨#[]⟩)).setCell ⟨w.heap.size, 3, none⟩ (.int .i64 0)).setCell ⟨w.heap.size, 4, none⟩ (.int .i64 0)).setCell ⟨w.heap.size, 5, none⟩ (.int .i64 0)).setCell ⟨w.heap.size, 6, none⟩ (.slice none 0 0))) := by
          refine ⟨Hf5.out.step h7.2 (fun b hb h => by unfold Is at h; omega), _, _, _, _, _, _, _, _, _, _, _, rfl, ?_⟩
          exact .inl ⟨rfl, Hnone.out⟩
        have Hq := Lib.hid h7.1
        have b0 : W5.cell? ⟨w.heap.size, 0, none⟩ = some (.int .i64 0) := cell_of_block q54 0
        have f0 : W5.frozen? ⟨w.heap.size, 0, none⟩ = false := free_of_block q54 0
        have b1 : W5.cell? ⟨w.heap.size, 1, none⟩ = some (.string ⟨#[]⟩) := cell_of_block q54 1
        have f1 : W5.frozen? ⟨w.heap.size, 1, none⟩ = false := free_of_block q54 1
        have b2 : W5.cell? ⟨w.heap.size, 2, none⟩ = some (.string ⟨#[]⟩) := cell_of_block q54 2
        have f2 : W5.frozen? ⟨w.heap.size, 2, none⟩ = false := free_of_block q54 2
        have b3 : W5.cell? ⟨w.heap.size, 3, none⟩ = some (.int .i64 0) := cell_of_block q54 3
        have f3 : W5.frozen? ⟨w.heap.size, 3, none⟩ = false := free_of_block q54 3
        have b4 : W5.cell? ⟨w.heap.size, 4, none⟩ = some (.int .i64 0) := cell_of_block q54 4
        have f4 : W5.frozen? ⟨w.heap.size, 4, none⟩ = false := free_of_block q54 4
        have b5 : W5.cell? ⟨w.heap.size, 5, none⟩ = some (.int .i64 0) := cell_of_block q54 5
        have f5 : W5.frozen? ⟨w.heap.size, 5, none⟩ = false := free_of_block q54 5
        have b6 : W5.cell? ⟨w.heap.size, 6, none⟩ = some (.slice none 0 0) := cell_of_block q54 6
        have f6 : W5.frozen? ⟨w.heap.size, 6, none⟩ = false := free_of_block q54 6
        have a0 : W5.cell? ⟨w2.heap.size, 0, none⟩ = some (.int .i64 0) := cell_of_block q5c 0
        have a1 : W5.cell? ⟨w2.heap.size, 1, none⟩ = some (.string idb) := cell_of_block q5c 1
        have a2 : W5.cell? ⟨w2.heap.size, 2, none⟩ = some (.string ⟨#[]⟩) := cell_of_block q5c 2
        have a3 : W5.cell? ⟨w2.heap.size, 3, none⟩ = some (.int .i64 0) := cell_of_block q5c 3
        have a4 : W5.cell? ⟨w2.heap.size, 4, none⟩ = some (.int .i64 0) := cell_of_block q5c 4
        have a5 : W5.cell? ⟨w2.heap.size, 5, none⟩ = some (.int .i64 0) := cell_of_block q5c 5
        have a6 : W5.cell? ⟨w2.heap.size, 6, none⟩ = some (.slice none 0 0) := cell_of_block q5c 6
        clear h7 
        go_wp2_with fail
        have y0 := cell_of_block Hq.out 0
        have y1 := cell_of_block Hq.out 1
        have y2 := cell_of_block Hq.out 2
        have y3 := cell_of_block Hq.out 3
        have y4 := cell_of_block Hq.out 4
        have y5 := cell_of_block Hq.out 5
        have y6 := cell_of_block Hq.out 6
        refine bodyPost_ret (v := .tuple #[.agg #[.int .i64 0, .string idb, .string ⟨#[]⟩, .int .i64 0, .int .i64 0, .int .i64 0, .slice none 0 0], .string ⟨#[]⟩, .bool false]) (by simp [results, Tryz.results44, go_sem, y0, y1, y2, y3, y4, y5, y6]) rfl ?_
        exact Hres.out
      · have hnn : qs.length = 2 := by rw [← Hm.out]; simp at g2; omega
        have hmm : m = 2 := by rw [Hm.out]; exact hnn
        obtain ⟨sb, hav, hsb, x0⟩ := Hsl.out 0 _ (getD_at (by rw [hnn]; decide))
        subst hav
        have x1 : W5.cell? ⟨sb, 1, none⟩ = some (.string (baL (qs.getD 1 []))) := by
          obtain ⟨sb2, h1, h2, h3⟩ := Hsl.out 1 _ (getD_at (by rw [hnn]; decide))
          injection h1 with h1; injection h1 with h1; subst h1; exact h3
        obtain ⟨N0, hN0⟩ : ∃ N, N = rNum (qs.getD 0 []) := ⟨_, rfl⟩
        have G0 : ∀ W, Calls Tryz.prog 70 #[.string (baL (qs.getD 0 []))] W fun e w' => e = .returned (.int .i64 N0) ∧ W = w' := by
          intro W; rw [hN0]
          have h1 := spl_sz Hqs.out Hpsz.out (getD_at (l := qs) (j := 0) (by rw [hnn]; decide))
          have h2 := r_number (baL (qs.getD 0 [])) W (by unfold maxLen; omega)
          rw [show bl (baL (qs.getD 0 [])) = qs.getD 0 [] from bl_mk _] at h2
          exact h2
        generalize baL (qs.getD 0 []) = s0 at *
        have HG0 := Lib.hid G0
        have HN0 := Lib.hid hN0
        clear G0 hN0
        obtain ⟨N1, hN1⟩ : ∃ N, N = rNum (qs.getD 1 []) := ⟨_, rfl⟩
        have G1 : ∀ W, Calls Tryz.prog 70 #[.string (baL (qs.getD 1 []))] W fun e w' => e = .returned (.int .i64 N1) ∧ W = w' := by
          intro W; rw [hN1]
          have h1 := spl_sz Hqs.out Hpsz.out (getD_at (l := qs) (j := 1) (by rw [hnn]; decide))
          have h2 := r_number (baL (qs.getD 1 [])) W (by unfold maxLen; omega)
          rw [show bl (baL (qs.getD 1 [])) = qs.getD 1 [] from bl_mk _] at h2
          exact h2
        generalize baL (qs.getD 1 []) = s1 at *
        have HG1 := Lib.hid G1
        have HN1 := Lib.hid hN1
        clear G1 hN1
        have Hhd : Hid (rHead ps = some (.mk 4 idb ⟨#[]⟩ N0 N1 0 []) ∧ (4 : Int) ≠ 1) := by
          refine ⟨?_, by decide⟩
          rw [Hrq.out, hk0, Hid1.out]; simp [hnn, HN0.out, HN1.out]
        have Hhk := Lib.hid hk0
        clear hk0 hnn
        subst hmm
        go_wp2_with fail
        refine region_sig (Is w2.heap.size) [(0, false), (1, false), (2, false), (4, false), (5, false), (6, false), (8, false), (3, true), (7, true), (9, true), (10, false), (11, true), (12, false), (13, true)] (by kernel_rfl) (by kernel_rfl) (fun w6 hf6 => ?_)
        have d0 : ∀ g : Gr (Is w2.heap.size) w6, g.W.cell? ⟨sb, 0, none⟩ = some (.string s0) := fun g => g.fr.cell (hf6.cell x0 id) (fun h => by unfold Is at h; simp only at h; omega)
        have d1 : ∀ g : Gr (Is w2.heap.size) w6, g.W.cell? ⟨sb, 1, none⟩ = some (.string s1) := fun g => g.fr.cell (hf6.cell x1 id) (fun h => by unfold Is at h; simp only at h; omega)
        repeat (apply sig_q; exact rfl; exact rfl; exact rfl; intro K hK; go_big_quiet_op; go_big_quiet_on)
        clear d0 x0 d1 x1
        apply sig_m
        exact rfl
        go_wp2_with fail
        refine (HG0.out _).mono ?_
        rintro en w7 ⟨rfl, rfl⟩
        go_wp2_with fail
        refine OnlyN.mk ⟨Fr.refl _ _, ?_⟩
        apply sig_m
        exact rfl
        go_wp2_with fail
        refine (HG1.out _).mono ?_
        rintro en w7 ⟨rfl, rfl⟩
        go_wp2_with fail
        refine OnlyN.mk ⟨Fr.refl _ _, ?_⟩
        have y0 := hf6.heap q5c id
        have k0 : Fr (Is w2.heap.size) w6 w6 := Fr.refl _ _
        have u0 : w6.cell? ⟨w2.heap.size, 0, none⟩ = some (.int .i64 0) := cell_of_block y0 0
        have v0 : w6.frozen? ⟨w2.heap.size, 0, none⟩ = false := free_of_block y0 0
        have y1 : (w6.setCell ⟨w2.heap.size, 0, none⟩ (.int .i64 4)).heap[w2.heap.size]? = some (.cells #[.int .i64 4, .string idb, .string ⟨#[]⟩, .int .i64 0, .int .i64 0, .int .i64 0, .slice none 0 0] 48) := (block_setCell y0 0 _).trans rfl
        have k1 : Fr (Is w2.heap.size) w6 (w6.setCell ⟨w2.heap.size, 0, none⟩ (.int .i64 4)) := Fr.setAt k0 _
        have u1 : (w6.setCell ⟨w2.heap.size, 0, none⟩ (.int .i64 4)).cell? ⟨w2.heap.size, 3, none⟩ = some (.int .i64 0) := cell_of_block y1 3
        have v1 : (w6.setCell ⟨w2.heap.size, 0, none⟩ (.int .i64 4)).frozen? ⟨w2.heap.size, 3, none⟩ = false := free_of_block y1 3
        have y2 : ((w6.setCell ⟨w2.heap.size, 0, none⟩ (.int .i64 4)).setCell ⟨w2.heap.size, 3, none⟩ (.int .i64 N0)).heap[w2.heap.size]? = some (.cells #[.int .i64 4, .string idb, .string ⟨#[]⟩, .int .i64 N0, .int .i64 0, .int .i64 0, .slice none 0 0] 48) := (block_setCell y1 3 _).trans rfl
        have k2 : Fr (Is w2.heap.size) w6 ((w6.setCell ⟨w2.heap.size, 0, none⟩ (.int .i64 4)).setCell ⟨w2.heap.size, 3, none⟩ (.int .i64 N0)) := Fr.setAt k1 _
        have u2 : ((w6.setCell ⟨w2.heap.size, 0, none⟩ (.int .i64 4)).setCell ⟨w2.heap.size, 3, none⟩ (.int .i64 N0)).cell? ⟨w2.heap.size, 4, none⟩ = some (.int .i64 0) := cell_of_block y2 4
        have v2 : ((w6.setCell ⟨w2.heap.size, 0, none⟩ (.int .i64 4)).setCell ⟨w2.heap.size, 3, none⟩ (.int .i64 N0)).frozen? ⟨w2.heap.size, 4, none⟩ = false := free_of_block y2 4
        have y3 : (((w6.setCell ⟨w2.heap.size, 0, none⟩ (.int .i64 4)).setCell ⟨w2.heap.size, 3, none⟩ (.int .i64 N0)).setCell ⟨w2.heap.size, 4, none⟩ (.int .i64 N1)).heap[w2.heap.size]? = some (.cells #[.int .i64 4, .string idb, .string ⟨#[]⟩, .int .i64 N0, .int .i64 N1, .int .i64 0, .slice none 0 0] 48) := (block_setCell y2 4 _).trans rfl
        have k3 : Fr (Is w2.heap.size) w6 (((w6.setCell ⟨w2.heap.size, 0, none⟩ (.int .i64 4)).setCell ⟨w2.heap.size, 3, none⟩ (.int .i64 N0)).setCell ⟨w2.heap.size, 4, none⟩ (.int .i64 N1)) := Fr.setAt k2 _
        apply sig_m
        exact rfl
        go_wp2_with fail
        refine OnlyN.mk ⟨Fr.setAt (Fr.refl _ _) _, ?_⟩
        apply sig_q; exact rfl; exact rfl; exact rfl; intro K hK; go_big_quiet_op; go_big_quiet_on
        apply sig_m
        exact rfl
        go_wp2_with fail
        refine OnlyN.mk ⟨Fr.setAt (Fr.refl _ _) _, ?_⟩
        apply sig_q; exact rfl; exact rfl; exact rfl; intro K hK; go_big_quiet_op; go_big_quiet_on
        apply sig_m
        exact rfl
        go_wp2_with fail
        refine OnlyN.mk ⟨Fr.setAt (Fr.refl _ _) _, ?_⟩
        refine sig_end ?_
        have hg := k3
        have Hq6c := Lib.hid y3
        have Hq64 := Lib.hid (hg.heap (hf6.heap q54 id) (fun h => by unfold Is at h; omega))
        have HE6 := Lib.hid ((hE5.no hf6).fr hg (fun b hb h => by unfold Is at h; omega))
        have Hf6 := Lib.hid ((Hf5.out.step hf6 (fun _ _ h => h)).step hg (fun b hb h => by unfold Is at h; omega))
        have ht6 := hg.size
        have ht7 := hf6.size
        clear hg hf6 q5c q54 hE5 u0 v0 y1 k1 u1 v1 y2 k2 u2 v2 y3 k3 y0 k0
        go_wp2_with fail
        go_meet
        exact ⟨rfl, 4, N0, N1, 0, Hhd, Hq6c.out, Hq64.out, Hf6.out, HE6.out, by omega⟩
    · rcases g2 : ((n : Int) == 2) with _ | _
      · have hnn : ¬ ps.length = 2 := by rw [← Hn.out]; intro h; rw [h] at g2; simp at g2
        have hx := hk0
        have Hnone : Hid (rd (d + 1) (bl s) = none) := by
          unfold Hid; rw [Hrd2.out, Hrq.out]; rw [hk0]; simp [hnn]
        have h7 := set7 q54 rfl (.int .i64 0) (.string idb) (.string ⟨#[]⟩) (.int .i64 0) (.int .i64 0) (.int .i64 0) (.slice none 0 0)
        have Hres : Hid (RdRes w (d + 1) s (.returned (.tuple #[.agg #[.int .i64 0, .string idb, .string ⟨#[]⟩, .int .i64 0, .int .i64 0, .int .i64 0, .slice none 0 0], .string ⟨#[]⟩, .bool false])) (((((((W5.setCell ⟨w.heap.size, 0, none⟩ (.int .i64 0)).setCell ⟨w.heap.size, 1, none⟩ (.string idb)).setCell ⟨w.heap.size, 2, none⟩ (.string ⟨#[]⟩)).setCell ⟨w.heap.size, 3, none⟩ (.int .i64 0)).setCell ⟨w.heap.size, 4, none⟩ (.int .i64 0)).setCell ⟨w.heap.size, 5, none⟩ (.int .i64 0)).setCell ⟨w.heap.size, 6, none⟩ (.slice none 0 0))) := by
          refine ⟨Hf5.out.step h7.2 (fun b hb h => by unfold Is at h; omega), _, _, _, _, _, _, _, _, _, _, _, rfl, ?_⟩
          exact .inl ⟨rfl, Hnone.out⟩
        have Hq := Lib.hid h7.1
        have b0 : W5.cell? ⟨w.heap.size, 0, none⟩ = some (.int .i64 0) := cell_of_block q54 0
        have f0 : W5.frozen? ⟨w.heap.size, 0, none⟩ = false := free_of_block q54 0
        have b1 : W5.cell? ⟨w.heap.size, 1, none⟩ = some (.string ⟨#[]⟩) := cell_of_block q54 1
        have f1 : W5.frozen? ⟨w.heap.size, 1, none⟩ = false := free_of_block q54 1
        have b2 : W5.cell? ⟨w.heap.size, 2, none⟩ = some (.string ⟨#[]⟩) := cell_of_block q54 2
        have f2 : W5.frozen? ⟨w.heap.size, 2, none⟩ = false := free_of_block q54 2
        have b3 : W5.cell? ⟨w.heap.size, 3, none⟩ = some (.int .i64 0) := cell_of_block q54 3
        have f3 : W5.frozen? ⟨w.heap.size, 3, none⟩ = false := free_of_block q54 3
        have b4 : W5.cell? ⟨w.heap.size, 4, none⟩ = some (.int .i64 0) := cell_of_block q54 4
        have f4 : W5.frozen? ⟨w.heap.size, 4, none⟩ = false := free_of_block q54 4
        have b5 : W5.cell? ⟨w.heap.size, 5, none⟩ = some (.int .i64 0) := cell_of_block q54 5
        have f5 : W5.frozen? ⟨w.heap.size, 5, none⟩ = false := free_of_block q54 5
        have b6 : W5.cell? ⟨w.heap.size, 6, none⟩ = some (.slice none 0 0) := cell_of_block q54 6
        have f6 : W5.frozen? ⟨w.heap.size, 6, none⟩ = false := free_of_block q54 6
        have a0 : W5.cell? ⟨w2.heap.size, 0, none⟩ = some (.int .i64 0) := cell_of_block q5c 0
        have a1 : W5.cell? ⟨w2.heap.size, 1, none⟩ = some (.string idb) := cell_of_block q5c 1
        have a2 : W5.cell? ⟨w2.heap.size, 2, none⟩ = some (.string ⟨#[]⟩) := cell_of_block q5c 2
        have a3 : W5.cell? ⟨w2.heap.size, 3, none⟩ = some (.int .i64 0) := cell_of_block q5c 3
        have a4 : W5.cell? ⟨w2.heap.size, 4, none⟩ = some (.int .i64 0) := cell_of_block q5c 4
        have a5 : W5.cell? ⟨w2.heap.size, 5, none⟩ = some (.int .i64 0) := cell_of_block q5c 5
        have a6 : W5.cell? ⟨w2.heap.size, 6, none⟩ = some (.slice none 0 0) := cell_of_block q5c 6
        clear h7 
        go_wp2_with fail
        have y0 := cell_of_block Hq.out 0
        have y1 := cell_of_block Hq.out 1
        have y2 := cell_of_block Hq.out 2
        have y3 := cell_of_block Hq.out 3
        have y4 := cell_of_block Hq.out 4
        have y5 := cell_of_block Hq.out 5
        have y6 := cell_of_block Hq.out 6
        refine bodyPost_ret (v := .tuple #[.agg #[.int .i64 0, .string idb, .string ⟨#[]⟩, .int .i64 0, .int .i64 0, .int .i64 0, .slice none 0 0], .string ⟨#[]⟩, .bool false]) (by simp [results, Tryz.results44, go_sem, y0, y1, y2, y3, y4, y5, y6]) rfl ?_
        exact Hres.out
      · have hnn : ps.length = 2 := by rw [← Hn.out]; simp at g2; omega
        have Hhd : Hid (rHead ps = some (.mk 5 idb ⟨#[]⟩ 0 0 0 []) ∧ (5 : Int) ≠ 1) := by
          refine ⟨?_, by decide⟩
          rw [Hrq.out, hk0, Hid1.out]; simp [hnn]
        have hg : Fr (Is w2.heap.size) W5 (W5.setCell ⟨w2.heap.size, 0, none⟩ (.int .i64 5)) := Fr.setAt (Fr.refl _ _) _
        have q6c : (W5.setCell ⟨w2.heap.size, 0, none⟩ (.int .i64 5)).heap[w2.heap.size]? = some (.cells #[.int .i64 5, .string idb, .string ⟨#[]⟩, .int .i64 0, .int .i64 0, .int .i64 0, .slice none 0 0] 48) := (block_setCell q5c 0 _).trans rfl
        have q64 := hg.heap q54 (fun h => by unfold Is at h; omega)
        have hE6 := hE5.fr hg (fun b hb h => by unfold Is at h; omega)
        have Hf6 := Lib.hid (Hf5.out.step hg (fun b hb h => by unfold Is at h; omega))
        have ht6 := hg.size
        have u0 : W5.cell? ⟨w2.heap.size, 0, none⟩ = some (.int .i64 0) := cell_of_block q5c 0
        have v0 : W5.frozen? ⟨w2.heap.size, 0, none⟩ = false := free_of_block q5c 0
        have Hq6c := Lib.hid q6c
        have Hq64 := Lib.hid q64
        have HE6 := Lib.hid hE6
        clear hg q6c q64 hE6 hk0 hnn q5c q54 hE5
        go_wp2_with fail
        go_meet
        exact ⟨rfl, 5, 0, 0, 0, Hhd, Hq6c.out, Hq64.out, Hf6.out, HE6.out, by omega⟩
    · have Hnone : Hid (rd (d + 1) (bl s) = none) := by
        unfold Hid; rw [Hrd2.out, Hrq.out]; rw [if_neg (fun h => hk0 h.1), if_neg (fun h => hk0b h.1), if_neg (fun h => hk0c h.1), if_neg (fun h => hk0d h.1), if_neg (fun h => hk0e h.1)]; rfl
      have h7 := set7 q54 rfl (.int .i64 0) (.string idb) (.string ⟨#[]⟩) (.int .i64 0) (.int .i64 0) (.int .i64 0) (.slice none 0 0)
      have Hres : Hid (RdRes w (d + 1) s (.returned (.tuple #[.agg #[.int .i64 0, .string idb, .string ⟨#[]⟩, .int .i64 0, .int .i64 0, .int .i64 0, .slice none 0 0], .string ⟨#[]⟩, .bool false])) (((((((W5.setCell ⟨w.heap.size, 0, none⟩ (.int .i64 0)).setCell ⟨w.heap.size, 1, none⟩ (.string idb)).setCell ⟨w.heap.size, 2, none⟩ (.string ⟨#[]⟩)).setCell ⟨w.heap.size, 3, none⟩ (.int .i64 0)).setCell ⟨w.heap.size, 4, none⟩ (.int .i64 0)).setCell ⟨w.heap.size, 5, none⟩ (.int .i64 0)).setCell ⟨w.heap.size, 6, none⟩ (.slice none 0 0))) := by
        refine ⟨Hf5.out.step h7.2 (fun b hb h => by unfold Is at h; omega), _, _, _, _, _, _, _, _, _, _, _, rfl, ?_⟩
        exact .inl ⟨rfl, Hnone.out⟩
      have Hq := Lib.hid h7.1
      have b0 : W5.cell? ⟨w.heap.size, 0, none⟩ = some (.int .i64 0) := cell_of_block q54 0
      have f0 : W5.frozen? ⟨w.heap.size, 0, none⟩ = false := free_of_block q54 0
      have b1 : W5.cell? ⟨w.heap.size, 1, none⟩ = some (.string ⟨#[]⟩) := cell_of_block q54 1
      have f1 : W5.frozen? ⟨w.heap.size, 1, none⟩ = false := free_of_block q54 1
      have b2 : W5.cell? ⟨w.heap.size, 2, none⟩ = some (.string ⟨#[]⟩) := cell_of_block q54 2
      have f2 : W5.frozen? ⟨w.heap.size, 2, none⟩ = false := free_of_block q54 2
      have b3 : W5.cell? ⟨w.heap.size, 3, none⟩ = some (.int .i64 0) := cell_of_block q54 3
      have f3 : W5.frozen? ⟨w.heap.size, 3, none⟩ = false := free_of_block q54 3
      have b4 : W5.cell? ⟨w.heap.size, 4, none⟩ = some (.int .i64 0) := cell_of_block q54 4
      have f4 : W5.frozen? ⟨w.heap.size, 4, none⟩ = false := free_of_block q54 4
      have b5 : W5.cell? ⟨w.heap.size, 5, none⟩ = some (.int .i64 0) := cell_of_block q54 5
      have f5 : W5.frozen? ⟨w.heap.size, 5, none⟩ = false := free_of_block q54 5
      have b6 : W5.cell? ⟨w.heap.size, 6, none⟩ = some (.slice none 0 0) := cell_of_block q54 6
      have f6 : W5.frozen? ⟨w.heap.size, 6, none⟩ = false := free_of_block q54 6
      have a0 : W5.cell? ⟨w2.heap.size, 0, none⟩ = some (.int .i64 0) := cell_of_block q5c 0
      have a1 : W5.cell? ⟨w2.heap.size, 1, none⟩ = some (.string idb) := cell_of_block q5c 1
      have a2 : W5.cell? ⟨w2.heap.size, 2, none⟩ = some (.string ⟨#[]⟩) := cell_of_block q5c 2
      have a3 : W5.cell? ⟨w2.heap.size, 3, none⟩ = some (.int .i64 0) := cell_of_block q5c 3
      have a4 : W5.cell? ⟨w2.heap.size, 4, none⟩ = some (.int .i64 0) := cell_of_block q5c 4
      have a5 : W5.cell? ⟨w2.heap.size, 5, none⟩ = some (.int .i64 0) := cell_of_block q5c 5
      have a6 : W5.cell? ⟨w2.heap.size, 6, none⟩ = some (.slice none 0 0) := cell_of_block q5c 6
      clear h7 
      go_wp2_with fail
      have y0 := cell_of_block Hq.out 0
      have y1 := cell_of_block Hq.out 1
      have y2 := cell_of_block Hq.out 2
      have y3 := cell_of_block Hq.out 3
      have y4 := cell_of_block Hq.out 4
      have y5 := cell_of_block Hq.out 5
      have y6 := cell_of_block Hq.out 6
      refine bodyPost_ret (v := .tuple #[.agg #[.int .i64 0, .string idb, .string ⟨#[]⟩, .int .i64 0, .int .i64 0, .int .i64 0, .slice none 0 0], .string ⟨#[]⟩, .bool false]) (by simp [results, Tryz.results44, go_sem, y0, y1, y2, y3, y4, y5, y6]) rfl ?_
      exact Hres.out
  obtain ⟨rfl, k, sl, t, e, Hhd, q6c, q64, hf6, hE6, hlt6⟩ := hcut
  rename_i hK2
  refine hK2 _ _ ?_
  obtain ⟨W6, rfl⟩ : ∃ W6, W6 = wc := ⟨_, rfl⟩
  have Hf6 := Lib.hid hf6
  have Hrd3 : Hid (rd (d + 1) (bl s) = if (bl rs).head? = some 40 then (rL (rd d) ((bl rs).length + 1) [] (bl rs)).bind fun p => some (Ct.mk k idb ⟨#[]⟩ sl t e p.1, p.2) else none) := by
    unfold Hid
    rw [Hrd2.out, Hhd.out.1]
    show rBox _ (Ct.mk k idb ⟨#[]⟩ sl t e []) (bl rs) = _
    unfold rBox
    rw [if_neg (show ¬ (Ct.mk k idb ⟨#[]⟩ sl t e []).kind = 1 from Hhd.out.2)]
    rfl
  have HE6 := Lib.hid hE6
  have h9s : 9 ≤ W6.heap.size := hE6.sz
  clear hf6 q5c q54 hE5 p0 hks hE6
  rcases hr0 : rs.toList.isEmpty with _ | _
  case true =>
    have Hnone : Hid (rd (d + 1) (bl s) = none) := by
      unfold Hid; rw [Hrd3.out, if_neg]
      rw [ByteArray.toList_eq, List.isEmpty_iff] at hr0
      show ¬ rs.data.toList.head? = _
      rw [hr0]; simp
    have h7 := set7 q64 rfl (.int .i64 k) (.string idb) (.string ⟨#[]⟩) (.int .i64 sl) (.int .i64 t) (.int .i64 e) (.slice none 0 0)
    have Hres : Hid (RdRes w (d + 1) s (.returned (.tuple #[.agg #[.int .i64 k, .string idb, .string ⟨#[]⟩, .int .i64 sl, .int .i64 t, .int .i64 e, .slice none 0 0], .string ⟨#[]⟩, .bool false])) (((((((W6.setCell ⟨w.heap.size, 0, none⟩ (.int .i64 k)).setCell ⟨w.heap.size, 1, none⟩ (.string idb)).setCell ⟨w.heap.size, 2, none⟩ (.string ⟨#[]⟩)).setCell ⟨w.heap.size, 3, none⟩ (.int .i64 sl)).setCell ⟨w.heap.size, 4, none⟩ (.int .i64 t)).setCell ⟨w.heap.size, 5, none⟩ (.int .i64 e)).setCell ⟨w.heap.size, 6, none⟩ (.slice none 0 0))) := by
      refine ⟨Hf6.out.step h7.2 (fun b hb h => by unfold Is at h; omega), _, _, _, _, _, _, _, _, _, _, _, rfl, ?_⟩
      exact .inl ⟨rfl, Hnone.out⟩
    have Hq := Lib.hid h7.1
    have b0 : W6.cell? ⟨w.heap.size, 0, none⟩ = some (.int .i64 0) := cell_of_block q64 0
    have f0 : W6.frozen? ⟨w.heap.size, 0, none⟩ = false := free_of_block q64 0
    have b1 : W6.cell? ⟨w.heap.size, 1, none⟩ = some (.string ⟨#[]⟩) := cell_of_block q64 1
    have f1 : W6.frozen? ⟨w.heap.size, 1, none⟩ = false := free_of_block q64 1
    have b2 : W6.cell? ⟨w.heap.size, 2, none⟩ = some (.string ⟨#[]⟩) := cell_of_block q64 2
    have f2 : W6.frozen? ⟨w.heap.size, 2, none⟩ = false := free_of_block q64 2
    have b3 : W6.cell? ⟨w.heap.size, 3, none⟩ = some (.int .i64 0) := cell_of_block q64 3
    have f3 : W6.frozen? ⟨w.heap.size, 3, none⟩ = false := free_of_block q64 3
    have b4 : W6.cell? ⟨w.heap.size, 4, none⟩ = some (.int .i64 0) := cell_of_block q64 4
    have f4 : W6.frozen? ⟨w.heap.size, 4, none⟩ = false := free_of_block q64 4
    have b5 : W6.cell? ⟨w.heap.size, 5, none⟩ = some (.int .i64 0) := cell_of_block q64 5
    have f5 : W6.frozen? ⟨w.heap.size, 5, none⟩ = false := free_of_block q64 5
    have b6 : W6.cell? ⟨w.heap.size, 6, none⟩ = some (.slice none 0 0) := cell_of_block q64 6
    have f6 : W6.frozen? ⟨w.heap.size, 6, none⟩ = false := free_of_block q64 6
    have a0 : W6.cell? ⟨w2.heap.size, 0, none⟩ = some (.int .i64 k) := cell_of_block q6c 0
    have a1 : W6.cell? ⟨w2.heap.size, 1, none⟩ = some (.string idb) := cell_of_block q6c 1
    have a2 : W6.cell? ⟨w2.heap.size, 2, none⟩ = some (.string ⟨#[]⟩) := cell_of_block q6c 2
    have a3 : W6.cell? ⟨w2.heap.size, 3, none⟩ = some (.int .i64 sl) := cell_of_block q6c 3
    have a4 : W6.cell? ⟨w2.heap.size, 4, none⟩ = some (.int .i64 t) := cell_of_block q6c 4
    have a5 : W6.cell? ⟨w2.heap.size, 5, none⟩ = some (.int .i64 e) := cell_of_block q6c 5
    have a6 : W6.cell? ⟨w2.heap.size, 6, none⟩ = some (.slice none 0 0) := cell_of_block q6c 6
    clear h7 
    go_upto_region 27 with (fail)
    go_wp2_with fail
    have y0 := cell_of_block Hq.out 0
    have y1 := cell_of_block Hq.out 1
    have y2 := cell_of_block Hq.out 2
    have y3 := cell_of_block Hq.out 3
    have y4 := cell_of_block Hq.out 4
    have y5 := cell_of_block Hq.out 5
    have y6 := cell_of_block Hq.out 6
    refine bodyPost_ret (v := .tuple #[.agg #[.int .i64 k, .string idb, .string ⟨#[]⟩, .int .i64 sl, .int .i64 t, .int .i64 e, .slice none 0 0], .string ⟨#[]⟩, .bool false]) (by simp [results, Tryz.results44, go_sem, y0, y1, y2, y3, y4, y5, y6]) rfl ?_
    exact Hres.out
  obtain ⟨hrp, tr, htr⟩ := bl_first hr0
  obtain ⟨C, hC⟩ : ∃ C : Nat, (rs[0]'hrp).toNat = C := ⟨_, rfl⟩
  have hrp' : (0 : Int) < rs.size := by omega
  have HC := Lib.hid hC
  have Htr := Lib.hid htr
  clear htr
  rcases g40 : ((C : Int) == 40) with _ | _
  · have Hnone : Hid (rd (d + 1) (bl s) = none) := by
      unfold Hid; rw [Hrd3.out, if_neg]
      rw [Htr.out]
      intro h
      simp at h
      have h1 := HC.out
      rw [h] at h1
      rw [← h1] at g40; simp at g40
    have g40b : ((C : Int) != 40) = true := by simpa using g40
    have h7 := set7 q64 rfl (.int .i64 k) (.string idb) (.string ⟨#[]⟩) (.int .i64 sl) (.int .i64 t) (.int .i64 e) (.slice none 0 0)
    have Hres : Hid (RdRes w (d + 1) s (.returned (.tuple #[.agg #[.int .i64 k, .string idb, .string ⟨#[]⟩, .int .i64 sl, .int .i64 t, .int .i64 e, .slice none 0 0], .string ⟨#[]⟩, .bool false])) (((((((W6.setCell ⟨w.heap.size, 0, none⟩ (.int .i64 k)).setCell ⟨w.heap.size, 1, none⟩ (.string idb)).setCell ⟨w.heap.size, 2, none⟩ (.string ⟨#[]⟩)).setCell ⟨w.heap.size, 3, none⟩ (.int .i64 sl)).setCell ⟨w.heap.size, 4, none⟩ (.int .i64 t)).setCell ⟨w.heap.size, 5, none⟩ (.int .i64 e)).setCell ⟨w.heap.size, 6, none⟩ (.slice none 0 0))) := by
      refine ⟨Hf6.out.step h7.2 (fun b hb h => by unfold Is at h; omega), _, _, _, _, _, _, _, _, _, _, _, rfl, ?_⟩
      exact .inl ⟨rfl, Hnone.out⟩
    have Hq := Lib.hid h7.1
    have b0 : W6.cell? ⟨w.heap.size, 0, none⟩ = some (.int .i64 0) := cell_of_block q64 0
    have f0 : W6.frozen? ⟨w.heap.size, 0, none⟩ = false := free_of_block q64 0
    have b1 : W6.cell? ⟨w.heap.size, 1, none⟩ = some (.string ⟨#[]⟩) := cell_of_block q64 1
    have f1 : W6.frozen? ⟨w.heap.size, 1, none⟩ = false := free_of_block q64 1
    have b2 : W6.cell? ⟨w.heap.size, 2, none⟩ = some (.string ⟨#[]⟩) := cell_of_block q64 2
    have f2 : W6.frozen? ⟨w.heap.size, 2, none⟩ = false := free_of_block q64 2
    have b3 : W6.cell? ⟨w.heap.size, 3, none⟩ = some (.int .i64 0) := cell_of_block q64 3
    have f3 : W6.frozen? ⟨w.heap.size, 3, none⟩ = false := free_of_block q64 3
    have b4 : W6.cell? ⟨w.heap.size, 4, none⟩ = some (.int .i64 0) := cell_of_block q64 4
    have f4 : W6.frozen? ⟨w.heap.size, 4, none⟩ = false := free_of_block q64 4
    have b5 : W6.cell? ⟨w.heap.size, 5, none⟩ = some (.int .i64 0) := cell_of_block q64 5
    have f5 : W6.frozen? ⟨w.heap.size, 5, none⟩ = false := free_of_block q64 5
    have b6 : W6.cell? ⟨w.heap.size, 6, none⟩ = some (.slice none 0 0) := cell_of_block q64 6
    have f6 : W6.frozen? ⟨w.heap.size, 6, none⟩ = false := free_of_block q64 6
    have a0 : W6.cell? ⟨w2.heap.size, 0, none⟩ = some (.int .i64 k) := cell_of_block q6c 0
    have a1 : W6.cell? ⟨w2.heap.size, 1, none⟩ = some (.string idb) := cell_of_block q6c 1
    have a2 : W6.cell? ⟨w2.heap.size, 2, none⟩ = some (.string ⟨#[]⟩) := cell_of_block q6c 2
    have a3 : W6.cell? ⟨w2.heap.size, 3, none⟩ = some (.int .i64 sl) := cell_of_block q6c 3
    have a4 : W6.cell? ⟨w2.heap.size, 4, none⟩ = some (.int .i64 t) := cell_of_block q6c 4
    have a5 : W6.cell? ⟨w2.heap.size, 5, none⟩ = some (.int .i64 e) := cell_of_block q6c 5
    have a6 : W6.cell? ⟨w2.heap.size, 6, none⟩ = some (.slice none 0 0) := cell_of_block q6c 6
    clear h7 
    go_upto_region 27 with (fail)
    go_wp2_with fail
    have y0 := cell_of_block Hq.out 0
    have y1 := cell_of_block Hq.out 1
    have y2 := cell_of_block Hq.out 2
    have y3 := cell_of_block Hq.out 3
    have y4 := cell_of_block Hq.out 4
    have y5 := cell_of_block Hq.out 5
    have y6 := cell_of_block Hq.out 6
    refine bodyPost_ret (v := .tuple #[.agg #[.int .i64 k, .string idb, .string ⟨#[]⟩, .int .i64 sl, .int .i64 t, .int .i64 e, .slice none 0 0], .string ⟨#[]⟩, .bool false]) (by simp [results, Tryz.results44, go_sem, y0, y1, y2, y3, y4, y5, y6]) rfl ?_
    exact Hres.out
  have g40b : ((C : Int) != 40) = false := by simpa using g40
  have hr40 : Hid (rs[0]'hrp = 40) := by
    apply UInt8.toNat.inj
    rw [HC.out]; simp at g40; show C = 40; omega
  have Hrd4 : Hid (rd (d + 1) (bl s) = (rL (rd d) ((bl rs).length + 1) [] (bl rs)).bind fun p => some (Ct.mk k idb ⟨#[]⟩ sl t e p.1, p.2)) := by
    unfold Hid; rw [Hrd3.out, if_pos]
    rw [Htr.out, hr40.out]; rfl
  have hrl : (bl rs).length = rs.size := (Lib.size_eq rs).symm
  have Hrl := Lib.hid hrl
  obtain ⟨i0, hi0, hz0, hz1, hz2⟩ := info_parts infoC
  clear hrl
  go_wp2_with fail
  clear hC g40 g40b
  go_loopw [8] (fun v wr => ∃ (acc : List Ct) (q : ByteArray) (av2 : Option Addr) (cv K : Nat), v = .string q ∧ 0 < q.size ∧ acc.length + q.size ≤ rs.size ∧ q.size < K ∧ wr.heap[w2.heap.size]? = some (.cells #[.int .i64 k, .string idb, .string ⟨#[]⟩, .int .i64 sl, .int .i64 t, .int .i64 e, .slice av2 acc.length cv] 48) ∧ wr.heap[w.heap.size]? = some (.cells #[.int .i64 0, .string ⟨#[]⟩, .string ⟨#[]⟩, .int .i64 0, .int .i64 0, .int .i64 0, .slice none 0 0] 48) ∧ Hid (CRow wr W6.heap.size (.slice av2 acc.length cv) acc) ∧ Fr (fun b => b = w2.heap.size ∨ W6.heap.size ≤ b) W6 wr ∧ Hid (Env wr) ∧ Hid (rL (rd d) ((bl rs).length + 1) [] (bl rs) = rL (rd d) K acc (bl q))) (fun v _ => strLen v)
  case atStart =>
    exact ⟨[], rs, none, 0, rs.size + 1, rfl, hrp, by simp, by omega, q6c, q64, CRow.nil _ _, Fr.refl _ _, HE6.out, by unfold Hid; rw [Hrl.out]⟩
  case round =>
    obtain ⟨acc, q, av2, cv, K, rfl, hq0, hal, hKq, qrc, qr4, HR, hfr, HEr, HrL⟩ := hrel
    obtain ⟨W, rfl⟩ : ∃ W, W = wr := ⟨_, rfl⟩
    obtain ⟨K, rfl⟩ : ∃ K', K = K' + 1 := ⟨K - 1, by omega⟩
    obtain ⟨bq, tq, hbt, hbq⟩ := at_zero hq0
    obtain ⟨C2, hC2⟩ : ∃ C : Nat, (q[0]'hq0).toNat = C := ⟨_, rfl⟩
    have hq0' : (0 : Int) < q.size := by omega
    have hq1' : (1 : Int) ≤ q.size := by omega
    have Hbt := Lib.hid hbt
    have Hbq := Lib.hid hbq
    have HC2 := Lib.hid hC2
    have htq : bl (q.extract 1 q.size) = tq := by
      show (q.extract 1 q.size).data.toList = tq
      rw [Lib.extract_to_end]
      have h1 : q.data.toList = bq :: tq := hbt
      rw [h1]; rfl
    have hqs : tq.length + 1 = q.size := by
      have h1 : (bl q).length = q.size := (Lib.size_eq q).symm
      rw [hbt] at h1; simpa using h1
    have Htq := Lib.hid htq
    have Hfw := Lib.hid (Hf6.out.step hfr (fun b hb h => by have := Hf6.out.size; omega))
    have hsr := hfr.size
    clear hbt hbq htq
    rcases g41 : ((C2 : Int) == 41) with _ | _
    · have g41b : ((C2 : Int) != 41) = true := by simpa using g41
      have Hb41 : Hid (¬ bq = 41) := by
        intro h
        have h1 := HC2.out
        rw [← Hbq.out, h] at h1
        rw [← h1] at g41; simp at g41
      have hqsz : (q.extract 1 q.size).size ≤ 900 := by
        have h1 : (bl (q.extract 1 q.size)).length = (q.extract 1 q.size).size := (Lib.size_eq _).symm
        rw [Htq.out] at h1; omega
      have hcall := Ih.out (q.extract 1 q.size) W hqsz HEr.out
      have Hfr := Lib.hid hfr
      clear hqsz hfr
      go_wp2_with fail
      refine hcall.mono ?_
      rintro en w7 ⟨hf7, k1, i1, l1, sl1, t1, e1, a1, m1, c1, r2, ok, rfl, hcase⟩
      rw [Htq.out] at hcase
      have qc7 := hf7.heap qrc id
      have q47 := hf7.heap qr4 id
      have hs7 := hf7.size
      have hx : Fr No w7 (w7.alloc (.cells #[.int .i64 k1, .string i1, .string l1, .int .i64 sl1, .int .i64 t1, .int .i64 e1, .slice a1 m1 c1] 48)) := (Fr.refl _ _).alloc _
      have qx := block_alloc w7 (.cells #[.int .i64 k1, .string i1, .string l1, .int .i64 sl1, .int .i64 t1, .int .i64 e1, .slice a1 m1 c1] 48)
      have qc8 := hx.heap qc7 id
      have q48 := hx.heap q47 id
      have HE8 := Lib.hid ((HEr.out.no hf7).no hx)
      have Hfr8 := Lib.hid ((Hfr.out.step hf7 (fun _ _ h => h.elim)).step hx (fun _ _ h => h.elim))
      have Hfw8 := Lib.hid ((Hfw.out.step hf7 (fun _ _ h => h)).step hx (fun _ _ h => h))
      have HR8 : Hid (CRow (w7.alloc (.cells #[.int .i64 k1, .string i1, .string l1, .int .i64 sl1, .int .i64 t1, .int .i64 e1, .slice a1 m1 c1] 48)) W6.heap.size (.slice av2 acc.length cv) acc) := (HR.out.fr hf7 (fun _ _ h => h)).fr hx (fun _ _ h => h)
      have hs8 : w7.heap.size < (w7.alloc (.cells #[.int .i64 k1, .string i1, .string l1, .int .i64 sl1, .int .i64 t1, .int .i64 e1, .slice a1 m1 c1] 48)).heap.size := by simp
      have Hcase : Hid ((ok = false ∧ rd d tq = none) ∨ (ok = true ∧ ∃ ct, rd d tq = some (ct, bl r2) ∧ CAt (w7.alloc (.cells #[.int .i64 k1, .string i1, .string l1, .int .i64 sl1, .int .i64 t1, .int .i64 e1, .slice a1 m1 c1] 48)) (From W.heap.size) #[.int .i64 k1, .string i1, .string l1, .int .i64 sl1, .int .i64 t1, .int .i64 e1, .slice a1 m1 c1] ct)) := by
        rcases hcase with h | ⟨h, ct, h2, h3⟩
        · exact .inl h
        · exact .inr ⟨h, ct, h2, h3.fr hx (fun _ _ h => h)⟩
      have HstepN : Hid (rd d tq = none → rd (d + 1) (bl s) = none) := by
        intro h
        rw [Hrd4.out, HrL.out, Hbt.out, rL, if_neg Hb41.out, h]; rfl
      have HstepE : Hid (∀ ct, rd d tq = some (ct, []) → rd (d + 1) (bl s) = none) := by
        intro ct h
        rw [Hrd4.out, HrL.out, Hbt.out, rL, if_neg Hb41.out, h]; rfl
      have HstepS : Hid (∀ ct r, rd d tq = some (ct, r) → r ≠ [] → rL (rd d) ((bl rs).length + 1) [] (bl rs) = rL (rd d) K (acc ++ [ct]) r) := by
        intro ct r h hr
        rw [HrL.out, Hbt.out, rL, if_neg Hb41.out, h]
        simp only [Option.bind_some, if_neg hr]
      have Hown7 : Hid (∀ b, (Value.slice av2 acc.length cv).ownBlock = some b → b < W.heap.size ∧ W6.heap.size ≤ b) := fun b hb => by
        obtain ⟨vl2, _, ho2, _⟩ := HR.out.el
        exact ⟨ownsRow_lt ho2 hb, ownsRow_blk ho2 hb⟩
      have htl : tq.length < q.size := by omega
      have Hqs := Lib.hid hqs
      clear hcase hf7 qc7 q47 hx HR hqs hcall
      go_upto_region 30 with (fail)
      generalize (w7.alloc (.cells #[.int .i64 k1, .string i1, .string l1, .int .i64 sl1, .int .i64 t1, .int .i64 e1, .slice a1 m1 c1] 48)) = W8 at *
      cases ok with
      | false =>
        have Hnone : Hid (rd (d + 1) (bl s) = none) := by
          refine HstepN.out ?_
          rcases Hcase.out with ⟨_, h⟩ | ⟨h, _⟩
          · exact h
          · cases h
        have h7 := set7 q48 rfl (.int .i64 k) (.string idb) (.string ⟨#[]⟩) (.int .i64 sl) (.int .i64 t) (.int .i64 e) (.slice av2 acc.length cv)
        have Hres : Hid (RdRes w (d + 1) s (.returned (.tuple #[.agg #[.int .i64 k, .string idb, .string ⟨#[]⟩, .int .i64 sl, .int .i64 t, .int .i64 e, .slice av2 acc.length cv], .string ⟨#[]⟩, .bool false])) (((((((W8.setCell ⟨w.heap.size, 0, none⟩ (.int .i64 k)).setCell ⟨w.heap.size, 1, none⟩ (.string idb)).setCell ⟨w.heap.size, 2, none⟩ (.string ⟨#[]⟩)).setCell ⟨w.heap.size, 3, none⟩ (.int .i64 sl)).setCell ⟨w.heap.size, 4, none⟩ (.int .i64 t)).setCell ⟨w.heap.size, 5, none⟩ (.int .i64 e)).setCell ⟨w.heap.size, 6, none⟩ (.slice av2 acc.length cv))) := by
          refine ⟨Hfw8.out.step h7.2 (fun b hb h => by unfold Is at h; omega), _, _, _, _, _, _, _, _, _, _, _, rfl, ?_⟩
          exact .inl ⟨rfl, Hnone.out⟩
        have Hq := Lib.hid h7.1
        have b0 : W8.cell? ⟨w.heap.size, 0, none⟩ = some (.int .i64 0) := cell_of_block q48 0
        have f0 : W8.frozen? ⟨w.heap.size, 0, none⟩ = false := free_of_block q48 0
        have b1 : W8.cell? ⟨w.heap.size, 1, none⟩ = some (.string ⟨#[]⟩) := cell_of_block q48 1
        have f1 : W8.frozen? ⟨w.heap.size, 1, none⟩ = false := free_of_block q48 1
        have b2 : W8.cell? ⟨w.heap.size, 2, none⟩ = some (.string ⟨#[]⟩) := cell_of_block q48 2
        have f2 : W8.frozen? ⟨w.heap.size, 2, none⟩ = false := free_of_block q48 2
        have b3 : W8.cell? ⟨w.heap.size, 3, none⟩ = some (.int .i64 0) := cell_of_block q48 3
        have f3 : W8.frozen? ⟨w.heap.size, 3, none⟩ = false := free_of_block q48 3
        have b4 : W8.cell? ⟨w.heap.size, 4, none⟩ = some (.int .i64 0) := cell_of_block q48 4
        have f4 : W8.frozen? ⟨w.heap.size, 4, none⟩ = false := free_of_block q48 4
        have b5 : W8.cell? ⟨w.heap.size, 5, none⟩ = some (.int .i64 0) := cell_of_block q48 5
        have f5 : W8.frozen? ⟨w.heap.size, 5, none⟩ = false := free_of_block q48 5
        have b6 : W8.cell? ⟨w.heap.size, 6, none⟩ = some (.slice none 0 0) := cell_of_block q48 6
        have f6 : W8.frozen? ⟨w.heap.size, 6, none⟩ = false := free_of_block q48 6
        have a0 : W8.cell? ⟨w2.heap.size, 0, none⟩ = some (.int .i64 k) := cell_of_block qc8 0
        have a1 : W8.cell? ⟨w2.heap.size, 1, none⟩ = some (.string idb) := cell_of_block qc8 1
        have a2 : W8.cell? ⟨w2.heap.size, 2, none⟩ = some (.string ⟨#[]⟩) := cell_of_block qc8 2
        have a3 : W8.cell? ⟨w2.heap.size, 3, none⟩ = some (.int .i64 sl) := cell_of_block qc8 3
        have a4 : W8.cell? ⟨w2.heap.size, 4, none⟩ = some (.int .i64 t) := cell_of_block qc8 4
        have a5 : W8.cell? ⟨w2.heap.size, 5, none⟩ = some (.int .i64 e) := cell_of_block qc8 5
        have a6 : W8.cell? ⟨w2.heap.size, 6, none⟩ = some (.slice av2 acc.length cv) := cell_of_block qc8 6
        clear h7 
        go_upto_region 31 with (fail)
        go_wp2_with fail
        have y0 := cell_of_block Hq.out 0
        have y1 := cell_of_block Hq.out 1
        have y2 := cell_of_block Hq.out 2
        have y3 := cell_of_block Hq.out 3
        have y4 := cell_of_block Hq.out 4
        have y5 := cell_of_block Hq.out 5
        have y6 := cell_of_block Hq.out 6
        refine bodyPost_ret (v := .tuple #[.agg #[.int .i64 k, .string idb, .string ⟨#[]⟩, .int .i64 sl, .int .i64 t, .int .i64 e, .slice av2 acc.length cv], .string ⟨#[]⟩, .bool false]) (by simp [results, Tryz.results44, go_sem, y0, y1, y2, y3, y4, y5, y6]) rfl ?_
        exact Hres.out
      | true =>
        have Hct : Hid (∃ ct, rd d tq = some (ct, bl r2) ∧ CAt W8 (From W.heap.size) #[.int .i64 k1, .string i1, .string l1, .int .i64 sl1, .int .i64 t1, .int .i64 e1, .slice a1 m1 c1] ct) := by
          rcases Hcase.out with ⟨h, _⟩ | ⟨_, h⟩
          · cases h
          · exact h
        rcases hr2 : r2.toList.isEmpty with _ | _
        case true =>
          have Hnone : Hid (rd (d + 1) (bl s) = none) := by
            obtain ⟨ct, h1, _⟩ := Hct.out
            rw [ByteArray.toList_eq, List.isEmpty_iff] at hr2
            have h2 : bl r2 = [] := hr2
            rw [h2] at h1
            exact HstepE.out ct h1
          have h7 := set7 q48 rfl (.int .i64 k) (.string idb) (.string ⟨#[]⟩) (.int .i64 sl) (.int .i64 t) (.int .i64 e) (.slice av2 acc.length cv)
          have Hres : Hid (RdRes w (d + 1) s (.returned (.tuple #[.agg #[.int .i64 k, .string idb, .string ⟨#[]⟩, .int .i64 sl, .int .i64 t, .int .i64 e, .slice av2 acc.length cv], .string ⟨#[]⟩, .bool false])) (((((((W8.setCell ⟨w.heap.size, 0, none⟩ (.int .i64 k)).setCell ⟨w.heap.size, 1, none⟩ (.string idb)).setCell ⟨w.heap.size, 2, none⟩ (.string ⟨#[]⟩)).setCell ⟨w.heap.size, 3, none⟩ (.int .i64 sl)).setCell ⟨w.heap.size, 4, none⟩ (.int .i64 t)).setCell ⟨w.heap.size, 5, none⟩ (.int .i64 e)).setCell ⟨w.heap.size, 6, none⟩ (.slice av2 acc.length cv))) := by
            refine ⟨Hfw8.out.step h7.2 (fun b hb h => by unfold Is at h; omega), _, _, _, _, _, _, _, _, _, _, _, rfl, ?_⟩
            exact .inl ⟨rfl, Hnone.out⟩
          have Hq := Lib.hid h7.1
          have b0 : W8.cell? ⟨w.heap.size, 0, none⟩ = some (.int .i64 0) := cell_of_block q48 0
          have f0 : W8.frozen? ⟨w.heap.size, 0, none⟩ = false := free_of_block q48 0
          have b1 : W8.cell? ⟨w.heap.size, 1, none⟩ = some (.string ⟨#[]⟩) := cell_of_block q48 1
          have f1 : W8.frozen? ⟨w.heap.size, 1, none⟩ = false := free_of_block q48 1
          have b2 : W8.cell? ⟨w.heap.size, 2, none⟩ = some (.string ⟨#[]⟩) := cell_of_block q48 2
          have f2 : W8.frozen? ⟨w.heap.size, 2, none⟩ = false := free_of_block q48 2
          have b3 : W8.cell? ⟨w.heap.size, 3, none⟩ = some (.int .i64 0) := cell_of_block q48 3
          have f3 : W8.frozen? ⟨w.heap.size, 3, none⟩ = false := free_of_block q48 3
          have b4 : W8.cell? ⟨w.heap.size, 4, none⟩ = some (.int .i64 0) := cell_of_block q48 4
          have f4 : W8.frozen? ⟨w.heap.size, 4, none⟩ = false := free_of_block q48 4
          have b5 : W8.cell? ⟨w.heap.size, 5, none⟩ = some (.int .i64 0) := cell_of_block q48 5
          have f5 : W8.frozen? ⟨w.heap.size, 5, none⟩ = false := free_of_block q48 5
          have b6 : W8.cell? ⟨w.heap.size, 6, none⟩ = some (.slice none 0 0) := cell_of_block q48 6
          have f6 : W8.frozen? ⟨w.heap.size, 6, none⟩ = false := free_of_block q48 6
          have a0 : W8.cell? ⟨w2.heap.size, 0, none⟩ = some (.int .i64 k) := cell_of_block qc8 0
          have a1 : W8.cell? ⟨w2.heap.size, 1, none⟩ = some (.string idb) := cell_of_block qc8 1
          have a2 : W8.cell? ⟨w2.heap.size, 2, none⟩ = some (.string ⟨#[]⟩) := cell_of_block qc8 2
          have a3 : W8.cell? ⟨w2.heap.size, 3, none⟩ = some (.int .i64 sl) := cell_of_block qc8 3
          have a4 : W8.cell? ⟨w2.heap.size, 4, none⟩ = some (.int .i64 t) := cell_of_block qc8 4
          have a5 : W8.cell? ⟨w2.heap.size, 5, none⟩ = some (.int .i64 e) := cell_of_block qc8 5
          have a6 : W8.cell? ⟨w2.heap.size, 6, none⟩ = some (.slice av2 acc.length cv) := cell_of_block qc8 6
          clear h7 
          go_upto_region 31 with (fail)
          go_wp2_with fail
          have y0 := cell_of_block Hq.out 0
          have y1 := cell_of_block Hq.out 1
          have y2 := cell_of_block Hq.out 2
          have y3 := cell_of_block Hq.out 3
          have y4 := cell_of_block Hq.out 4
          have y5 := cell_of_block Hq.out 5
          have y6 := cell_of_block Hq.out 6
          refine bodyPost_ret (v := .tuple #[.agg #[.int .i64 k, .string idb, .string ⟨#[]⟩, .int .i64 sl, .int .i64 t, .int .i64 e, .slice av2 acc.length cv], .string ⟨#[]⟩, .bool false]) (by simp [results, Tryz.results44, go_sem, y0, y1, y2, y3, y4, y5, y6]) rfl ?_
          exact Hres.out
        obtain ⟨ct, hct, hca⟩ := Hct.out
        obtain ⟨hr2p, tr2, htr2⟩ := bl_first hr2
        have hrk := rd_ok tq.length d tq ct (bl r2) (Nat.le_refl _) hct
        have hrc := hrk.count
        have hcp := count_pos ct
        have hr2l : (bl r2).length = r2.size := (Lib.size_eq r2).symm
        have hr2s : r2.size ≤ tq.length := by omega
        have HrL2 := Lib.hid (HstepS.out ct (bl r2) hct (by rw [htr2]; simp))
        have Hca := Lib.hid hca
        obtain ⟨vl, hvl, hown, hch⟩ := HR8.out.el
        have Hown8 := Lib.hid hown
        have Hch := Lib.hid hch
        have Hqc8 := Lib.hid qc8
        have Hq48 := Lib.hid q48
        have a6 : W8.cell? ⟨w2.heap.size, 6, none⟩ = some (.slice av2 acc.length cv) := cell_of_block qc8 6
        have x0 : W8.cell? ⟨w7.heap.size, 0, none⟩ = some (.int .i64 k1) := cell_of_block qx 0
        have x1 : W8.cell? ⟨w7.heap.size, 1, none⟩ = some (.string i1) := cell_of_block qx 1
        have x2 : W8.cell? ⟨w7.heap.size, 2, none⟩ = some (.string l1) := cell_of_block qx 2
        have x3 : W8.cell? ⟨w7.heap.size, 3, none⟩ = some (.int .i64 sl1) := cell_of_block qx 3
        have x4 : W8.cell? ⟨w7.heap.size, 4, none⟩ = some (.int .i64 t1) := cell_of_block qx 4
        have x5 : W8.cell? ⟨w7.heap.size, 5, none⟩ = some (.int .i64 e1) := cell_of_block qx 5
        have x6 : W8.cell? ⟨w7.heap.size, 6, none⟩ = some (.slice a1 m1 c1) := cell_of_block qx 6
        have hx9 : Fr No W8 (W8.alloc (.cells #[.int .i64 k1, .string i1, .string l1, .int .i64 sl1, .int .i64 t1, .int .i64 e1, .slice a1 m1 c1] 48)) := (Fr.refl _ _).alloc _
        have Hx9 := Lib.hid hx9
        clear hct hca htr2 hrk hrc hr2l hch qc8 q48 qx hx9 hC2 g41 g41b
        go_upto_region 32 with (fail)
        go_wp2_with (at_builtin; refine wpList_append_own_at _ rfl _ _ 46 rfl W6.heap.size 48 i0 (.agg #[.int .i64 0, .string ByteArray.empty, .string ByteArray.empty, .int .i64 0, .int .i64 0, .int .i64 0, .slice none 0 0]) 7 88 Tryz.underlying46 hi0 hz0 hz1 hz2 rfl (by decide) _ _ _ rfl (hown.alloc _) ⟨W8.heap.size, 0, none⟩ 1 1 [.int .i64 k1, .string i1, .string l1, .int .i64 sl1, .int .i64 t1, .int .i64 e1, .slice a1 m1 c1] rfl rfl (cells_new _ _ _ rfl) (seven_one _ _ _ _ _ _ _ _ _) (by unfold maxLen; omega) (by omega) (by simp; omega) ?_; intro v' wb hownb hgrow _ hat; obtain ⟨avb, cvb, rfl⟩ := ownsRow_slice hownb; have hgf : Fr (fun b => (Value.slice av2 acc.length cv).ownBlock = some b) (W8.alloc (.cells #[.int .i64 k1, .string i1, .string l1, .int .i64 sl1, .int .i64 t1, .int .i64 e1, .slice a1 m1 c1] 48)) wb := Fr.of_grown hgrow; have hq9 := hgf.heap (Hx9.out.heap Hqc8.out id) (fun h => by have h1 := Hown7.out _ h; omega); have z6 := cell_of_block hq9 6; have f6 := free_of_block hq9 6)
        have e9 : (#[.int .i64 k, .string idb, .string ⟨#[]⟩, .int .i64 sl, .int .i64 t, .int .i64 e, .slice av2 acc.length cv] : Array Value).setIfInBounds 6 (.slice avb (acc.length + 1) cvb) = #[.int .i64 k, .string idb, .string ⟨#[]⟩, .int .i64 sl, .int .i64 t, .int .i64 e, .slice avb (acc.length + 1) cvb] := rfl
        have qF := block_setCell hq9 6 (.slice avb (acc.length + 1) cvb)
        rw [e9] at qF
        have hsc : Fr (Is w2.heap.size) wb (wb.setCell ⟨w2.heap.size, 6, none⟩ (.slice avb (acc.length + 1) cvb)) := Fr.setAt (Fr.refl _ _) _
        have hgrow8 : Fr (fun b => (Value.slice av2 acc.length cv).ownBlock = some b) W8 wb := Hx9.out.trans hgf (fun _ _ h => h.elim) (fun _ _ h => h)
        have hsb := hgrow8.size
        have q4F := hsc.heap (hgrow8.heap Hq48.out (fun h => by have h1 := Hown7.out _ h; have := Hfw8.out.size; omega)) (fun h => by unfold Is at h; omega)
        have HEF : Hid (Env (wb.setCell ⟨w2.heap.size, 6, none⟩ (.slice avb (acc.length + 1) cvb))) := (HE8.out.fr hgrow8 (fun b hb h => by have h1 := Hown7.out _ h; omega)).fr hsc (fun b hb h => by unfold Is at h; omega)
        have HfF : Hid (Fr (fun b => b = w2.heap.size ∨ W6.heap.size ≤ b) W6 (wb.setCell ⟨w2.heap.size, 6, none⟩ (.slice avb (acc.length + 1) cvb))) := (Hfr8.out.step hgrow8 (fun b hb h => by have h1 := Hown7.out _ h; omega)).step hsc (fun b hb h => by unfold Is at h; omega)
        have HrowF : Hid (CRow (wb.setCell ⟨w2.heap.size, 6, none⟩ (.slice avb (acc.length + 1) cvb)) W6.heap.size (.slice avb (acc ++ [ct]).length cvb) (acc ++ [ct])) := by
          have h1 : CRow wb W6.heap.size (.slice avb (acc.length + 1) cvb) (acc ++ [ct]) := CRow.push (Hca.out.mono (fun b _ hb => by unfold From at *; omega)) (fun b hb => Hca.out.mono (fun b' _ hb' => by have := Hown7.out b hb; unfold From at hb'; exact ⟨by omega, by omega⟩)) hvl Hch.out hownb hgrow8 (by
            rcases hat with h | h
            · exact .inl h
            · exact .inr ⟨_, h, by simp⟩)
          rw [List.length_append, List.length_singleton]
          exact h1.fr hsc (fun b hb h => by unfold Is at h; omega)
        have hqF := Hqs.out
        have hr2q : r2.size + 1 ≤ q.size := by omega
        have hr2K : r2.size < K := by omega
        have hr2a : acc.length + 1 + r2.size ≤ rs.size := by omega
        have HqF := Lib.hid qF
        have Hq4F := Lib.hid q4F
        clear hsc hgrow8 hgf hgrow hat hownb hq9 z6 f6 e9 qF q4F hown hvl a6 x0 x1 x2 x3 x4 x5 x6
        go_wp2_with fail
        go_roundw
        case rel => exact ⟨acc ++ [ct], r2, avb, cvb, K, rfl, hr2p, by rw [List.length_append, List.length_singleton]; exact hr2a, hr2K, by rw [List.length_append, List.length_singleton]; exact HqF.out, Hq4F.out, HrowF.out, HfF.out, HEF.out, HrL2.out⟩
        case measure => simp only [strLen]; omega
    · have g41b : ((C2 : Int) != 41) = false := by simpa using g41
      have Hb41 : Hid (bq = 41) := by
        apply UInt8.toNat.inj
        rw [Hbq.out, HC2.out]; simp at g41; show C2 = 41; omega
      have Hres1 : Hid (rd (d + 1) (bl s) = some (Ct.mk k idb ⟨#[]⟩ sl t e acc, bl (q.extract 1 q.size))) := by
        unfold Hid
        rw [Hrd4.out, HrL.out, Hbt.out, rL, if_pos Hb41.out, Htq.out]; rfl
      have hin : ∃ a' cap', Value.slice av2 acc.length cv = .slice a' acc.length cap' ∧ InAt W (From W6.heap.size) a' cap' acc := HR.out.inAt
      obtain ⟨a', cap', hv, hin⟩ := hin
      injection hv with hv1 hv2 hv3
      subst hv1; subst hv3
      have Hin := Lib.hid hin
      clear hin hqs hfr
      go_wp2_with fail
      refine region_sig (Is w.heap.size) [(0, false), (1, false), (2, false), (3, true), (4, false), (5, false)] (by kernel_rfl) (by kernel_rfl) (fun w9 hf9 => ?_)
      have qc9 := hf9.heap qrc id
      have q49 := hf9.heap qr4 id
      have hne : ¬ Is w.heap.size w2.heap.size := fun h => by unfold Is at h; omega
      have a0 : ∀ g : Gr (Is w.heap.size) w9, g.W.cell? ⟨w2.heap.size, 0, none⟩ = some (.int .i64 k) := fun g => g.fr.cell (cell_of_block qc9 0) hne
      have a1 : ∀ g : Gr (Is w.heap.size) w9, g.W.cell? ⟨w2.heap.size, 1, none⟩ = some (.string idb) := fun g => g.fr.cell (cell_of_block qc9 1) hne
      have a2 : ∀ g : Gr (Is w.heap.size) w9, g.W.cell? ⟨w2.heap.size, 2, none⟩ = some (.string ⟨#[]⟩) := fun g => g.fr.cell (cell_of_block qc9 2) hne
      have a3 : ∀ g : Gr (Is w.heap.size) w9, g.W.cell? ⟨w2.heap.size, 3, none⟩ = some (.int .i64 sl) := fun g => g.fr.cell (cell_of_block qc9 3) hne
      have a4 : ∀ g : Gr (Is w.heap.size) w9, g.W.cell? ⟨w2.heap.size, 4, none⟩ = some (.int .i64 t) := fun g => g.fr.cell (cell_of_block qc9 4) hne
      have a5 : ∀ g : Gr (Is w.heap.size) w9, g.W.cell? ⟨w2.heap.size, 5, none⟩ = some (.int .i64 e) := fun g => g.fr.cell (cell_of_block qc9 5) hne
      have a6 : ∀ g : Gr (Is w.heap.size) w9, g.W.cell? ⟨w2.heap.size, 6, none⟩ = some (.slice av2 acc.length cv) := fun g => g.fr.cell (cell_of_block qc9 6) hne
      repeat (apply sig_q; exact rfl; exact rfl; exact rfl; intro K hK; go_big_quiet_op; go_big_quiet_on)
      clear a0 a1 a2 a3 a4 a5 a6
      have h7 := set7 q49 rfl (.int .i64 k) (.string idb) (.string ⟨#[]⟩) (.int .i64 sl) (.int .i64 t) (.int .i64 e) (.slice av2 acc.length cv)
      have Hres : Hid (RdRes w (d + 1) s (.returned (.tuple #[.agg #[.int .i64 k, .string idb, .string ⟨#[]⟩, .int .i64 sl, .int .i64 t, .int .i64 e, .slice av2 acc.length cv], .string (q.extract 1 q.size), .bool true])) (((((((w9.setCell ⟨w.heap.size, 0, none⟩ (.int .i64 k)).setCell ⟨w.heap.size, 1, none⟩ (.string idb)).setCell ⟨w.heap.size, 2, none⟩ (.string ⟨#[]⟩)).setCell ⟨w.heap.size, 3, none⟩ (.int .i64 sl)).setCell ⟨w.heap.size, 4, none⟩ (.int .i64 t)).setCell ⟨w.heap.size, 5, none⟩ (.int .i64 e)).setCell ⟨w.heap.size, 6, none⟩ (.slice av2 acc.length cv))) := by
        refine ⟨(Hfw.out.step hf9 (fun _ _ h => h)).step h7.2 (fun b hb h => by unfold Is at h; omega), _, _, _, _, _, _, _, _, _, _, _, rfl, .inr ⟨rfl, _, Hres1.out, ?_⟩⟩
        refine CAt.of_in ?_ k idb ⟨#[]⟩ sl t e
        exact ((Hin.out.fr hf9 (fun _ _ h => h)).fr h7.2 (fun b hb h => by have := Hf6.out.size; unfold Is at h; unfold From at hb; omega)).mono (fun b _ hb => by have := Hf6.out.size; unfold From at *; omega)
      have Hq := Lib.hid h7.1
      have k7 := h7.2
      have b0 : w9.cell? ⟨w.heap.size, 0, none⟩ = some (.int .i64 0) := cell_of_block q49 0
      have f0 : w9.frozen? ⟨w.heap.size, 0, none⟩ = false := free_of_block q49 0
      have b1 : w9.cell? ⟨w.heap.size, 1, none⟩ = some (.string ⟨#[]⟩) := cell_of_block q49 1
      have f1 : w9.frozen? ⟨w.heap.size, 1, none⟩ = false := free_of_block q49 1
      have b2 : w9.cell? ⟨w.heap.size, 2, none⟩ = some (.string ⟨#[]⟩) := cell_of_block q49 2
      have f2 : w9.frozen? ⟨w.heap.size, 2, none⟩ = false := free_of_block q49 2
      have b3 : w9.cell? ⟨w.heap.size, 3, none⟩ = some (.int .i64 0) := cell_of_block q49 3
      have f3 : w9.frozen? ⟨w.heap.size, 3, none⟩ = false := free_of_block q49 3
      have b4 : w9.cell? ⟨w.heap.size, 4, none⟩ = some (.int .i64 0) := cell_of_block q49 4
      have f4 : w9.frozen? ⟨w.heap.size, 4, none⟩ = false := free_of_block q49 4
      have b5 : w9.cell? ⟨w.heap.size, 5, none⟩ = some (.int .i64 0) := cell_of_block q49 5
      have f5 : w9.frozen? ⟨w.heap.size, 5, none⟩ = false := free_of_block q49 5
      have b6 : w9.cell? ⟨w.heap.size, 6, none⟩ = some (.slice none 0 0) := cell_of_block q49 6
      have f6 : w9.frozen? ⟨w.heap.size, 6, none⟩ = false := free_of_block q49 6
      have K7 := Lib.hid k7
      clear h7 qc9 q49 hf9 k7
      apply sig_m
      exact rfl
      go_wp2_with fail
      refine OnlyN.mk ⟨K7.out, ?_⟩
      repeat (apply sig_q; exact rfl; exact rfl; exact rfl; intro K hK; go_big_quiet_op; go_big_quiet_on)
      refine sig_end ?_
      clear b0 f0 b1 f1 b2 f2 b3 f3 b4 f4 b5 f5 b6 f6
      go_wp2_with fail
      have y0 := cell_of_block Hq.out 0
      have y1 := cell_of_block Hq.out 1
      have y2 := cell_of_block Hq.out 2
      have y3 := cell_of_block Hq.out 3
      have y4 := cell_of_block Hq.out 4
      have y5 := cell_of_block Hq.out 5
      have y6 := cell_of_block Hq.out 6
      refine bodyPost_ret (v := .tuple #[.agg #[.int .i64 k, .string idb, .string ⟨#[]⟩, .int .i64 sl, .int .i64 t, .int .i64 e, .slice av2 acc.length cv], .string (q.extract 1 q.size), .bool true]) (by simp [results, Tryz.results44, go_sem, y0, y1, y2, y3, y4, y5, y6]) rfl ?_
      exact Hres.out
theorem r_read (d : Nat) : d ≤ 6 → RdSpec d := by
  induction d with
  | zero => exact fun _ => rd_zero
  | succ d ih => exact fun hd => rd_succ d hd (ih (by omega))
end Go.Proofs.YtcibciippghooaaGreatDoor
