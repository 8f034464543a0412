/- The sanity check 'known' of the laws of layer 28. -/
import Derived.Test.YtanaompgapiikaaGreatDoorQ3
namespace Go.Proofs.YtanaompgapiikaaGreatDoor
open Go.RowKit Go.Maps Go.Sort Go.Shelf
set_option linter.unusedVariables false

theorem upd_same (f : Int → Bool) (x : Int) (b : Bool) : upd f x b x = b := by simp [upd]
theorem upd_ne (f : Int → Bool) {x y : Int} (b : Bool) (h : y ≠ x) : upd f x b y = f y := by simp [upd, h]

theorem asc_one_three : Asc [1, 3] := by simp [Asc]
theorem asc_nil : Asc [] := List.Pairwise.nil

theorem ints_new_two (w : World) (x y : Int) (T : TypeId) (hx : (Lit.int .i64 x).wf = true) (hy : (Lit.int .i64 y).wf = true) :
    Ints (w.alloc (.cells #[.int .i64 x, .int .i64 y] T)) (some ⟨w.heap.size, 0, none⟩) 2 [x, y] := by
  refine ⟨by simp, by unfold maxLen; omega, ?_, (fun e => by cases e), ?_⟩
  · intro z hz; simp at hz; rcases hz with rfl | rfl <;> assumption
  · intro ad e hne; cases e
    refine ⟨rfl, by simp, fun i z hz => ?_⟩
    rw [cell_of_block (block_alloc w _)]
    match i, hz with
    | 0, hz => simp at hz; subst hz; rfl
    | 1, hz => simp at hz; subst hz; rfl

set_option maxHeartbeats 2000000 in
theorem known_true (w : World) : Calls Tryz.prog 24 #[] w fun e w' => e = .returned (.bool true) ∧ Fr No w w' := by
  have m3 : (Lit.int .i64 3).wf = true := by decide
  have m2 : (Lit.int .i64 2).wf = true := by decide
  have big : (1000 : Nat) < maxLen := by unfold maxLen; omega
  go_enter Tryz.func24, Tryz.ntmps24
  go_wp2_with fail
  refine (q_new _).mono ?_
  rintro e w1 ⟨qb, b1, b2, rfl, h0, h1, h2, hq1, hf1⟩
  go_wp2_with fail
  refine (q_mark qb b1 b2 _ _ _ 3 _ hq1 (by unfold maxLen; omega) (by omega) (by omega)).mono ?_
  rintro e w2 ⟨rfl, hq2, hf2⟩
  go_wp2_with fail
  refine (q_mark qb b1 b2 _ _ _ 1 _ hq2 (by unfold maxLen; omega) (by omega) (by omega)).mono ?_
  rintro e w3 ⟨rfl, hq3, hf3⟩
  go_wp2_with fail
  refine (q_take qb b1 b2 _ _ _ 3 _ hq3 (by unfold maxLen; omega) m3 (by simp [upd]) rfl).mono ?_
  rintro e w4 ⟨rfl, hq4, hf4⟩
  go_wp2_with fail
  refine (q_mark qb b1 b2 _ _ _ 3 _ hq4 (by unfold maxLen; omega) (by omega) (by omega)).mono ?_
  rintro e w5 ⟨rfl, hq5, hf5⟩
  go_wp2_with fail
  refine (q_take_busy qb b1 b2 _ _ _ 3 _ hq5 m3 (by simp [upd]) (by simp [upd])).mono ?_
  rintro e w6 ⟨rfl, hf6⟩
  have hq6 := hq5.fr hf6 id id id
  go_wp2_with fail
  have hd : (!upd (upd (upd (upd (fun _ => false) 3 true) 1 true) 3 false) 3 true 3) = false := by simp [upd]
  refine (q_done qb b1 b2 _ _ _ 3 _ hq6 m3 (by simp [upd])).mono ?_
  rintro e w7 ⟨rfl, hq7, hf7⟩
  rw [hd]
  go_wp2_with fail
  refine (q_dirty qb b1 b2 _ _ _ _ hq7 (by omega)).mono ?_
  rintro e w8 ⟨a8, c8, l8, rfl, hl8, asc8, mem8, fre8, hf8⟩
  obtain rfl : l8 = [1, 3] := by
    refine Asc.ext asc8 asc_one_three fun x => ?_
    rw [mem8]
    simp only [upd]
    by_cases e1 : x = 1 <;> by_cases e3 : x = 3 <;> simp [e1, e3] <;> omega
  have hq8 := hq7.fr hf8 id id id
  go_wp2_with fail
  have hl9 := hl8.fr ((Fr.refl No _).alloc (.cells #[.int .i64 1, .int .i64 3] 3)) (fun _ _ _ h => h)
  have hn9 := ints_new_two w8 1 3 3 (by decide) (by decide)
  have hq9 := hq8.fr ((Fr.refl No _).alloc (.cells #[.int .i64 1, .int .i64 3] 3)) id id id
  refine (ints_same a8 _ c8 2 [1, 3] [1, 3] _ hl9 hn9).mono ?_
  rintro e w9 ⟨rfl, hf9⟩
  have hq10 := hq9.fr hf9 id id id
  rw [show decide (([1, 3] : List Int) = [1, 3]) = true from by decide]
  go_wp2_with fail
  refine (q_busy qb b1 b2 _ _ _ _ hq10 (by omega)).mono ?_
  rintro e w10 ⟨a10, c10, l10, rfl, hl10, asc10, mem10, fre10, hf10⟩
  obtain rfl : l10 = [] := by
    refine Asc.ext asc10 asc_nil fun x => ?_
    rw [mem10]
    simp only [upd]
    by_cases e3 : x = 3 <;> simp [e3]
  have hq11 := hq10.fr hf10 id id id
  go_wp2_with fail
  refine (q_take_clean qb b1 b2 _ _ _ 2 _ hq11 m2 (by simp [upd])).mono ?_
  rintro e w11 ⟨rfl, hf11⟩
  go_wp2_with fail
  go_ret
  refine ⟨rfl, ?_⟩
  have g2 : Fr No w w2 := hf1.step hf2 (fun b hb e => by unfold Is at e; omega)
  have g3 : Fr No w w3 := g2.step hf3 (fun b hb e => by unfold Is at e; omega)
  have g4 : Fr No w w4 := g3.step hf4 (fun b hb e => by unfold Two at e; omega)
  have g5 : Fr No w w5 := g4.step hf5 (fun b hb e => by unfold Is at e; omega)
  have g7 : Fr No w w7 := (g5.step hf6 (fun _ _ h => h)).step hf7 (fun b hb e => by unfold Is at e; omega)
  have g9 : Fr No w w9 := ((g7.step hf8 (fun _ _ h => h)).alloc _).step hf9 (fun _ _ h => h)
  exact (g9.step hf10 (fun _ _ h => h)).step hf11 (fun _ _ h => h)
end Go.Proofs.YtanaompgapiikaaGreatDoor
