/- QueueForgets: the walk. -/
import Derived.Test.YtpigghenmagghaaQA
namespace Go.Proofs.Ytpigghenmagghaa
open Go.RowKit Go.Maps Go.Sort Go.Shelf
set_option linter.unusedVariables false

theorem asc_of_mem {l l' : List Int} {f : Int → Bool} (h1 : Asc l) (h2 : Asc l') (m1 : ∀ x, x ∈ l ↔ f x = true) (m2 : ∀ x, x ∈ l' ↔ f x = true) : l = l' := Asc.ext h1 h2 (fun x => by rw [m1, m2])

/-- The world of a law, behind what only makes memory. -/
theorem below_of {w W : World} (h : Fr (From w.heap.size) w W) : Below w.heap.size w W := h.below (Nat.le_refl _) (fun b hb e => by unfold From at e; omega)

set_option maxRecDepth 100000 in
set_option maxHeartbeats 8000000 in
theorem forgets_walk (a : Option Addr) (cap : Nat) (l : List Int) (n : Int) (w : World) (hl : Ints w a cap l) (hn : (Lit.int .i64 n).wf = true) :
    Calls Try.prog 6 #[.slice a l.length cap, .int .i64 n] w fun e w' => e = .returned (.bool true) ∧ Fr (From w.heap.size) w w' := by
  go_enter Try.func6, Try.ntmps6
  go_wp2_with fail
  refine (q_new _).mono ?_
  rintro e w1 ⟨qb, b1, b2, rfl, h0, h1, h2, hq1, hf1⟩
  have hst := St.start (T := 41) hl rfl hq1 h0 h1 h2 hf1
  have hw1 : w.heap.size + 1 ≤ w1.heap.size := by have := hf1.size; rwa [World.size_alloc] at this
  clear h0 h1 h2 hq1 hf1
  go_wp2_with fail
  refine (tape_next w.heap.size w.heap.size 0 14 _ hst.both.tape (by omega) (by omega) (by omega)).mono ?_
  rintro e w2 ⟨r, rfl, hr1, hr2, ht2, hf2⟩
  have hs2 := hst.next ht2 hf2
  clear hst ht2 hf2
  obtain ⟨r, rfl⟩ := Int.eq_ofNat_of_zero_le hr1
  go_wp2_with fail
  go_loopw [8] (fun i wr => ∃ (j : Nat) (k : Nat) (a1 : Option Addr) (c1 : Nat) (l1 : List Int) (a2 : Option Addr) (c2 : Nat) (l2 : List Int) (f g : Int → Bool) (N : Nat), i = .int .i64 (j : Int) ∧ j ≤ 14 ∧ k + 5 * j ≤ 100 ∧ N + j ≤ 20 ∧ St w wr w.heap.size k qb b1 b2 w1.heap.size a1 c1 l1 a2 c2 l2 f g N) (fun i _ => (intOf i).toNat)
  case atStart => exact ⟨r, 1, _, _, _, _, _, _, _, _, 0, rfl, by omega, by omega, by omega, hs2⟩
  case round =>
    obtain ⟨j, k, a1, c1, l1, a2, c2, l2, f, g, N, rfl, hj, hk, hN, hS⟩ := hrel
    have n1 := hS.s1
    have n2 := hS.s2
    by_cases hpos : 0 < j
    · have x0 := hS.cb0
      have x1 := hS.cb1
      go_wp2_with fail
      refine (q_call w.heap.size w.heap.size k qb b1 b2 a1 c1 l1 a2 c2 l2 f g N 13 _ hS.both (by omega) (by omega) (by omega) (by omega) (by decide)).mono ?_
      rintro e w3 ⟨k', a1', c1', l1', a2', c2', l2', f', g', rfl, hk', m1, m2, hb3, s1, s2, hf3⟩
      obtain ⟨⟨T, hbt⟩, hS3⟩ := hS.called hb3 s1 s2 hf3 m1 m2
      have y0 : w3.cell? ⟨w1.heap.size, 0, none⟩ = some (.slice a1 l1.length c1) := cell_of_block hbt 0
      have y1 : w3.cell? ⟨w1.heap.size, 1, none⟩ = some (.slice a2 l2.length c2) := cell_of_block hbt 1
      have z0 : w3.frozen? ⟨w1.heap.size, 0, none⟩ = false := free_of_block hbt 0
      have z1 : w3.frozen? ⟨w1.heap.size, 1, none⟩ = false := free_of_block hbt 1
      clear x0 x1
      go_wp2_with fail
      go_roundw
      case rel => exact ⟨j - 1, k', a1', c1', l1', a2', c2', l2', f', g', N + 1, by congr 1; omega, by omega, by omega, by omega, hS3⟩
      case measure => simp [intOf]; omega
    · obtain rfl : j = 0 := by omega
      go_wp2_with fail
      refine (fold_any n 14 _ (by omega) (by omega) hn).mono ?_
      rintro e w3 ⟨x, rfl, hx1, hx2, rfl⟩
      have hxw : (Lit.int .i64 (1 + x)).wf = true := WalkArith.wf_i64 (by omega)
      obtain ⟨y, hy⟩ : ∃ y, y = 1 + x := ⟨_, rfl⟩
      go_wp2_with fail
      refine (q_dirty qb b1 b2 f g N _ hS.both.que (by omega)).mono ?_
      rintro e w4 ⟨a4, c4, l4, rfl, hI4, asc4, mem4, fre4, hf4⟩
      have hS4 := hS.no hf4
      have len4 : l4.length ≤ N := by rw [asc_of_mem asc4 hS.both.rq.ad mem4 hS.both.rq.md]; exact n1
      go_wp2_with fail
      refine (q_busy qb b1 b2 f g N _ hS4.both.que (by omega)).mono ?_
      rintro e w5 ⟨a5, c5, l5, rfl, hI5, asc5, mem5, fre5, hf5⟩
      have hS5 := hS4.no hf5
      have len5 : l5.length ≤ N := by rw [asc_of_mem asc5 hS.both.rq.ab mem5 hS.both.rq.mb]; exact n2
      have hI4' := hI4.no hf5 (fun _ => id)
      go_wp2_with fail
      refine (q_forget qb b1 b2 f g N _ _ hS5.both.que hxw).mono ?_
      rintro e w6 ⟨rfl, hq6, hf6⟩
      have hT : ∀ b, Two b1 b2 b → b < w4.heap.size ∧ w.heap.size ≤ b := fun b hb => hS4.both.tri b (.inr hb)
      have hT3 : ∀ b, Two b1 b2 b → b < wr.heap.size := fun b hb => (hS.both.tri b (.inr hb)).1
      have hI4'' := hI4'.fr hf6 (fun ad e hne hb => by have := fre4 ad e; have := hT3 _ hb; omega)
      have hI5' := hI5.fr hf6 (fun ad e hne hb => by have := fre5 ad e; have := (hT _ hb).1; omega)
      have hfr6 := hS5.fr.step hf6 (fun b _ e => (hT b e).2)
      go_wp2_with fail
      refine (q_dirty qb b1 b2 _ _ N _ hq6 (by omega)).mono ?_
      rintro e w7 ⟨a7, c7, l7, rfl, hI7, asc7, mem7, fre7, hf7⟩
      have hq7 := hq6.fr hf7 id id id
      have hfr7 := hfr6.step hf7 (fun _ _ e => e.elim)
      go_wp2_with fail
      refine (r_without a4 c4 l4 _ _ (hI4''.no hf7 (fun _ => id)) (by omega)).mono ?_
      rintro e w8 ⟨a8, c8, rfl, hI8, fre8, hf8⟩
      have hq8 := hq7.fr hf8 id id id
      have hfr8 := hfr7.step hf8 (fun _ _ e => e.elim)
      go_wp2_with fail
      refine (ints_same a7 a8 c7 c8 _ _ _ (hI7.no hf8 (fun _ => id)) hI8).mono ?_
      rintro e w9 ⟨rfl, hf9⟩
      have hq9 := hq8.fr hf9 id id id
      have hfr9 := hfr8.step hf9 (fun _ _ e => e.elim)
      rw [decide_eq_true (asc_of_mem asc7 (wout_asc asc4 _) mem7 (wout_mem mem4 _))]
      go_wp2_with fail
      refine (q_busy qb b1 b2 _ _ N _ hq9 (by omega)).mono ?_
      rintro e w10 ⟨a10, c10, l10, rfl, hI10, asc10, mem10, fre10, hf10⟩
      have hq10 := hq9.fr hf10 id id id
      have hfr10 := hfr9.step hf10 (fun _ _ e => e.elim)
      go_wp2_with fail
      refine (r_without a5 c5 l5 _ _ ((((hI5'.no hf7 (fun _ => id)).no hf8 (fun _ => id)).no hf9 (fun _ => id)).no hf10 (fun _ => id)) (by omega)).mono ?_
      rintro e w11 ⟨a11, c11, rfl, hI11, fre11, hf11⟩
      have hq11 := hq10.fr hf11 id id id
      have hfr11 := hfr10.step hf11 (fun _ _ e => e.elim)
      go_wp2_with fail
      refine (ints_same a10 a11 c10 c11 _ _ _ (hI10.no hf11 (fun _ => id)) hI11).mono ?_
      rintro e w12 ⟨rfl, hf12⟩
      have hq12 := hq11.fr hf12 id id id
      have hfr12 := hfr11.step hf12 (fun _ _ e => e.elim)
      rw [decide_eq_true (asc_of_mem asc10 (wout_asc asc5 _) mem10 (wout_mem mem5 _))]
      go_wp2_with fail
      refine (q_take_clean qb b1 b2 _ _ N _ _ hq12 hxw (upd_same _ _ _)).mono ?_
      rintro e w13 ⟨rfl, hf13⟩
      have hfr13 := hfr12.step hf13 (fun _ _ e => e.elim)
      go_wp2_with fail
      refine (known_true _).mono ?_
      rintro e w14 ⟨rfl, hf14⟩
      go_wp2_with fail
      go_ret
      exact ⟨rfl, hfr13.step hf14 (fun _ _ e => e.elim)⟩
end Go.Proofs.Ytpigghenmagghaa
