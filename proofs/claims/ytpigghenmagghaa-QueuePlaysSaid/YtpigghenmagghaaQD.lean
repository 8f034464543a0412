/- QueuePlays: the walk. -/
import Derived.Test.YtpigghenmagghaaQB
import Derived.Test.YtpigghenmagghaaReg
namespace Go.Proofs.Ytpigghenmagghaa
open Go.RowKit Go.Maps Go.Sort Go.Shelf
set_option linter.unusedVariables false

theorem rem_wf (n : Int) : (Lit.int .i64 (Int.tmod n 1000)).wf = true := by
  have h1 := Int.tmod_lt_of_pos n (b := 1000) (by decide)
  have h2 := Int.lt_tmod_of_pos n (b := 1000) (by decide)
  exact WalkArith.wf_i64 (by omega)

set_option maxRecDepth 100000 in
set_option maxHeartbeats 8000000 in
theorem plays_walk (a : Option Addr) (cap : Nat) (l : List Int) (n : Int) (w : World) (hl : Ints w a cap l) (hn : (Lit.int .i64 n).wf = true) :
    Calls Try.prog 5 #[.slice a l.length cap, .int .i64 n] w fun e w' => e = .returned (.bool true) ∧ Fr (From w.heap.size) w w' := by
  have hrw := rem_wf n
  go_enter Try.func5, Try.ntmps5
  go_wp2_with fail
  refine (q_new _).mono ?_
  rintro e w1 ⟨qb, b1, b2, rfl, h0, h1, h2, hq1, hf1⟩
  have hst := St.start (T := 41) hl rfl hq1 h0 h1 h2 hf1
  have hw1 : w.heap.size + 1 ≤ w1.heap.size := by have := hf1.size; rwa [World.size_alloc] at this
  clear h0 h1 h2 hq1 hf1
  by_cases hbig : n > 1099511627776
  · go_wp2_with fail
    refine (known_true _).mono ?_
    rintro e w2 ⟨rfl, hf2⟩
    go_wp2_with fail
    go_ret
    exact ⟨rfl, hst.fr.step hf2 (fun _ _ e => e.elim)⟩
  go_wp2_with fail
  refine (tape_next w.heap.size w.heap.size 0 24 _ hst.both.tape (by omega) (by omega) (by omega)).mono ?_
  rintro e w2 ⟨r, rfl, hr1, hr2, ht2, hf2⟩
  have hs2 := hst.next ht2 hf2
  clear hst ht2 hf2
  obtain ⟨r, rfl⟩ := Int.eq_ofNat_of_zero_le hr1
  go_wp2_with fail
  go_loopw [8] (fun i wr => ∃ (j : Nat) (k : Nat) (a1 : Option Addr) (c1 : Nat) (l1 : List Int) (a2 : Option Addr) (c2 : Nat) (l2 : List Int) (f g : Int → Bool) (N : Nat), i = .int .i64 (j : Int) ∧ j ≤ 24 ∧ k + 5 * j ≤ 200 ∧ N + j ≤ 30 ∧ St w wr w.heap.size k qb b1 b2 w1.heap.size a1 c1 l1 a2 c2 l2 f g N) (fun i _ => (intOf i).toNat)
  case atStart => exact ⟨r, 1, _, _, _, _, _, _, _, _, 0, rfl, by omega, by omega, by omega, hs2⟩
  case round =>
    obtain ⟨j, k, a1, c1, l1, a2, c2, l2, f, g, N, rfl, hj, hk, hN, hS⟩ := hrel
    have n1 := hS.s1
    have n2 := hS.s2
    by_cases hpos : 0 < j
    · have x0 := hS.cb0
      have x1 := hS.cb1
      go_wp2_with fail
      refine (q_call w.heap.size w.heap.size k qb b1 b2 a1 c1 l1 a2 c2 l2 f g N _ _ hS.both (by omega) (by omega) (by omega) (by omega) hrw).mono ?_
      rintro e w3 ⟨k', a1', c1', l1', a2', c2', l2', f', g', rfl, hk', m1, m2, hb3, s1, s2, hf3⟩
      have hx : Fr No w3 (w3.alloc (.cells #[.slice a1' l1'.length c1', .slice a2' l2'.length c2'] 41)) := (Fr.refl _ _).alloc _
      obtain ⟨⟨T, hbt⟩, hS3⟩ := hS.called (hb3.no hx) s1 s2 (hf3.step hx (fun _ _ e => e.elim)) m1 m2
      have y0 : (w3.alloc (.cells #[.slice a1' l1'.length c1', .slice a2' l2'.length c2'] 41)).cell? ⟨w1.heap.size, 0, none⟩ = some (.slice a1 l1.length c1) := cell_of_block hbt 0
      have y1 : (w3.alloc (.cells #[.slice a1' l1'.length c1', .slice a2' l2'.length c2'] 41)).cell? ⟨w1.heap.size, 1, none⟩ = some (.slice a2 l2.length c2) := cell_of_block hbt 1
      have z0 : (w3.alloc (.cells #[.slice a1' l1'.length c1', .slice a2' l2'.length c2'] 41)).frozen? ⟨w1.heap.size, 0, none⟩ = false := free_of_block hbt 0
      have z1 : (w3.alloc (.cells #[.slice a1' l1'.length c1', .slice a2' l2'.length c2'] 41)).frozen? ⟨w1.heap.size, 1, none⟩ = false := free_of_block hbt 1
      clear x0 x1
      go_wp2_with fail
      refine region_sig No [(0, false), (1, false), (2, false), (3, false), (5, false), (6, false), (4, true), (7, true), (8, false), (9, false), (10, false), (11, false), (13, false), (14, false), (12, true), (15, true), (16, false), (17, false)] (by kernel_rfl) (by kernel_rfl) (fun w0 hf0 => ?_)
      have hS4 := hS3.no hf0
      have e0 : ∀ g : Gr No w0, g.W.cell? ⟨w1.heap.size, 0, none⟩ = some (.slice a1' l1'.length c1') := fun g => g.fr.cell hS4.cb0 id
      repeat (apply sig_q; exact rfl; exact rfl; exact rfl; intro K hK; go_big_quiet_op; go_big_quiet_on)
      apply sig_m
      exact rfl
      go_wp2_with fail
      refine (q_dirty qb b1 b2 f' g' _ _ hS4.both.que (by omega)).mono ?_
      rintro e w5 ⟨a5, c5, l5, rfl, hI5, asc5, mem5, fre5, hf5⟩
      have hS5 := hS4.no hf5
      go_wp2_with fail
      refine OnlyN.mk ⟨hf5, ?_⟩
      repeat (apply sig_q; exact rfl; exact rfl; exact rfl; intro K hK; go_big_quiet_op; go_big_quiet_on)
      apply sig_m
      exact rfl
      go_wp2_with fail
      refine (ints_same a5 a1' c5 c1' _ _ _ hI5 hS5.both.rq.d).mono ?_
      rintro e w6 ⟨rfl, hf6⟩
      have hS6 := hS5.no hf6
      have e2 : ∀ g : Gr No w6, g.W.cell? ⟨w1.heap.size, 1, none⟩ = some (.slice a2' l2'.length c2') := fun g => g.fr.cell hS6.cb1 id
      rw [decide_eq_true (asc_of_mem asc5 hS6.both.rq.ad mem5 hS6.both.rq.md)]
      go_wp2_with fail
      refine OnlyN.mk ⟨hf6, ?_⟩
      repeat (apply sig_q; exact rfl; exact rfl; exact rfl; intro K hK; go_big_quiet_op; go_big_quiet_on)
      apply sig_m
      exact rfl
      go_wp2_with fail
      refine (q_busy qb b1 b2 f' g' _ _ hS6.both.que (by omega)).mono ?_
      rintro e w7 ⟨a7, c7, l7, rfl, hI7, asc7, mem7, fre7, hf7⟩
      have hS7 := hS6.no hf7
      go_wp2_with fail
      refine OnlyN.mk ⟨hf7, ?_⟩
      repeat (apply sig_q; exact rfl; exact rfl; exact rfl; intro K hK; go_big_quiet_op; go_big_quiet_on)
      apply sig_m
      exact rfl
      go_wp2_with fail
      refine (ints_same a7 a2' c7 c2' _ _ _ hI7 hS7.both.rq.b).mono ?_
      rintro e w8 ⟨rfl, hf8⟩
      have hS8 := hS7.no hf8
      rw [decide_eq_true (asc_of_mem asc7 hS8.both.rq.ab mem7 hS8.both.rq.mb)]
      go_wp2_with fail
      refine OnlyN.mk ⟨hf8, ?_⟩
      repeat (apply sig_q; exact rfl; exact rfl; exact rfl; intro K hK; go_big_quiet_op; go_big_quiet_on)
      refine sig_end ?_
      go_wp2_with fail
      go_roundw
      case rel => exact ⟨j - 1, k', a1', c1', l1', a2', c2', l2', f', g', N + 1, by congr 1; omega, by omega, by omega, by omega, hS8⟩
      case measure => simp [intOf]; omega
    · obtain rfl : j = 0 := by omega
      go_wp2_with fail
      refine (known_true _).mono ?_
      rintro e w4 ⟨rfl, hf4⟩
      go_wp2_with fail
      go_ret
      exact ⟨rfl, hS.fr.step hf4 (fun _ _ e => e.elim)⟩
end Go.Proofs.Ytpigghenmagghaa
