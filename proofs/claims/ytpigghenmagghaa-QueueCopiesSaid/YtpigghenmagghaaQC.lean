/- QueueCopies: the walk. -/
import Derived.Test.YtpigghenmagghaaQB
namespace Go.Proofs.Ytpigghenmagghaa
open Go.RowKit Go.Maps Go.Sort Go.Shelf
set_option linter.unusedVariables false

set_option maxRecDepth 100000 in
set_option maxHeartbeats 8000000 in
theorem copies_walk (a : Option Addr) (cap : Nat) (l : List Int) (w : World) (hl : Ints w a cap l) :
    Calls Try.prog 7 #[.slice a l.length cap] w fun e w' => e = .returned (.bool true) ∧ Fr (From w.heap.size) w w' := by
  go_enter Try.func7, Try.ntmps7
  go_wp2_with fail
  refine (q_new _).mono ?_
  rintro e w1 ⟨qb, b1, b2, rfl, h0, h1, h2, hq1, hf1⟩
  have hst := St.start (T := 41) hl rfl hq1 h0 h1 h2 hf1
  have hw1 : w.heap.size + 1 ≤ w1.heap.size := by have := hf1.size; rwa [World.size_alloc] at this
  clear h0 h1 h2 hq1 hf1
  go_wp2_with fail
  refine (tape_next w.heap.size w.heap.size 0 10 _ hst.both.tape (by omega) (by omega) (by omega)).mono ?_
  rintro e w2 ⟨r, rfl, hr1, hr2, ht2, hf2⟩
  have hs2 := hst.next ht2 hf2
  clear hst ht2 hf2
  obtain ⟨r, rfl⟩ := Int.eq_ofNat_of_zero_le hr1
  go_wp2_with fail
  go_loopw [6] (fun i wr => ∃ (j : Nat) (k : Nat) (a1 : Option Addr) (c1 : Nat) (l1 : List Int) (a2 : Option Addr) (c2 : Nat) (l2 : List Int) (f g : Int → Bool) (N : Nat), i = .int .i64 (j : Int) ∧ j ≤ 10 ∧ k + 5 * j ≤ 100 ∧ N + j ≤ 20 ∧ St w wr w.heap.size k qb b1 b2 w1.heap.size a1 c1 l1 a2 c2 l2 f g N) (fun i _ => (intOf i).toNat)
  case atStart => exact ⟨r, 1, _, _, _, _, _, _, _, _, 0, rfl, by omega, by omega, by omega, hs2⟩
  case round =>
    obtain ⟨j, k, a1, c1, l1, a2, c2, l2, f, g, N, rfl, hj, hk, hN, hS⟩ := hrel
    have n1 := hS.s1
    have n2 := hS.s2
    by_cases hpos : 0 < j
    · have x0 := hS.cb0
      have x1 := hS.cb1
      go_wp2_with fail
      refine (q_call w.heap.size w.heap.size k qb b1 b2 a1 c1 l1 a2 c2 l2 f g N 13 _ hS.both (by omega) (by omega) (by omega) (by omega) (by decide)).mono ?_
      rintro e w3 ⟨k', a1', c1', l1', a2', c2', l2', f', g', rfl, hk', m1, m2, hb3, s1, s2, hf3⟩
      obtain ⟨⟨T, hbt⟩, hS3⟩ := hS.called hb3 s1 s2 hf3 m1 m2
      have y0 : w3.cell? ⟨w1.heap.size, 0, none⟩ = some (.slice a1 l1.length c1) := cell_of_block hbt 0
      have y1 : w3.cell? ⟨w1.heap.size, 1, none⟩ = some (.slice a2 l2.length c2) := cell_of_block hbt 1
      have z0 : w3.frozen? ⟨w1.heap.size, 0, none⟩ = false := free_of_block hbt 0
      have z1 : w3.frozen? ⟨w1.heap.size, 1, none⟩ = false := free_of_block hbt 1
      clear x0 x1
      go_wp2_with fail
      go_roundw
      case rel => exact ⟨j - 1, k', a1', c1', l1', a2', c2', l2', f', g', N + 1, by congr 1; omega, by omega, by omega, by omega, hS3⟩
      case measure => simp [intOf]; omega
    · obtain rfl : j = 0 := by omega
      go_wp2_with fail
      refine (q_copy qb b1 b2 f g N _ hS.both.que).mono ?_
      rintro e w4 ⟨qc, d1, d2, rfl, eq0, eq1, eq2, hqc, hf4⟩
      have hS4 := hS.no hf4
      go_wp2_with fail
      refine (q_dirty qb b1 b2 f g N _ hS4.both.que (by omega)).mono ?_
      rintro e w5 ⟨a5, c5, l5, rfl, hI5, asc5, mem5, fre5, hf5⟩
      have hS5 := hS4.no hf5
      have hqc5 := hqc.fr hf5 id id id
      go_wp2_with fail
      refine (q_busy qb b1 b2 f g N _ hS5.both.que (by omega)).mono ?_
      rintro e w6 ⟨a6, c6, l6, rfl, hI6, asc6, mem6, fre6, hf6⟩
      have hS6 := hS5.no hf6
      have hqc6 := hqc5.fr hf6 id id id
      have hI5' := hI5.no hf6 (fun _ => id)
      have x0 := hS6.cb0
      have x1 := hS6.cb1
      have hlt6 := hS6.lt
      -- the second variable of the reference's queue
      have hx7 : Fr No w6 (w6.alloc (.cells #[.slice a1 l1.length c1, .slice a2 l2.length c2] 41)) := (Fr.refl _ _).alloc _
      have hS7 : St w (w6.alloc (.cells #[.slice a1 l1.length c1, .slice a2 l2.length c2] 41)) w.heap.size k qb b1 b2 w6.heap.size a1 c1 l1 a2 c2 l2 f g N := by
        have hT := hS6.both.tri
        have hq := hS6.both.que.blk
        obtain ⟨T, hq⟩ := hq
        have hq := lt_of_block hq
        have := hT w.heap.size (.inl rfl)
        refine ⟨hS6.both.no hx7, ⟨_, block_alloc _ _⟩, fun ad e hne hb => ?_, fun ad e hne hb => ?_, by omega, by omega, by have := hS6.fr.size; omega, hS6.Bq, hS6.fr.alloc _, n1, n2⟩
        · have := (hS6.both.rq.d.cell ad e hne).2.1; unfold Is at hb; omega
        · have := (hS6.both.rq.b.cell ad e hne).2.1; unfold Is at hb; omega
      have hqc7 := hqc6.fr hx7 id id id
      have hI5'' := hI5'.no hx7 (fun _ => id)
      have hI6'' := hI6.no hx7 (fun _ => id)
      obtain ⟨f0, hf0⟩ : ∃ f0, f0 = f := ⟨_, rfl⟩
      obtain ⟨g0, hg0⟩ : ∃ g0, g0 = g := ⟨_, rfl⟩
      rw [← hf0] at hqc7 mem5
      rw [← hg0] at hqc7 mem6
      clear hf0 hg0
      have hlc : wr.heap.size ≤ qc ∧ wr.heap.size ≤ d1 ∧ wr.heap.size ≤ d2 := ⟨eq0, eq1, eq2⟩
      -- what was made before the second loop lies apart from what 'call' writes
      have hT4 : ∀ b, Tri w.heap.size b1 b2 b → b < wr.heap.size ∧ w.heap.size ≤ b := hS.both.tri
      have hlq : qc < w6.heap.size ∧ d1 < w6.heap.size ∧ d2 < w6.heap.size := by
        obtain ⟨T, hb⟩ := hqc6.blk
        exact ⟨lt_of_block hb, hqc6.dirty.lt, hqc6.busy.lt⟩
      have hl56 : (∀ ad, a5 = some ad → l5 ≠ [] → wr.heap.size ≤ ad.block ∧ ad.block < w6.heap.size) ∧ (∀ ad, a6 = some ad → l6 ≠ [] → wr.heap.size ≤ ad.block ∧ ad.block < w6.heap.size) := by
        have e4 := hf4.size
        have e5 := hf5.size
        exact ⟨fun ad e hne => ⟨Nat.le_trans e4 (fre5 ad e), (hI5'.cell ad e hne).2.1⟩, fun ad e hne => ⟨by have := fre6 ad e; omega, (hI6.cell ad e hne).2.1⟩⟩
      clear hS6 hS5 hS4 hS hqc hqc5 hqc6 hI5 hI5' hI6 fre5 fre6 hx7 eq0 eq1 eq2
      go_wp2_with fail
      refine (tape_next w.heap.size w.heap.size k 10 _ hS7.both.tape (by omega) (by omega) (by omega)).mono ?_
      rintro e w8 ⟨r, rfl, hr1, hr2, ht8, hf8⟩
      have hs8 := hS7.next ht8 hf8
      obtain ⟨r, rfl⟩ := Int.eq_ofNat_of_zero_le hr1
      have hkeep : ∀ W, Fr (fun b => Tri w.heap.size b1 b2 b ∨ Is w6.heap.size b) (w6.alloc (.cells #[.slice a1 l1.length c1, .slice a2 l2.length c2] 41)) W → Que W qc d1 d2 f0 g0 N ∧ Ints W a5 c5 l5 ∧ Ints W a6 c6 l6 := fun W hW => by
        have no : ∀ b, wr.heap.size ≤ b ∧ b < w6.heap.size → ¬ (Tri w.heap.size b1 b2 b ∨ Is w6.heap.size b) := fun b hb h => by
          rcases h with h | h
          · have := (hT4 b h).1; omega
          · unfold Is at h; omega
        exact ⟨hqc7.fr hW (no _ ⟨hlc.1, hlq.1⟩) (no _ ⟨hlc.2.1, hlq.2.1⟩) (no _ ⟨hlc.2.2, hlq.2.2⟩), hI5''.fr hW (fun ad e hne => no _ (hl56.1 ad e hne)), hI6''.fr hW (fun ad e hne => no _ (hl56.2 ad e hne))⟩
      have hfk8 : Fr (fun b => Tri w.heap.size b1 b2 b ∨ Is w6.heap.size b) _ w8 := hf8.mono (fun b _ h => .inl (.inl h))
      clear hqc7 hI5'' hI6'' hl56 hlc hlq hS7 ht8 hf8
      obtain ⟨wo, hwo⟩ : ∃ wo, wo = wr := ⟨_, rfl⟩
      rw [← hwo] at hT4
      clear hwo x0 x1
      obtain ⟨wv, hwv⟩ : ∃ wv, wv = w6.alloc (.cells #[.slice a1 l1.length c1, .slice a2 l2.length c2] 41) := ⟨_, rfl⟩
      rw [← hwv] at hkeep hfk8
      have Hwv := Lib.hid hwv
      clear hwv
      have Hk := Lib.hid hkeep
      have HT4 := Lib.hid hT4
      clear hkeep hT4
      obtain ⟨k0, hk0⟩ : ∃ k0, k0 = k := ⟨_, rfl⟩
      have hk0' : k0 ≤ 100 := by omega
      have hs8' : St w w8 w.heap.size (k0 + 1) qb b1 b2 w6.heap.size a1 c1 l1 a2 c2 l2 f g N := by rw [hk0]; exact hs8
      clear hk0 hs8
      go_wp2_with fail
      go_loopw [11] (fun i wz => ∃ (j : Nat) (k : Nat) (a1 : Option Addr) (c1 : Nat) (l1 : List Int) (a2 : Option Addr) (c2 : Nat) (l2 : List Int) (f g : Int → Bool) (M : Nat), i = .int .i64 (j : Int) ∧ j ≤ 10 ∧ k + 5 * j ≤ 200 ∧ M + j ≤ 30 ∧ St w wz w.heap.size k qb b1 b2 w6.heap.size a1 c1 l1 a2 c2 l2 f g M ∧ Fr (fun b => Tri w.heap.size b1 b2 b ∨ Is w6.heap.size b) wv wz) (fun i _ => (intOf i).toNat)
      case atStart => exact ⟨r, k0 + 1, _, _, _, _, _, _, _, _, _, rfl, by omega, by omega, by omega, hs8', hfk8⟩
      case round =>
        obtain ⟨j, k, a1, c1, l1, a2, c2, l2, f, g, M, rfl, hj, hk, hM, hS, hF⟩ := hrel
        have m1 := hS.s1
        have m2 := hS.s2
        by_cases hpos : 0 < j
        · have x0 := hS.cb0
          have x1 := hS.cb1
          go_wp2_with fail
          refine (q_call w.heap.size w.heap.size k qb b1 b2 a1 c1 l1 a2 c2 l2 f g M 13 _ hS.both (by omega) (by omega) (by omega) (by omega) (by decide)).mono ?_
          rintro e w9 ⟨k', a1', c1', l1', a2', c2', l2', f', g', rfl, hk', n1, n2, hb3, s1, s2, hf3⟩
          obtain ⟨⟨T, hbt⟩, hS3⟩ := hS.called hb3 s1 s2 hf3 n1 n2
          have y0 : w9.cell? ⟨w6.heap.size, 0, none⟩ = some (.slice a1 l1.length c1) := cell_of_block hbt 0
          have y1 : w9.cell? ⟨w6.heap.size, 1, none⟩ = some (.slice a2 l2.length c2) := cell_of_block hbt 1
          have z0 : w9.frozen? ⟨w6.heap.size, 0, none⟩ = false := free_of_block hbt 0
          have z1 : w9.frozen? ⟨w6.heap.size, 1, none⟩ = false := free_of_block hbt 1
          clear x0 x1
          go_wp2_with fail
          go_roundw
          case rel => exact ⟨j - 1, k', a1', c1', l1', a2', c2', l2', f', g', M + 1, by congr 1; omega, by omega, by omega, by omega, hS3, (hF.step hf3 (fun b _ e => .inl e)).step (((Fr.refl (Is w6.heap.size) _).setIs _).setIs _) (fun b _ e => .inr e)⟩
          case measure => simp [intOf]; omega
        · obtain rfl : j = 0 := by omega
          obtain ⟨hqc, hI5, hI6⟩ := (show ∀ W, Fr _ _ W → _ from Hk) _ hF
          go_wp2_with fail
          refine (q_dirty qc d1 d2 f0 g0 _ _ hqc (by omega)).mono ?_
          rintro e w10 ⟨a10, c10, l10, rfl, hI10, asc10, mem10, fre10, hf10⟩
          have hqc1 := hqc.fr hf10 id id id
          have hfr1 := hS.fr.step hf10 (fun _ _ e => e.elim)
          go_wp2_with fail
          refine (ints_same a10 a5 c10 c5 _ _ _ hI10 (hI5.no hf10 (fun _ => id))).mono ?_
          rintro e w11 ⟨rfl, hf11⟩
          have hqc2 := hqc1.fr hf11 id id id
          have hfr2 := hfr1.step hf11 (fun _ _ e => e.elim)
          rw [decide_eq_true (asc_of_mem asc10 asc5 mem10 mem5)]
          go_wp2_with fail
          refine (q_busy qc d1 d2 f0 g0 _ _ hqc2 (by omega)).mono ?_
          rintro e w12 ⟨a12, c12, l12, rfl, hI12, asc12, mem12, fre12, hf12⟩
          have hfr3 := hfr2.step hf12 (fun _ _ e => e.elim)
          go_wp2_with fail
          refine (ints_same a12 a6 c12 c6 _ _ _ hI12 (((hI6.no hf10 (fun _ => id)).no hf11 (fun _ => id)).no hf12 (fun _ => id))).mono ?_
          rintro e w13 ⟨rfl, hf13⟩
          have hfr4 := hfr3.step hf13 (fun _ _ e => e.elim)
          rw [decide_eq_true (asc_of_mem asc12 asc6 mem12 mem6)]
          go_wp2_with fail
          refine (known_true _).mono ?_
          rintro e w14 ⟨rfl, hf14⟩
          go_wp2_with fail
          go_ret
          exact ⟨rfl, hfr4.step hf14 (fun _ _ e => e.elim)⟩
end Go.Proofs.Ytpigghenmagghaa
