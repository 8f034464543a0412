/- QueueMarks: the walk. And the methods of a queue for any Index. -/
import Derived.Test.YtpigghenmagghaaQ4
namespace Go.Proofs.Ytpigghenmagghaa
open Go.RowKit Go.Maps Go.Sort Go.Shelf
set_option linter.unusedVariables false

/-- What Take does, in any state. -/
def TakeTo (f g : Int → Bool) (x er : Int) (f' g' : Int → Bool) : Prop :=
  (er = 0 ∧ f x = true ∧ g x = false ∧ f' = upd f x false ∧ g' = upd g x true) ∨ (er = 281 ∧ f x = false ∧ f' = f ∧ g' = g) ∨ (er = 282 ∧ f x = true ∧ g x = true ∧ f' = f ∧ g' = g)

theorem TakeTo.other {f g f' g' : Int → Bool} {x er : Int} (h : TakeTo f g x er f' g') {y : Int} (hy : y ≠ x) : f' y = f y ∧ g' y = g y := by
  rcases h with ⟨_, _, _, rfl, rfl⟩ | ⟨_, _, rfl, rfl⟩ | ⟨_, _, _, rfl, rfl⟩
  · exact ⟨upd_ne _ _ hy, upd_ne _ _ hy⟩
  · exact ⟨rfl, rfl⟩
  · exact ⟨rfl, rfl⟩

theorem q_take_any (qb b1 b2 : Nat) (f g : Int → Bool) (N : Nat) (x : Int) (w : World) (hq : Que w qb b1 b2 f g N) (hN : N < maxLen) (hx : (Lit.int .i64 x).wf = true) :
    Calls Try.prog 11 #[.pointer (some ⟨qb, 0, none⟩), .int .i64 x] w fun e w' => ∃ er f' g', e = .returned (.int .i64 er) ∧ TakeTo f g x er f' g' ∧ Que w' qb b1 b2 f' g' (N + 1) ∧ Fr (Two b1 b2) w w' := by
  cases hf : f x
  · exact (q_take_clean qb b1 b2 f g N x w hq hx hf).mono fun e w' ⟨h1, h2⟩ => ⟨_, f, g, h1, .inr (.inl ⟨rfl, hf, rfl, rfl⟩), (hq.fr h2 id id id).mono (by omega), h2.mono (fun _ _ h => h.elim)⟩
  · cases hg : g x
    · exact (q_take qb b1 b2 f g N x w hq hN hx hf hg).mono fun e w' ⟨h1, h2, h3⟩ => ⟨_, _, _, h1, .inl ⟨rfl, hf, hg, rfl, rfl⟩, h2, h3⟩
    · exact (q_take_busy qb b1 b2 f g N x w hq hx hf hg).mono fun e w' ⟨h1, h2⟩ => ⟨_, f, g, h1, .inr (.inr ⟨rfl, hf, hg, rfl, rfl⟩), (hq.fr h2 id id id).mono (by omega), h2.mono (fun _ _ h => h.elim)⟩

/-- What Mark does, in any state. -/
def MarkTo (f : Int → Bool) (x er : Int) (f' : Int → Bool) : Prop :=
  (er = 0 ∧ 1 ≤ x ∧ x ≤ 1073741824 ∧ f' = upd f x true) ∨ (er = 280 ∧ (x < 1 ∨ 1073741824 < x) ∧ f' = f)

theorem q_mark_any (qb b1 b2 : Nat) (f g : Int → Bool) (N : Nat) (x : Int) (w : World) (hq : Que w qb b1 b2 f g N) (hN : N < maxLen) :
    Calls Try.prog 10 #[.pointer (some ⟨qb, 0, none⟩), .int .i64 x] w fun e w' => ∃ er f', e = .returned (.int .i64 er) ∧ MarkTo f x er f' ∧ Que w' qb b1 b2 f' g (N + 1) ∧ Fr (Two b1 b2) w w' := by
  by_cases h : 1 ≤ x ∧ x ≤ 1073741824
  · exact (q_mark qb b1 b2 f g N x w hq hN h.1 h.2).mono fun e w' ⟨h1, h2, h3⟩ => ⟨_, _, h1, .inl ⟨rfl, h.1, h.2, rfl⟩, h2, h3.mono (fun _ _ h => .inl h)⟩
  · refine (q_mark_bad qb x w (by omega)).mono ?_
    rintro e w' ⟨h1, rfl⟩
    exact ⟨_, f, h1, .inr ⟨rfl, by omega, rfl⟩, hq.mono (by omega), Fr.refl _ _⟩

/-- What Done does, in any state. -/
def DoneTo (f g : Int → Bool) (x : Int) (b : Bool) (er : Int) (g' : Int → Bool) : Prop :=
  (er = 0 ∧ g x = true ∧ b = !f x ∧ g' = upd g x false) ∨ (er = 283 ∧ g x = false ∧ b = false ∧ g' = g)

theorem q_done_any (qb b1 b2 : Nat) (f g : Int → Bool) (N : Nat) (x : Int) (w : World) (hq : Que w qb b1 b2 f g N) (hx : (Lit.int .i64 x).wf = true) :
    Calls Try.prog 13 #[.pointer (some ⟨qb, 0, none⟩), .int .i64 x] w fun e w' => ∃ b er g', e = .returned (.tuple #[.bool b, .int .i64 er]) ∧ DoneTo f g x b er g' ∧ Que w' qb b1 b2 f g' N ∧ Fr (Two b1 b2) w w' := by
  cases hg : g x
  · exact (q_done_idle qb b1 b2 f g N x w hq hx hg).mono fun e w' ⟨h1, h2⟩ => ⟨_, _, g, h1, .inr ⟨rfl, hg, rfl, rfl⟩, hq.fr h2 id id id, h2.mono (fun _ _ h => h.elim)⟩
  · exact (q_done qb b1 b2 f g N x w hq hx hg).mono fun e w' ⟨h1, h2, h3⟩ => ⟨_, _, _, h1, .inl ⟨rfl, hg, rfl, rfl⟩, h2, h3.mono (fun _ _ h => .inr h)⟩

theorem Tape.new {w : World} {a : Option Addr} {cap : Nat} {l : List Int} (h : Ints w a cap l) (T : TypeId) :
    Tape (w.alloc (.cells #[.slice a l.length cap, .int .i64 0] T)) w.heap.size w.heap.size 0 := by
  refine ⟨a, cap, l, T, h.fr ((Fr.refl No _).alloc _) (fun _ _ _ h => h), fun ad e hne => (h.cell ad e hne).2.1, Nat.le_refl _, block_alloc _ _⟩

theorem two_from {b1 b2 B k : Nat} (h1 : B ≤ b1) (h2 : B ≤ b2) (h : Two b1 b2 k) : From B k := by
  unfold Two at h; unfold From; omega
theorem is_from {b B k : Nat} (h1 : B ≤ b) (h : Is b k) : From B k := by
  unfold Is at h; unfold From; omega

set_option maxHeartbeats 2000000 in
theorem marks_walk (a : Option Addr) (cap : Nat) (l : List Int) (n : Int) (b : Bool) (w : World) (hl : Ints w a cap l) (hn : (Lit.int .i64 n).wf = true) :
    Calls Try.prog 3 #[.slice a l.length cap, .int .i64 n, .bool b] w fun e w' => e = .returned (.bool true) ∧ Fr (From w.heap.size) w w' := by
  have HT := Lib.hid (Tape.new hl 25)
  have hf0 := (Fr.refl (From w.heap.size) w).alloc (.cells #[.slice a l.length cap, .int .i64 0] 25)
  by_cases hlo : n < 1
  · go_enter Try.func3, Try.ntmps3
    go_wp2_with fail
    refine (q_new _).mono ?_
    rintro e w1 ⟨qb, b1, b2, rfl, h0, h1, h2, hq1, hf1⟩
    go_wp2_with fail
    refine (known_true _).mono ?_
    rintro e w2 ⟨rfl, hf2⟩
    go_wp2_with fail
    go_ret
    exact ⟨rfl, (hf0.step hf1 (fun _ _ h => h.elim)).step hf2 (fun _ _ h => h.elim)⟩
  by_cases hhi : 1000 < n
  · go_enter Try.func3, Try.ntmps3
    go_wp2_with fail
    refine (q_new _).mono ?_
    rintro e w1 ⟨qb, b1, b2, rfl, h0, h1, h2, hq1, hf1⟩
    go_wp2_with fail
    refine (known_true _).mono ?_
    rintro e w2 ⟨rfl, hf2⟩
    go_wp2_with fail
    go_ret
    exact ⟨rfl, (hf0.step hf1 (fun _ _ h => h.elim)).step hf2 (fun _ _ h => h.elim)⟩
  go_enter Try.func3, Try.ntmps3
  go_wp2_with fail
  refine (q_new _).mono ?_
  rintro e w1 ⟨qb, b1, b2, rfl, h0, h1, h2, hq1, hf1⟩
  have hsz : (w.alloc (.cells #[.slice a l.length cap, .int .i64 0] 25)).heap.size = w.heap.size + 1 := by simp
  rw [hsz] at h0 h1 h2
  have ht1 : Tape w1 w.heap.size w.heap.size 0 := HT.out.fr hf1 (fun _ _ h => h) id
  have hg1 := hf0.step hf1 (fun _ _ h => h.elim)
  go_wp2_with fail
  refine (q_mark qb b1 b2 _ _ _ n _ hq1 (by unfold maxLen; omega) (by omega) (by omega)).mono ?_
  rintro e w2 ⟨rfl, hq2, hf2⟩
  have ht2 := ht1.fr hf2 (fun b hb e => by unfold Is at e; omega) (fun e => by unfold Is at e; omega)
  have hg2 := hg1.step hf2 (fun b _ e => by unfold Is at e; unfold From; omega)
  go_wp2_with fail
  refine (q_take qb b1 b2 _ _ _ n _ hq2 (by unfold maxLen; omega) hn (upd_same _ _ _) rfl).mono ?_
  rintro e w3 ⟨rfl, hq3, hf3⟩
  have ht3 := ht2.fr hf3 (fun b hb e => by unfold Two at e; omega) (fun e => by unfold Two at e; omega)
  have hg3 := hg2.step hf3 (fun b _ e => by unfold Two at e; unfold From; omega)
  obtain ⟨f0, hfe⟩ : ∃ f0, f0 = upd (upd (fun _ => false) n true) n false := ⟨_, rfl⟩
  obtain ⟨g0, hge⟩ : ∃ g0, g0 = upd (fun _ => false) n true := ⟨_, rfl⟩
  rw [← hfe, ← hge] at hq3
  have Hf0 : Hid (f0 n = false) := by unfold Hid; rw [hfe, upd_same]
  have Hg0 : Hid (g0 n = true) := by unfold Hid; rw [hge, upd_same]
  clear hfe hge
  go_wp2_with fail
  refine (tape_next w.heap.size w.heap.size 0 10 _ ht3 (by omega) (by omega) (by omega)).mono ?_
  rintro e w4 ⟨r, rfl, hr1, hr2, ht4, hf4⟩
  have hq4 := hq3.fr hf4 (fun e => by unfold Is at e; omega) (fun e => by unfold Is at e; omega) (fun e => by unfold Is at e; omega)
  have hg4 := hg3.step hf4 (fun b _ e => by unfold Is at e; unfold From; omega)
  obtain ⟨r, rfl⟩ := Int.eq_ofNat_of_zero_le hr1
  go_wp2_with fail
  go_loopw [9] (fun i wr => ∃ (j c N : Nat) (f g : Int → Bool), i = .int .i64 (j : Int) ∧ j ≤ 10 ∧ c + j ≤ 20 ∧ N + 2 * j ≤ 30 ∧ Que wr qb b1 b2 f g N ∧ Hid (f n = false) ∧ Hid (g n = true) ∧ Tape wr w.heap.size w.heap.size c ∧ Fr (From w.heap.size) w wr) (fun i _ => (intOf i).toNat)
  case atStart => exact ⟨r, 1, 2, f0, g0, rfl, by omega, by omega, by omega, hq4, Hf0, Hg0, ht4, hg4⟩
  case round =>
    obtain ⟨j, c, N, f, g, rfl, hj, hc, hNj, hq, Hf, Hg, ht, hg⟩ := hrel
    by_cases hpos : 0 < j
    · go_wp2_with fail
      refine (tape_next w.heap.size w.heap.size c 12 _ ht (by omega) (by omega) (by omega)).mono ?_
      rintro e w5 ⟨m, rfl, hm1, hm2, ht5, hf5⟩
      have hq5 := hq.fr hf5 (fun e => by unfold Is at e; omega) (fun e => by unfold Is at e; omega) (fun e => by unfold Is at e; omega)
      have hg5 := hg.step hf5 (fun b _ e => by unfold Is at e; unfold From; omega)
      by_cases hmn : 1 + m = n
      all_goals
        first | (have hb : (1 + m == n) = true := by simpa using hmn) | (have hb : (1 + m == n) = false := by simpa using hmn)
        have Hmn := Lib.hid hmn
        clear hmn
        go_wp2_with fail
        refine (q_mark_any qb b1 b2 _ _ N _ _ hq5 (by unfold maxLen; omega)).mono ?_
        rintro e w6 ⟨er, f', rfl, hmk, hq6, hf6⟩
        have ht6 := ht5.fr hf6 (fun b hb e => by unfold Two at e; omega) (fun e => by unfold Two at e; omega)
        have hg6 := hg5.step hf6 (fun b _ e => by unfold Two at e; unfold From; omega)
        go_wp2_with fail
        refine (q_take_any qb b1 b2 _ _ (N + 1) _ _ hq6 (by unfold maxLen; omega) (WalkArith.wf_i64 (by omega))).mono ?_
        rintro e w7 ⟨er', f'', g'', rfl, htk, hq7, hf7⟩
        have ht7 := ht6.fr hf7 (fun b hb e => by unfold Two at e; omega) (fun e => by unfold Two at e; omega)
        have hg7 := hg6.step hf7 (fun b _ e => by unfold Two at e; unfold From; omega)
        have hmem : f'' n = false ∧ g'' n = true := by
          have hm := Hmn.out
          have h1 := htk.other (y := n) (by omega)
          rw [h1.1, h1.2]
          refine ⟨?_, Hg.out⟩
          rcases hmk with ⟨_, _, _, rfl⟩ | ⟨_, _, rfl⟩
          · rw [upd_ne _ _ (by omega)]; exact Hf.out
          · exact Hf.out
        have H1 := Lib.hid hmem.1
        have H2 := Lib.hid hmem.2
        clear hmem
        go_wp2_with fail
        go_roundw
        case rel => exact ⟨j - 1, c + 1, N + 1 + 1, f'', g'', by congr 1; omega, by omega, by omega, by omega, hq7, H1, H2, ht7, hg7⟩
        case measure => simp [intOf]; omega
    · obtain rfl : j = 0 := by omega
      have mem : ∀ {l : List Int} {x : Bool} {f : Int → Bool}, (∀ x, x ∈ l ↔ f x = true) → f n = x → decide (n ∈ l) = x := by
        intro l x f h1 h2
        rw [← h2, Bool.eq_iff_iff, decide_eq_true_iff, h1]
      cases b
      · go_wp2_with fail
        have hd : (!f n) = true := by rw [Hf.out]; rfl
        refine (q_done qb b1 b2 f g N n _ hq hn Hg.out).mono ?_
        rintro e w5 ⟨rfl, hq5, hf5⟩
        rw [hd]
        have hg5 := hg.step hf5 (fun b _ e => by unfold Is at e; unfold From; omega)
        go_wp2_with fail
        refine (q_done_idle qb b1 b2 f _ N n _ hq5 hn (upd_same _ _ _)).mono ?_
        rintro e w6 ⟨rfl, hf6⟩
        have hq6 := hq5.fr hf6 id id id
        have hg6 := hg5.step hf6 (fun _ _ h => h.elim)
        go_wp2_with fail
        refine (q_dirty qb b1 b2 f _ N _ hq6 (by omega)).mono ?_
        rintro e w7 ⟨a7, c7, l7, rfl, hl7, asc7, mem7, fre7, hf7⟩
        have hg7 := hg6.step hf7 (fun _ _ h => h.elim)
        go_wp2_with fail
        refine (ints_in a7 c7 l7 n _ hl7).mono ?_
        rintro e w8 ⟨rfl, rfl⟩
        rw [mem mem7 Hf.out]
        go_wp2_with fail
        refine (known_true _).mono ?_
        rintro e w9 ⟨rfl, hf9⟩
        go_wp2_with fail
        go_ret
        exact ⟨rfl, hg7.step hf9 (fun _ _ h => h.elim)⟩
      · go_wp2_with fail
        refine (q_mark qb b1 b2 f g N n _ hq (by unfold maxLen; omega) (by omega) (by omega)).mono ?_
        rintro e w4 ⟨rfl, hq4, hf4⟩
        have hg4 := hg.step hf4 (fun b _ e => by unfold Is at e; unfold From; omega)
        go_wp2_with fail
        have hd : (!upd f n true n) = false := by rw [upd_same]; rfl
        refine (q_done qb b1 b2 _ g _ n _ hq4 hn Hg.out).mono ?_
        rintro e w5 ⟨rfl, hq5, hf5⟩
        rw [hd]
        have hg5 := hg4.step hf5 (fun b _ e => by unfold Is at e; unfold From; omega)
        go_wp2_with fail
        refine (q_done_idle qb b1 b2 _ _ _ n _ hq5 hn (upd_same _ _ _)).mono ?_
        rintro e w6 ⟨rfl, hf6⟩
        have hq6 := hq5.fr hf6 id id id
        have hg6 := hg5.step hf6 (fun _ _ h => h.elim)
        go_wp2_with fail
        refine (q_dirty qb b1 b2 _ _ _ _ hq6 (by omega)).mono ?_
        rintro e w7 ⟨a7, c7, l7, rfl, hl7, asc7, mem7, fre7, hf7⟩
        have hg7 := hg6.step hf7 (fun _ _ h => h.elim)
        go_wp2_with fail
        refine (ints_in a7 c7 l7 n _ hl7).mono ?_
        rintro e w8 ⟨rfl, rfl⟩
        rw [mem mem7 (upd_same _ _ _)]
        go_wp2_with fail
        refine (known_true _).mono ?_
        rintro e w9 ⟨rfl, hf9⟩
        go_wp2_with fail
        go_ret
        exact ⟨rfl, hg7.step hf9 (fun _ _ h => h.elim)⟩
end Go.Proofs.Ytpigghenmagghaa
