/- QueueMarks: the walk. And the methods of a queue for any Index. -/
import Derived.Test.YtanaompgapiikaaGreatDoorQ4
namespace Go.Proofs.YtanaompgapiikaaGreatDoor
open Go.RowKit Go.Maps Go.Sort Go.Shelf
set_option linter.unusedVariables false

/-- What Take does, in any state. -/
def TakeTo (f g : Int → Bool) (x er : Int) (f' g' : Int → Bool) : Prop :=
  (er = 0 ∧ f x = true ∧ g x = false ∧ f' = upd f x false ∧ g' = upd g x true) ∨ (er = 281 ∧ f x = false ∧ f' = f ∧ g' = g) ∨ (er = 282 ∧ f x = true ∧ g x = true ∧ f' = f ∧ g' = g)

theorem TakeTo.other {f g f' g' : Int → Bool} {x er : Int} (h : TakeTo f g x er f' g') {y : Int} (hy : y ≠ x) : f' y = f y ∧ g' y = g y := by
  rcases h with ⟨_, _, _, rfl, rfl⟩ | ⟨_, _, rfl, rfl⟩ | ⟨_, _, _, rfl, rfl⟩
  · exact ⟨upd_ne _ _ hy, upd_ne _ _ hy⟩
  · exact ⟨rfl, rfl⟩
  · exact ⟨rfl, rfl⟩

theorem q_take_any (qb b1 b2 : Nat) (f g : Int → Bool) (N : Nat) (x : Int) (w : World) (hq : Que w qb b1 b2 f g N) (hN : N < maxLen) (hx : (Lit.int .i64 x).wf = true) :
    Calls Tryz.prog 18 #[.pointer (some ⟨qb, 0, none⟩), .int .i64 x] w fun e w' => ∃ er f' g', e = .returned (.int .i64 er) ∧ TakeTo f g x er f' g' ∧ Que w' qb b1 b2 f' g' (N + 1) ∧ Fr (Two b1 b2) w w' := by
  cases hf : f x
  · exact (q_take_clean qb b1 b2 f g N x w hq hx hf).mono fun e w' ⟨h1, h2⟩ => ⟨_, f, g, h1, .inr (.inl ⟨rfl, hf, rfl, rfl⟩), (hq.fr h2 id id id).mono (by omega), h2.mono (fun _ _ h => h.elim)⟩
  · cases hg : g x
    · exact (q_take qb b1 b2 f g N x w hq hN hx hf hg).mono fun e w' ⟨h1, h2, h3⟩ => ⟨_, _, _, h1, .inl ⟨rfl, hf, hg, rfl, rfl⟩, h2, h3⟩
    · exact (q_take_busy qb b1 b2 f g N x w hq hx hf hg).mono fun e w' ⟨h1, h2⟩ => ⟨_, f, g, h1, .inr (.inr ⟨rfl, hf, hg, rfl, rfl⟩), (hq.fr h2 id id id).mono (by omega), h2.mono (fun _ _ h => h.elim)⟩

/-- What Mark does, in any state. -/
def MarkTo (f : Int → Bool) (x er : Int) (f' : Int → Bool) : Prop :=
  (er = 0 ∧ 1 ≤ x ∧ x ≤ 1073741824 ∧ f' = upd f x true) ∨ (er = 280 ∧ (x < 1 ∨ 1073741824 < x) ∧ f' = f)

theorem q_mark_any (qb b1 b2 : Nat) (f g : Int → Bool) (N : Nat) (x : Int) (w : World) (hq : Que w qb b1 b2 f g N) (hN : N < maxLen) :
    Calls Tryz.prog 16 #[.pointer (some ⟨qb, 0, none⟩), .int .i64 x] w fun e w' => ∃ er f', e = .returned (.int .i64 er) ∧ MarkTo f x er f' ∧ Que w' qb b1 b2 f' g (N + 1) ∧ Fr (Two b1 b2) w w' := by
  by_cases h : 1 ≤ x ∧ x ≤ 1073741824
  · exact (q_mark qb b1 b2 f g N x w hq hN h.1 h.2).mono fun e w' ⟨h1, h2, h3⟩ => ⟨_, _, h1, .inl ⟨rfl, h.1, h.2, rfl⟩, h2, h3.mono (fun _ _ h => .inl h)⟩
  · refine (q_mark_bad qb x w (by omega)).mono ?_
    rintro e w' ⟨h1, rfl⟩
    exact ⟨_, f, h1, .inr ⟨rfl, by omega, rfl⟩, hq.mono (by omega), Fr.refl _ _⟩

/-- What Done does, in any state. -/
def DoneTo (f g : Int → Bool) (x : Int) (b : Bool) (er : Int) (g' : Int → Bool) : Prop :=
  (er = 0 ∧ g x = true ∧ b = !f x ∧ g' = upd g x false) ∨ (er = 283 ∧ g x = false ∧ b = false ∧ g' = g)

theorem q_done_any (qb b1 b2 : Nat) (f g : Int → Bool) (N : Nat) (x : Int) (w : World) (hq : Que w qb b1 b2 f g N) (hx : (Lit.int .i64 x).wf = true) :
    Calls Tryz.prog 19 #[.pointer (some ⟨qb, 0, none⟩), .int .i64 x] w fun e w' => ∃ b er g', e = .returned (.tuple #[.bool b, .int .i64 er]) ∧ DoneTo f g x b er g' ∧ Que w' qb b1 b2 f g' N ∧ Fr (Two b1 b2) w w' := by
  cases hg : g x
  · exact (q_done_idle qb b1 b2 f g N x w hq hx hg).mono fun e w' ⟨h1, h2⟩ => ⟨_, _, g, h1, .inr ⟨rfl, hg, rfl, rfl⟩, hq.fr h2 id id id, h2.mono (fun _ _ h => h.elim)⟩
  · exact (q_done qb b1 b2 f g N x w hq hx hg).mono fun e w' ⟨h1, h2, h3⟩ => ⟨_, _, _, h1, .inl ⟨rfl, hg, rfl, rfl⟩, h2, h3.mono (fun _ _ h => .inr h)⟩

theorem Tape.new {w : World} {a : Option Addr} {cap : Nat} {l : List Int} (h : Ints w a cap l) (T : TypeId) :
    Tape (w.alloc (.cells #[.slice a l.length cap, .int .i64 0] T)) w.heap.size w.heap.size 0 := by
  refine ⟨a, cap, l, T, h.fr ((Fr.refl No _).alloc _) (fun _ _ _ h => h), fun ad e hne => (h.cell ad e hne).2.1, Nat.le_refl _, block_alloc _ _⟩

theorem two_from {b1 b2 B k : Nat} (h1 : B ≤ b1) (h2 : B ≤ b2) (h : Two b1 b2 k) : From B k := by
  unfold Two at h; unfold From; omega
theorem is_from {b B k : Nat} (h1 : B ≤ b) (h : Is b k) : From B k := by
  unfold Is at h; unfold From; omega
end Go.Proofs.YtanaompgapiikaaGreatDoor
