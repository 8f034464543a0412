/- The laws' 'call': a call in both queues returns the same. -/
import Derived.Test.YtpigghenmagghaaGreatDoorQ8
import Derived.Deep.DeepCutAuto
namespace Go.Proofs.YtpigghenmagghaaGreatDoor
open Go.RowKit Go.Maps Go.Sort Go.Shelf
set_option linter.unusedVariables false

theorem MarkTo.det {f : Int → Bool} {x er er' : Int} {f' f'' : Int → Bool} (h : MarkTo f x er f') (h' : MarkTo f x er' f'') : er = er' ∧ f' = f'' := by
  rcases h with ⟨rfl, h1, h2, rfl⟩ | ⟨rfl, h1, rfl⟩ <;> rcases h' with ⟨rfl, h3, h4, rfl⟩ | ⟨rfl, h3, rfl⟩ <;> first | exact ⟨rfl, rfl⟩ | omega
theorem TakeTo.det {f g : Int → Bool} {x er er' : Int} {f' f'' g' g'' : Int → Bool} (h : TakeTo f g x er f' g') (h' : TakeTo f g x er' f'' g'') : er = er' ∧ f' = f'' ∧ g' = g'' := by
  rcases h with ⟨rfl, h1, h2, rfl, rfl⟩ | ⟨rfl, h1, rfl, rfl⟩ | ⟨rfl, h1, h2, rfl, rfl⟩ <;> rcases h' with ⟨rfl, h3, h4, rfl, rfl⟩ | ⟨rfl, h3, rfl, rfl⟩ | ⟨rfl, h3, h4, rfl, rfl⟩ <;> first | exact ⟨rfl, rfl, rfl⟩ | simp_all
theorem DoneTo.det {f g : Int → Bool} {x er er' : Int} {b b' : Bool} {g' g'' : Int → Bool} (h : DoneTo f g x b er g') (h' : DoneTo f g x b' er' g'') : er = er' ∧ b = b' ∧ g' = g'' := by
  rcases h with ⟨rfl, h1, rfl, rfl⟩ | ⟨rfl, h1, rfl, rfl⟩ <;> rcases h' with ⟨rfl, h3, rfl, rfl⟩ | ⟨rfl, h3, rfl, rfl⟩ <;> first | exact ⟨rfl, rfl, rfl⟩ | simp_all

/-- The blocks that 'call' writes: the tape and the queue's two sets. -/
def Tri (tb b1 b2 : Nat) : Nat → Prop := fun k => k = tb ∨ k = b1 ∨ k = b2

/-- Both queues, the tape, and all that keeps them apart. -/
structure Both (w : World) (B tb k qb b1 b2 : Nat) (a1 : Option Addr) (c1 : Nat) (l1 : List Int) (a2 : Option Addr) (c2 : Nat) (l2 : List Int) (f g : Int → Bool) (N : Nat) : Prop where
  tape : Tape w B tb k
  que : Que w qb b1 b2 f g N
  rq : RQ w a1 c1 l1 a2 c2 l2 f g
  v1 : Av (Tri tb b1 b2) a1 l1
  v2 : Av (Tri tb b1 b2) a2 l2
  t0 : tb ≠ qb
  t1 : tb ≠ b1
  t2 : tb ≠ b2
  B1 : B ≤ b1
  B2 : B ≤ b2

theorem Both.tri {w : World} {B tb k qb b1 b2 : Nat} {a1 : Option Addr} {c1 : Nat} {l1 : List Int} {a2 : Option Addr} {c2 : Nat} {l2 : List Int} {f g : Int → Bool} {N : Nat} (h : Both w B tb k qb b1 b2 a1 c1 l1 a2 c2 l2 f g N) :
    ∀ b, Tri tb b1 b2 b → b < w.heap.size ∧ B ≤ b := by
  have e0 := h.tape.lt; have e1 := h.que.dirty.lt; have e2 := h.que.busy.lt; have e3 := h.tape.le; have e4 := h.B1; have e5 := h.B2
  intro b hb; unfold Tri at hb; omega

/-- A step that reads the tape. -/
theorem Both.next {w w' : World} {B tb k qb b1 b2 : Nat} {a1 : Option Addr} {c1 : Nat} {l1 : List Int} {a2 : Option Addr} {c2 : Nat} {l2 : List Int} {f g : Int → Bool} {N : Nat} (h : Both w B tb k qb b1 b2 a1 c1 l1 a2 c2 l2 f g N)
    (ht : Tape w' B tb (k + 1)) (hf : Fr (Is tb) w w') : Both w' B tb (k + 1) qb b1 b2 a1 c1 l1 a2 c2 l2 f g N :=
  ⟨ht, h.que.fr hf (Ne.symm h.t0) (Ne.symm h.t1) (Ne.symm h.t2), h.rq.no hf (fun ad e hne hS => h.v1 ad e hne (.inl hS)) (fun ad e hne hS => h.v2 ad e hne (.inl hS)), h.v1, h.v2, h.t0, h.t1, h.t2, h.B1, h.B2⟩
/-- A step that only makes memory. -/
theorem Both.no {w w' : World} {B tb k qb b1 b2 : Nat} {a1 : Option Addr} {c1 : Nat} {l1 : List Int} {a2 : Option Addr} {c2 : Nat} {l2 : List Int} {f g : Int → Bool} {N : Nat} (h : Both w B tb k qb b1 b2 a1 c1 l1 a2 c2 l2 f g N)
    (hf : Fr No w w') : Both w' B tb k qb b1 b2 a1 c1 l1 a2 c2 l2 f g N :=
  ⟨h.tape.fr hf (fun _ _ => id) id, h.que.fr hf id id id, h.rq.fr hf, h.v1, h.v2, h.t0, h.t1, h.t2, h.B1, h.B2⟩

/-- Behind a method of the queue, and behind the reference's function of the same name. -/
theorem Both.old {w w1 : World} {B tb k qb b1 b2 : Nat} {a1 : Option Addr} {c1 : Nat} {l1 : List Int} {a2 : Option Addr} {c2 : Nat} {l2 : List Int} {f g : Int → Bool} {N : Nat} (h : Both w B tb k qb b1 b2 a1 c1 l1 a2 c2 l2 f g N)
    (hf : Fr (Two b1 b2) w w1) : RQ w1 a1 c1 l1 a2 c2 l2 f g :=
  h.rq.no hf (fun ad e hne hS => h.v1 ad e hne (.inr hS)) (fun ad e hne hS => h.v2 ad e hne (.inr hS))
theorem Both.after {w w1 W : World} {B tb k qb b1 b2 : Nat} {a1 : Option Addr} {c1 : Nat} {l1 : List Int} {a2 : Option Addr} {c2 : Nat} {l2 : List Int} {f g : Int → Bool} {N : Nat} (h : Both w B tb k qb b1 b2 a1 c1 l1 a2 c2 l2 f g N)
    {f' g' : Int → Bool} {N' : Nat} (hq : Que w1 qb b1 b2 f' g' N') (hf : Fr (Two b1 b2) w w1) {a1' : Option Addr} {c1' : Nat} {l1' : List Int} {a2' : Option Addr} {c2' : Nat} {l2' : List Int}
    (hr : RQ W a1' c1' l1' a2' c2' l2' f' g') (s1 : SON w1 a1 l1 a1' l1') (s2 : SON w1 a2 l2 a2' l2') (hx : Fr No w1 W) : Both W B tb k qb b1 b2 a1' c1' l1' a2' c2' l2' f' g' N' :=
  ⟨(h.tape.fr hf (fun b hb hS => by have := h.B1; have := h.B2; unfold Two at hS; omega) (fun hS => by have := h.t1; have := h.t2; unfold Two at hS; omega)).fr hx (fun _ _ => id) id,
   hq.fr hx id id id, hr, h.v1.son s1 (fun b hb => Nat.lt_of_lt_of_le (h.tri b hb).1 hf.size), h.v2.son s2 (fun b hb => Nat.lt_of_lt_of_le (h.tri b hb).1 hf.size), h.t0, h.t1, h.t2, h.B1, h.B2⟩

theorem SON.refl (w : World) (a : Option Addr) (l : List Int) : SON w a l a l := .inl ⟨rfl, rfl⟩

/-- The parameter's block and the result's block of 'call'. -/
structure Bx (n : Nat) (W : World) (a1 : Option Addr) (n1 c1 : Nat) (a2 : Option Addr) (n2 c2 : Nat) : Prop where
  size : n + 2 ≤ W.heap.size
  p : W.heap[n]? = some (.cells #[.slice a1 n1 c1, .slice a2 n2 c2] 33)
  r : W.heap[n + 1]? = some (.cells #[.slice none 0 0, .slice none 0 0] 33)
theorem Bx.step {S : Nat → Prop} {n : Nat} {W W' : World} {a1 : Option Addr} {n1 c1 : Nat} {a2 : Option Addr} {n2 c2 : Nat} (h : Bx n W a1 n1 c1 a2 n2 c2) (hf : Fr S W W') (hS : ∀ b, S b → b < n) : Bx n W' a1 n1 c1 a2 n2 c2 :=
  ⟨Nat.le_trans h.size hf.size, hf.heap h.p (fun hs => by have := hS _ hs; omega), hf.heap h.r (fun hs => by have := hS _ hs; omega)⟩
theorem Bx.d0 {n : Nat} {W : World} {a1 : Option Addr} {n1 c1 : Nat} {a2 : Option Addr} {n2 c2 : Nat} (h : Bx n W a1 n1 c1 a2 n2 c2) : W.cell? ⟨n, 0, none⟩ = some (.slice a1 n1 c1) := cell_of_block h.p 0
theorem Bx.d1 {n : Nat} {W : World} {a1 : Option Addr} {n1 c1 : Nat} {a2 : Option Addr} {n2 c2 : Nat} (h : Bx n W a1 n1 c1 a2 n2 c2) : W.cell? ⟨n, 1, none⟩ = some (.slice a2 n2 c2) := cell_of_block h.p 1
theorem Bx.r0 {n : Nat} {W : World} {a1 : Option Addr} {n1 c1 : Nat} {a2 : Option Addr} {n2 c2 : Nat} (h : Bx n W a1 n1 c1 a2 n2 c2) : W.cell? ⟨n + 1, 0, none⟩ = some (.slice none 0 0) := cell_of_block h.r 0
theorem Bx.r1 {n : Nat} {W : World} {a1 : Option Addr} {n1 c1 : Nat} {a2 : Option Addr} {n2 c2 : Nat} (h : Bx n W a1 n1 c1 a2 n2 c2) : W.cell? ⟨n + 1, 1, none⟩ = some (.slice none 0 0) := cell_of_block h.r 1
theorem Bx.f0 {n : Nat} {W : World} {a1 : Option Addr} {n1 c1 : Nat} {a2 : Option Addr} {n2 c2 : Nat} (h : Bx n W a1 n1 c1 a2 n2 c2) : W.frozen? ⟨n + 1, 0, none⟩ = false := free_of_block h.r 0
theorem Bx.f1 {n : Nat} {W : World} {a1 : Option Addr} {n1 c1 : Nat} {a2 : Option Addr} {n2 c2 : Nat} (h : Bx n W a1 n1 c1 a2 n2 c2) : W.frozen? ⟨n + 1, 1, none⟩ = false := free_of_block h.r 1

theorem res_block {W : World} {n : Nat} {x y : Value} {T : TypeId} (h : W.heap[n]? = some (.cells #[x, y] T (0, 0))) (v0 v1 : Value) : ((W.setCell ⟨n, 0, none⟩ v0).setCell ⟨n, 1, none⟩ v1).heap[n]? = some (.cells #[v0, v1] T (0, 0)) := by
  rw [block_setCell (block_setCell h 0 v0) 1 v1]; rfl
theorem res0 {W : World} {n : Nat} {x y : Value} {T : TypeId} (h : W.heap[n]? = some (.cells #[x, y] T (0, 0))) (v0 v1 : Value) (o : Obj) : (((W.setCell ⟨n, 0, none⟩ v0).setCell ⟨n, 1, none⟩ v1).alloc o).cell? ⟨n, 0, none⟩ = some v0 := by
  have h1 := res_block h v0 v1
  exact cell_of_block (((Fr.refl No _).alloc o).heap h1 id) 0
theorem res1 {W : World} {n : Nat} {x y : Value} {T : TypeId} (h : W.heap[n]? = some (.cells #[x, y] T (0, 0))) (v0 v1 : Value) (o : Obj) : (((W.setCell ⟨n, 0, none⟩ v0).setCell ⟨n, 1, none⟩ v1).alloc o).cell? ⟨n, 1, none⟩ = some v1 := by
  have h1 := res_block h v0 v1
  exact cell_of_block (((Fr.refl No _).alloc o).heap h1 id) 1

/-- What a call leaves. -/
def Called (w : World) (B tb k qb b1 b2 : Nat) (a1 : Option Addr) (l1 : List Int) (a2 : Option Addr) (l2 : List Int) (N : Nat) (e : Ending) (w' : World) : Prop :=
  ∃ k' a1' c1' l1' a2' c2' l2' f' g', e = .returned (.tuple #[.agg #[.slice a1' (List.length l1') c1', .slice a2' (List.length l2') c2'], .bool true]) ∧ k' ≤ k + 5 ∧ List.length l1' ≤ l1.length + 1 ∧ List.length l2' ≤ l2.length + 1 ∧
    Both w' B tb k' qb b1 b2 a1' c1' l1' a2' c2' l2' f' g' (N + 1) ∧ SON w a1 l1 a1' l1' ∧ SON w a2 l2 a2' l2' ∧ Fr (Tri tb b1 b2) w w'

theorem Av.box {w w4 : World} {a : Option Addr} {c : Nat} {l : List Int} {a' : Option Addr} {l' : List Int} (h : Ints w a c l) (hs : SON w4 a l a' l') (h4 : w.heap.size + 2 ≤ w4.heap.size) : Av (Is (w.heap.size + 1)) a' l' := by
  intro ad e hne hb
  unfold Is at hb
  rcases hs with ⟨rfl, rfl⟩ | hs
  · have := (h.cell ad e hne).2.1; omega
  · have := hs ad e; omega

theorem q_finish {w w4 w5 W : World} {B tb k qb b1 b2 : Nat} {a1 : Option Addr} {c1 : Nat} {l1 : List Int} {a2 : Option Addr} {c2 : Nat} {l2 : List Int} {f g : Int → Bool} {N : Nat} (h : Both w B tb k qb b1 b2 a1 c1 l1 a2 c2 l2 f g N)
    (h4 : w.heap.size + 2 ≤ w4.heap.size) {k' : Nat} {a1' : Option Addr} {c1' : Nat} {l1' : List Int} {a2' : Option Addr} {c2' : Nat} {l2' : List Int} {f' g' : Int → Bool}
    (h5 : Both w5 B tb k' qb b1 b2 a1' c1' l1' a2' c2' l2' f' g' (N + 1)) (s1 : SON w4 a1 l1 a1' l1') (s2 : SON w4 a2 l2 a2' l2') (hk : k' ≤ k + 5) (n1 : l1'.length ≤ l1.length + 1) (n2 : l2'.length ≤ l2.length + 1)
    (hf : Fr (Tri tb b1 b2) w w5) (hx : Fr (Is (w.heap.size + 1)) w5 W) :
    Called w B tb k qb b1 b2 a1 l1 a2 l2 N (.returned (.tuple #[.agg #[.slice a1' (List.length l1') c1', .slice a2' (List.length l2') c2'], .bool true])) W := by
  have hT := h.tri
  have hql : qb < w.heap.size := by obtain ⟨T, hb⟩ := h.que.blk; exact lt_of_block hb
  have ne : ∀ b, b < w.heap.size → ¬ Is (w.heap.size + 1) b := fun b hb e => by unfold Is at e; omega
  have v1 := Av.box h.rq.d s1 h4
  have v2 := Av.box h.rq.b s2 h4
  have ht := hT tb (.inl rfl)
  exact ⟨k', a1', c1', l1', a2', c2', l2', f', g', rfl, hk, n1, n2,
    ⟨h5.tape.fr hx (fun b hb e => by unfold Is at e; omega) (ne _ ht.1), h5.que.fr hx (ne _ hql) (ne _ (hT b1 (.inr (.inl rfl))).1) (ne _ (hT b2 (.inr (.inr rfl))).1), h5.rq.no hx v1 v2, h5.v1, h5.v2, h5.t0, h5.t1, h5.t2, h5.B1, h5.B2⟩, s1.imp id (fun h ad e => by have := h ad e; omega), s2.imp id (fun h ad e => by have := h ad e; omega),
    hf.step hx (fun b hb e => by unfold Is at e; omega)⟩

set_option maxRecDepth 100000 in
set_option maxHeartbeats 8000000 in
theorem q_call (B tb k qb b1 b2 : Nat) (a1 : Option Addr) (c1 : Nat) (l1 : List Int) (a2 : Option Addr) (c2 : Nat) (l2 : List Int) (f g : Int → Bool) (N : Nat) (raw : Int) (w : World)
    (h : Both w B tb k qb b1 b2 a1 c1 l1 a2 c2 l2 f g N) (hk : k ≤ 1000000) (hN : N < 1000000) (hb1 : l1.length ≤ 100000) (hb2 : l2.length ≤ 100000) (hr : (Lit.int .i64 raw).wf = true) :
    Calls Tryz.prog 10 #[.pointer (some ⟨tb, 0, none⟩), .pointer (some ⟨qb, 0, none⟩), .agg #[.slice a1 l1.length c1, .slice a2 l2.length c2], .int .i64 raw] w (Called w B tb k qb b1 b2 a1 l1 a2 l2 N) := by
  have hT := h.tri
  have hql : qb < w.heap.size := by obtain ⟨T, hb⟩ := h.que.blk; exact lt_of_block hb
  have hbx0 := Boxes.mk' w a1 l1.length c1 a2 l2.length c2
  have hB0 : Bx w.heap.size _ a1 l1.length c1 a2 l2.length c2 := ⟨hbx0.size, hbx0.p, hbx0.r⟩
  have hh0 := h.no hbx0.fr
  have hfr0 : Fr (Tri tb b1 b2) w _ := hbx0.fr.mono (fun _ _ h => h.elim)
  have ltb : tb < w.heap.size := h.tape.lt
  have hST : ∀ b, Is tb b → b < w.heap.size := fun b e => by unfold Is at e; omega
  have hSTw : ∀ b, Two b1 b2 b → b < w.heap.size := fun b e => (hT b (.inr e)).1
  go_enter Tryz.func10, Tryz.ntmps10
  go_wp2_with fail
  refine (tape_next B tb k 12 _ hh0.tape (by omega) (by omega) (by omega)).mono ?_
  rintro e w1 ⟨r1, rfl, hr1, hr1', ht1, hf1⟩
  have hh1 := hh0.next ht1 hf1
  have hB1 := hB0.step hf1 hST
  have hfr1 := hfr0.step hf1 (fun _ _ e => .inl e)
  clear hbx0 hB0 hh0 hfr0
  go_wp2_with fail
  refine (tape_next B tb (k + 1) 12 _ ht1 (by omega) (by omega) (by omega)).mono ?_
  rintro e w2 ⟨r2, rfl, hr2, hr2', ht2, hf2⟩
  have hh2 := hh1.next ht2 hf2
  have hB2 := hB1.step hf2 hST
  have hfr2 := hfr1.step hf2 (fun _ _ e => .inl e)
  clear hB1 hh1 hfr1 ht1 hf1 hf2
  go_upto_if 27 with (fail)
  go_cut [10] (fun v wx => ∃ n : Int, v = .int .i64 n ∧ (Lit.int .i64 n).wf = true ∧ w2 = wx)
  case first =>
    by_cases h0 : r2 = 0
    · have hb : (r2 == 0) = true := by simpa using h0
      clear h0
      go_wp2_with fail
      go_meet
      exact ⟨raw, rfl, hr, rfl⟩
    · have hb : (r2 == 0) = false := by simpa using h0
      clear h0
      go_wp2_with fail
      go_meet
      exact ⟨1 + r1, rfl, WalkArith.wf_i64 (by omega), rfl⟩
  case rest =>
    obtain ⟨n, rfl, hn, rfl⟩ := hcut
    go_wp2_with fail
    refine (tape_next B tb (k + 1 + 1) 8 _ ht2 (by omega) (by omega) (by omega)).mono ?_
    rintro e w3 ⟨r3, rfl, hr3, hr3', ht3, hf3⟩
    have hh3 := hh2.next ht3 hf3
    have hB3 := hB2.step hf3 hST
    have hfr3 := hfr2.step hf3 (fun _ _ e => .inl e)
    clear hB2 hh2 hfr2 ht2 hf3
    obtain ⟨m, rfl⟩ := Int.eq_ofNat_of_zero_le hr3
    rcases (by omega : m = 0 ∨ m = 1 ∨ m = 2 ∨ m = 7 ∨ m = 3 ∨ m = 4 ∨ m = 5 ∨ m = 6) with rfl | rfl | rfl | rfl | rfl | rfl | rfl | rfl
    · have HH := hh3
      have HB := hB3
      have HF := hfr3
      go_wp2_with fail
      refine (q_mark_any qb b1 b2 f g N n _ HH.que (by unfold maxLen; omega)).mono ?_
      rintro e w4 ⟨er, f', rfl, hmk, hq4, hf4⟩
      have hold := HH.old hf4
      have hB4 := HB.step hf4 hSTw
      have hfr4 := HF.step hf4 (fun _ _ e => .inr e)
      have x0 := hB4.d0
      have x1 := hB4.d1
      go_wp2_with fail
      refine (r_mark a1 c1 l1 a2 c2 l2 f g n _ hold (by omega) hn).mono ?_
      rintro e w5 ⟨er', a1', c1', l1', f'', rfl, hmk', hr5, hlen, hson, hf5⟩
      obtain ⟨rfl, rfl⟩ := hmk.det hmk'
      have h5 := HH.after hq4 hf4 hr5 hson (SON.refl _ _ _) hf5
      have hB5 := hB4.step hf5 (fun _ e => e.elim)
      have y0 := hB5.r0
      have y1 := hB5.r1
      have z0 := hB5.f0
      have z1 := hB5.f1
      have hz5 : w.heap.size + 1 < w5.heap.size := hB5.size
      have hz5' : w.heap.size < w5.heap.size := by omega
      have hb : (er == er) = true := by simp
      clear x0 x1
      go_wp2_with fail
      have q0 := res0 hB5.r (.slice a1' l1'.length c1') (.slice a2 l2.length c2) (.cells #[.slice a1' l1'.length c1', .slice a2 l2.length c2] 33)
      have q1 := res1 hB5.r (.slice a1' l1'.length c1') (.slice a2 l2.length c2) (.cells #[.slice a1' l1'.length c1', .slice a2 l2.length c2] 33)
      refine bodyPost_ret (v := .tuple #[.agg #[.slice a1' l1'.length c1', .slice a2 l2.length c2], .bool true]) (by simp [results, Tryz.results10, go_sem, q0, q1]) rfl ?_
      exact q_finish h hB4.size h5 hson (SON.refl _ _ _) (by omega) hlen (by omega) (hfr4.step hf5 (fun _ _ e => e.elim)) (((Fr.refl _ _).setIs _).setIs _ |>.alloc _)
    · have HH := hh3
      have HB := hB3
      have HF := hfr3
      go_wp2_with fail
      refine (q_mark_any qb b1 b2 f g N n _ HH.que (by unfold maxLen; omega)).mono ?_
      rintro e w4 ⟨er, f', rfl, hmk, hq4, hf4⟩
      have hold := HH.old hf4
      have hB4 := HB.step hf4 hSTw
      have hfr4 := HF.step hf4 (fun _ _ e => .inr e)
      have x0 := hB4.d0
      have x1 := hB4.d1
      go_wp2_with fail
      refine (r_mark a1 c1 l1 a2 c2 l2 f g n _ hold (by omega) hn).mono ?_
      rintro e w5 ⟨er', a1', c1', l1', f'', rfl, hmk', hr5, hlen, hson, hf5⟩
      obtain ⟨rfl, rfl⟩ := hmk.det hmk'
      have h5 := HH.after hq4 hf4 hr5 hson (SON.refl _ _ _) hf5
      have hB5 := hB4.step hf5 (fun _ e => e.elim)
      have y0 := hB5.r0
      have y1 := hB5.r1
      have z0 := hB5.f0
      have z1 := hB5.f1
      have hz5 : w.heap.size + 1 < w5.heap.size := hB5.size
      have hz5' : w.heap.size < w5.heap.size := by omega
      have hb : (er == er) = true := by simp
      clear x0 x1
      go_wp2_with fail
      have q0 := res0 hB5.r (.slice a1' l1'.length c1') (.slice a2 l2.length c2) (.cells #[.slice a1' l1'.length c1', .slice a2 l2.length c2] 33)
      have q1 := res1 hB5.r (.slice a1' l1'.length c1') (.slice a2 l2.length c2) (.cells #[.slice a1' l1'.length c1', .slice a2 l2.length c2] 33)
      refine bodyPost_ret (v := .tuple #[.agg #[.slice a1' l1'.length c1', .slice a2 l2.length c2], .bool true]) (by simp [results, Tryz.results10, go_sem, q0, q1]) rfl ?_
      exact q_finish h hB4.size h5 hson (SON.refl _ _ _) (by omega) hlen (by omega) (hfr4.step hf5 (fun _ _ e => e.elim)) (((Fr.refl _ _).setIs _).setIs _ |>.alloc _)
    · have HH := hh3
      have HB := hB3
      have HF := hfr3
      go_wp2_with fail
      refine (q_mark_any qb b1 b2 f g N n _ HH.que (by unfold maxLen; omega)).mono ?_
      rintro e w4 ⟨er, f', rfl, hmk, hq4, hf4⟩
      have hold := HH.old hf4
      have hB4 := HB.step hf4 hSTw
      have hfr4 := HF.step hf4 (fun _ _ e => .inr e)
      have x0 := hB4.d0
      have x1 := hB4.d1
      go_wp2_with fail
      refine (r_mark a1 c1 l1 a2 c2 l2 f g n _ hold (by omega) hn).mono ?_
      rintro e w5 ⟨er', a1', c1', l1', f'', rfl, hmk', hr5, hlen, hson, hf5⟩
      obtain ⟨rfl, rfl⟩ := hmk.det hmk'
      have h5 := HH.after hq4 hf4 hr5 hson (SON.refl _ _ _) hf5
      have hB5 := hB4.step hf5 (fun _ e => e.elim)
      have y0 := hB5.r0
      have y1 := hB5.r1
      have z0 := hB5.f0
      have z1 := hB5.f1
      have hz5 : w.heap.size + 1 < w5.heap.size := hB5.size
      have hz5' : w.heap.size < w5.heap.size := by omega
      have hb : (er == er) = true := by simp
      clear x0 x1
      go_wp2_with fail
      have q0 := res0 hB5.r (.slice a1' l1'.length c1') (.slice a2 l2.length c2) (.cells #[.slice a1' l1'.length c1', .slice a2 l2.length c2] 33)
      have q1 := res1 hB5.r (.slice a1' l1'.length c1') (.slice a2 l2.length c2) (.cells #[.slice a1' l1'.length c1', .slice a2 l2.length c2] 33)
      refine bodyPost_ret (v := .tuple #[.agg #[.slice a1' l1'.length c1', .slice a2 l2.length c2], .bool true]) (by simp [results, Tryz.results10, go_sem, q0, q1]) rfl ?_
      exact q_finish h hB4.size h5 hson (SON.refl _ _ _) (by omega) hlen (by omega) (hfr4.step hf5 (fun _ _ e => e.elim)) (((Fr.refl _ _).setIs _).setIs _ |>.alloc _)
    · have HH := hh3
      have HB := hB3
      have HF := hfr3
      go_wp2_with fail
      refine (q_forget qb b1 b2 f g N n _ HH.que hn).mono ?_
      rintro e w4 ⟨rfl, hq4, hf4⟩
      have hold := HH.old hf4
      have hB4 := HB.step hf4 hSTw
      have hfr4 := HF.step hf4 (fun _ _ e => .inr e)
      have x0 := hB4.d0
      have x1 := hB4.d1
      go_wp2_with fail
      refine (r_forget a1 c1 l1 a2 c2 l2 f g n _ hold (by omega) (by omega)).mono ?_
      rintro e w5 ⟨a1', c1', l1', a2', c2', l2', rfl, hr5, hlen, hlen2, hson, hson2, hf5⟩
      have h5 := HH.after (hq4.mono (Nat.le_succ N)) hf4 hr5 (.inr hson) (.inr hson2) hf5
      have hB5 := hB4.step hf5 (fun _ e => e.elim)
      have y0 := hB5.r0
      have y1 := hB5.r1
      have z0 := hB5.f0
      have z1 := hB5.f1
      clear x0 x1
      go_wp2_with fail
      refine bodyPost_ret (v := .tuple #[.agg #[.slice a1' l1'.length c1', .slice a2' l2'.length c2'], .bool true]) (by simp [results, Tryz.results10, go_sem, y0, y1]) rfl ?_
      exact q_finish h hB4.size h5 (.inr hson) (.inr hson2) (by omega) (by omega) (by omega) (hfr4.step hf5 (fun _ _ e => e.elim)) (((Fr.refl _ _).setIs _).setIs _)
    · by_cases hemp : l1.length = 0
      · have hb0 : ¬ 0 < l1.length := by omega
        have x0 := hB3.d0
        have x1 := hB3.d1
        have HH := hh3
        have HB := hB3
        have HF := hfr3
        clear hemp
        go_wp2_with fail
        clear x0 x1
        go_wp2_with fail
        refine (q_take_any qb b1 b2 f g N n _ HH.que (by unfold maxLen; omega) hn).mono ?_
        rintro e w4 ⟨er, f', g', rfl, hmk, hq4, hf4⟩
        have hold := HH.old hf4
        have hB4 := HB.step hf4 hSTw
        have hfr4 := HF.step hf4 (fun _ _ e => .inr e)
        have x0 := hB4.d0
        have x1 := hB4.d1
        go_wp2_with fail
        refine (r_take a1 c1 l1 a2 c2 l2 f g n _ hold (by omega) (by omega) hn).mono ?_
        rintro e w5 ⟨er', a1', c1', l1', a2', c2', l2', f'', g'', rfl, hmk', hr5, hlen, hlen2, hson, hson2, hf5⟩
        obtain ⟨rfl, rfl, rfl⟩ := hmk.det hmk'
        have h5 := HH.after hq4 hf4 hr5 hson hson2 hf5
        have hB5 := hB4.step hf5 (fun _ e => e.elim)
        have y0 := hB5.r0
        have y1 := hB5.r1
        have z0 := hB5.f0
        have z1 := hB5.f1
        have hz5 : w.heap.size + 1 < w5.heap.size := hB5.size
        have hz5' : w.heap.size < w5.heap.size := by omega
        have hb : (er == er) = true := by simp
        clear x0 x1
        go_wp2_with fail
        have q0 := res0 hB5.r (.slice a1' l1'.length c1') (.slice a2' l2'.length c2') (.cells #[.slice a1' l1'.length c1', .slice a2' l2'.length c2'] 33)
        have q1 := res1 hB5.r (.slice a1' l1'.length c1') (.slice a2' l2'.length c2') (.cells #[.slice a1' l1'.length c1', .slice a2' l2'.length c2'] 33)
        refine bodyPost_ret (v := .tuple #[.agg #[.slice a1' l1'.length c1', .slice a2' l2'.length c2'], .bool true]) (by simp [results, Tryz.results10, go_sem, q0, q1]) rfl ?_
        exact q_finish h hB4.size h5 hson hson2 (by omega) (by omega) hlen2 (hfr4.step hf5 (fun _ _ e => e.elim)) (((Fr.refl _ _).setIs _).setIs _ |>.alloc _)
      · have hpos : 0 < l1.length := by omega
        clear hemp
        have x0 := hB3.d0
        have x1 := hB3.d1
        go_wp2_with fail
        clear x0 x1
        refine (tape_next B tb (k + 1 + 1 + 1) 3 _ ht3 (by omega) (by omega) (by omega)).mono ?_
        rintro e w3a ⟨r4, rfl, hr4, hr4', ht3a, hf3a⟩
        have hh3a := hh3.next ht3a hf3a
        have hB3a := hB3.step hf3a hST
        have hfr3a := hfr3.step hf3a (fun _ _ e => .inl e)
        by_cases hr0 : r4 = 0
        · subst hr0
          have HH := hh3a
          have HB := hB3a
          have HF := hfr3a
          go_wp2_with fail
          go_wp2_with fail
          refine (q_take_any qb b1 b2 f g N n _ HH.que (by unfold maxLen; omega) hn).mono ?_
          rintro e w4 ⟨er, f', g', rfl, hmk, hq4, hf4⟩
          have hold := HH.old hf4
          have hB4 := HB.step hf4 hSTw
          have hfr4 := HF.step hf4 (fun _ _ e => .inr e)
          have x0 := hB4.d0
          have x1 := hB4.d1
          go_wp2_with fail
          refine (r_take a1 c1 l1 a2 c2 l2 f g n _ hold (by omega) (by omega) hn).mono ?_
          rintro e w5 ⟨er', a1', c1', l1', a2', c2', l2', f'', g'', rfl, hmk', hr5, hlen, hlen2, hson, hson2, hf5⟩
          obtain ⟨rfl, rfl, rfl⟩ := hmk.det hmk'
          have h5 := HH.after hq4 hf4 hr5 hson hson2 hf5
          have hB5 := hB4.step hf5 (fun _ e => e.elim)
          have y0 := hB5.r0
          have y1 := hB5.r1
          have z0 := hB5.f0
          have z1 := hB5.f1
          have hz5 : w.heap.size + 1 < w5.heap.size := hB5.size
          have hz5' : w.heap.size < w5.heap.size := by omega
          have hb : (er == er) = true := by simp
          clear x0 x1
          go_wp2_with fail
          have q0 := res0 hB5.r (.slice a1' l1'.length c1') (.slice a2' l2'.length c2') (.cells #[.slice a1' l1'.length c1', .slice a2' l2'.length c2'] 33)
          have q1 := res1 hB5.r (.slice a1' l1'.length c1') (.slice a2' l2'.length c2') (.cells #[.slice a1' l1'.length c1', .slice a2' l2'.length c2'] 33)
          refine bodyPost_ret (v := .tuple #[.agg #[.slice a1' l1'.length c1', .slice a2' l2'.length c2'], .bool true]) (by simp [results, Tryz.results10, go_sem, q0, q1]) rfl ?_
          exact q_finish h hB4.size h5 hson hson2 (by omega) (by omega) hlen2 (hfr4.step hf5 (fun _ _ e => e.elim)) (((Fr.refl _ _).setIs _).setIs _ |>.alloc _)
        · have hb4 : (0 : Int) < r4 := by omega
          clear hr0
          go_wp2_with fail
          refine region_sig (Is tb) [(0, false), (1, false), (2, false), (3, false), (4, false), (5, false), (6, true), (7, false), (8, false), (9, false)] (by kernel_rfl) (by kernel_rfl) (fun w0 hf0 => ?_)
          have hB0 := hB3a.step hf0 (fun _ e => e.elim)
          have hh0 := hh3a.no hf0
          have hfr0 := hfr3a.step hf0 (fun _ _ e => e.elim)
          have x : ∀ g : Gr (Is tb) w0, g.W.cell? ⟨w.heap.size, 0, none⟩ = some (.slice a1 l1.length c1) := fun g => g.fr.cell hB0.d0 (by unfold Is; simp; omega)
          repeat (apply sig_q; exact rfl; exact rfl; exact rfl; intro K hK; go_big_quiet_op; go_big_quiet_on)
          apply sig_m
          exact rfl
          go_wp2_with fail
          refine (tape_next B tb (k + 1 + 1 + 1 + 1) (l1.length : Int) _ hh0.tape (by omega) (by omega) (by omega)).mono ?_
          rintro e w3b ⟨r5, rfl, hr5, hr5', ht3b, hf3b⟩
          go_wp2_with fail
          refine OnlyN.mk ⟨hf3b, ?_⟩
          have HH := hh0.next ht3b hf3b
          have HB := hB0.step hf3b hST
          have HF := hfr0.step hf3b (fun _ _ e => .inl e)
          obtain ⟨j, rfl⟩ := Int.eq_ofNat_of_zero_le hr5
          obtain ⟨b, off, y, hay, hy, hcy⟩ := HH.rq.d.at (k := j) (by omega)
          have hbt : b ≠ tb := fun e => HH.v1 _ hay (by intro e; rw [e] at hpos; simp at hpos) (.inl e)
          have hwy : (Lit.int .i64 y).wf = true := HH.rq.d.wf y (List.mem_of_getElem? hy)
          have HY := Lib.hid hay
          clear x hy hay
          have yc : ∀ g : Gr (Is tb) w3b, g.W.cell? ⟨b, off + j, none⟩ = some (.int .i64 y) := fun g => g.fr.cell hcy hbt
          rw [HY.out]
          repeat (apply sig_q; exact rfl; exact rfl; exact rfl; intro K hK; go_big_quiet_op; go_big_quiet_on)
          refine sig_end ?_
          rw [← HY.out]
          clear yc
          go_wp2_with fail
          refine (q_take_any qb b1 b2 f g N y _ HH.que (by unfold maxLen; omega) hwy).mono ?_
          rintro e w4 ⟨er, f', g', rfl, hmk, hq4, hf4⟩
          have hold := HH.old hf4
          have hB4 := HB.step hf4 hSTw
          have hfr4 := HF.step hf4 (fun _ _ e => .inr e)
          have x0 := hB4.d0
          have x1 := hB4.d1
          go_wp2_with fail
          refine (r_take a1 c1 l1 a2 c2 l2 f g y _ hold (by omega) (by omega) hwy).mono ?_
          rintro e w5 ⟨er', a1', c1', l1', a2', c2', l2', f'', g'', rfl, hmk', hr5, hlen, hlen2, hson, hson2, hf5⟩
          obtain ⟨rfl, rfl, rfl⟩ := hmk.det hmk'
          have h5 := HH.after hq4 hf4 hr5 hson hson2 hf5
          have hB5 := hB4.step hf5 (fun _ e => e.elim)
          have y0 := hB5.r0
          have y1 := hB5.r1
          have z0 := hB5.f0
          have z1 := hB5.f1
          have hz5 : w.heap.size + 1 < w5.heap.size := hB5.size
          have hz5' : w.heap.size < w5.heap.size := by omega
          have hb : (er == er) = true := by simp
          clear x0 x1
          go_wp2_with fail
          have q0 := res0 hB5.r (.slice a1' l1'.length c1') (.slice a2' l2'.length c2') (.cells #[.slice a1' l1'.length c1', .slice a2' l2'.length c2'] 33)
          have q1 := res1 hB5.r (.slice a1' l1'.length c1') (.slice a2' l2'.length c2') (.cells #[.slice a1' l1'.length c1', .slice a2' l2'.length c2'] 33)
          refine bodyPost_ret (v := .tuple #[.agg #[.slice a1' l1'.length c1', .slice a2' l2'.length c2'], .bool true]) (by simp [results, Tryz.results10, go_sem, q0, q1]) rfl ?_
          exact q_finish h hB4.size h5 hson hson2 (by omega) (by omega) hlen2 (hfr4.step hf5 (fun _ _ e => e.elim)) (((Fr.refl _ _).setIs _).setIs _ |>.alloc _)
    · by_cases hemp : l1.length = 0
      · have hb0 : ¬ 0 < l1.length := by omega
        have x0 := hB3.d0
        have x1 := hB3.d1
        have HH := hh3
        have HB := hB3
        have HF := hfr3
        clear hemp
        go_wp2_with fail
        clear x0 x1
        go_wp2_with fail
        refine (q_take_any qb b1 b2 f g N n _ HH.que (by unfold maxLen; omega) hn).mono ?_
        rintro e w4 ⟨er, f', g', rfl, hmk, hq4, hf4⟩
        have hold := HH.old hf4
        have hB4 := HB.step hf4 hSTw
        have hfr4 := HF.step hf4 (fun _ _ e => .inr e)
        have x0 := hB4.d0
        have x1 := hB4.d1
        go_wp2_with fail
        refine (r_take a1 c1 l1 a2 c2 l2 f g n _ hold (by omega) (by omega) hn).mono ?_
        rintro e w5 ⟨er', a1', c1', l1', a2', c2', l2', f'', g'', rfl, hmk', hr5, hlen, hlen2, hson, hson2, hf5⟩
        obtain ⟨rfl, rfl, rfl⟩ := hmk.det hmk'
        have h5 := HH.after hq4 hf4 hr5 hson hson2 hf5
        have hB5 := hB4.step hf5 (fun _ e => e.elim)
        have y0 := hB5.r0
        have y1 := hB5.r1
        have z0 := hB5.f0
        have z1 := hB5.f1
        have hz5 : w.heap.size + 1 < w5.heap.size := hB5.size
        have hz5' : w.heap.size < w5.heap.size := by omega
        have hb : (er == er) = true := by simp
        clear x0 x1
        go_wp2_with fail
        have q0 := res0 hB5.r (.slice a1' l1'.length c1') (.slice a2' l2'.length c2') (.cells #[.slice a1' l1'.length c1', .slice a2' l2'.length c2'] 33)
        have q1 := res1 hB5.r (.slice a1' l1'.length c1') (.slice a2' l2'.length c2') (.cells #[.slice a1' l1'.length c1', .slice a2' l2'.length c2'] 33)
        refine bodyPost_ret (v := .tuple #[.agg #[.slice a1' l1'.length c1', .slice a2' l2'.length c2'], .bool true]) (by simp [results, Tryz.results10, go_sem, q0, q1]) rfl ?_
        exact q_finish h hB4.size h5 hson hson2 (by omega) (by omega) hlen2 (hfr4.step hf5 (fun _ _ e => e.elim)) (((Fr.refl _ _).setIs _).setIs _ |>.alloc _)
      · have hpos : 0 < l1.length := by omega
        clear hemp
        have x0 := hB3.d0
        have x1 := hB3.d1
        go_wp2_with fail
        clear x0 x1
        refine (tape_next B tb (k + 1 + 1 + 1) 3 _ ht3 (by omega) (by omega) (by omega)).mono ?_
        rintro e w3a ⟨r4, rfl, hr4, hr4', ht3a, hf3a⟩
        have hh3a := hh3.next ht3a hf3a
        have hB3a := hB3.step hf3a hST
        have hfr3a := hfr3.step hf3a (fun _ _ e => .inl e)
        by_cases hr0 : r4 = 0
        · subst hr0
          have HH := hh3a
          have HB := hB3a
          have HF := hfr3a
          go_wp2_with fail
          go_wp2_with fail
          refine (q_take_any qb b1 b2 f g N n _ HH.que (by unfold maxLen; omega) hn).mono ?_
          rintro e w4 ⟨er, f', g', rfl, hmk, hq4, hf4⟩
          have hold := HH.old hf4
          have hB4 := HB.step hf4 hSTw
          have hfr4 := HF.step hf4 (fun _ _ e => .inr e)
          have x0 := hB4.d0
          have x1 := hB4.d1
          go_wp2_with fail
          refine (r_take a1 c1 l1 a2 c2 l2 f g n _ hold (by omega) (by omega) hn).mono ?_
          rintro e w5 ⟨er', a1', c1', l1', a2', c2', l2', f'', g'', rfl, hmk', hr5, hlen, hlen2, hson, hson2, hf5⟩
          obtain ⟨rfl, rfl, rfl⟩ := hmk.det hmk'
          have h5 := HH.after hq4 hf4 hr5 hson hson2 hf5
          have hB5 := hB4.step hf5 (fun _ e => e.elim)
          have y0 := hB5.r0
          have y1 := hB5.r1
          have z0 := hB5.f0
          have z1 := hB5.f1
          have hz5 : w.heap.size + 1 < w5.heap.size := hB5.size
          have hz5' : w.heap.size < w5.heap.size := by omega
          have hb : (er == er) = true := by simp
          clear x0 x1
          go_wp2_with fail
          have q0 := res0 hB5.r (.slice a1' l1'.length c1') (.slice a2' l2'.length c2') (.cells #[.slice a1' l1'.length c1', .slice a2' l2'.length c2'] 33)
          have q1 := res1 hB5.r (.slice a1' l1'.length c1') (.slice a2' l2'.length c2') (.cells #[.slice a1' l1'.length c1', .slice a2' l2'.length c2'] 33)
          refine bodyPost_ret (v := .tuple #[.agg #[.slice a1' l1'.length c1', .slice a2' l2'.length c2'], .bool true]) (by simp [results, Tryz.results10, go_sem, q0, q1]) rfl ?_
          exact q_finish h hB4.size h5 hson hson2 (by omega) (by omega) hlen2 (hfr4.step hf5 (fun _ _ e => e.elim)) (((Fr.refl _ _).setIs _).setIs _ |>.alloc _)
        · have hb4 : (0 : Int) < r4 := by omega
          clear hr0
          go_wp2_with fail
          refine region_sig (Is tb) [(0, false), (1, false), (2, false), (3, false), (4, false), (5, false), (6, true), (7, false), (8, false), (9, false)] (by kernel_rfl) (by kernel_rfl) (fun w0 hf0 => ?_)
          have hB0 := hB3a.step hf0 (fun _ e => e.elim)
          have hh0 := hh3a.no hf0
          have hfr0 := hfr3a.step hf0 (fun _ _ e => e.elim)
          have x : ∀ g : Gr (Is tb) w0, g.W.cell? ⟨w.heap.size, 0, none⟩ = some (.slice a1 l1.length c1) := fun g => g.fr.cell hB0.d0 (by unfold Is; simp; omega)
          repeat (apply sig_q; exact rfl; exact rfl; exact rfl; intro K hK; go_big_quiet_op; go_big_quiet_on)
          apply sig_m
          exact rfl
          go_wp2_with fail
          refine (tape_next B tb (k + 1 + 1 + 1 + 1) (l1.length : Int) _ hh0.tape (by omega) (by omega) (by omega)).mono ?_
          rintro e w3b ⟨r5, rfl, hr5, hr5', ht3b, hf3b⟩
          go_wp2_with fail
          refine OnlyN.mk ⟨hf3b, ?_⟩
          have HH := hh0.next ht3b hf3b
          have HB := hB0.step hf3b hST
          have HF := hfr0.step hf3b (fun _ _ e => .inl e)
          obtain ⟨j, rfl⟩ := Int.eq_ofNat_of_zero_le hr5
          obtain ⟨b, off, y, hay, hy, hcy⟩ := HH.rq.d.at (k := j) (by omega)
          have hbt : b ≠ tb := fun e => HH.v1 _ hay (by intro e; rw [e] at hpos; simp at hpos) (.inl e)
          have hwy : (Lit.int .i64 y).wf = true := HH.rq.d.wf y (List.mem_of_getElem? hy)
          have HY := Lib.hid hay
          clear x hy hay
          have yc : ∀ g : Gr (Is tb) w3b, g.W.cell? ⟨b, off + j, none⟩ = some (.int .i64 y) := fun g => g.fr.cell hcy hbt
          rw [HY.out]
          repeat (apply sig_q; exact rfl; exact rfl; exact rfl; intro K hK; go_big_quiet_op; go_big_quiet_on)
          refine sig_end ?_
          rw [← HY.out]
          clear yc
          go_wp2_with fail
          refine (q_take_any qb b1 b2 f g N y _ HH.que (by unfold maxLen; omega) hwy).mono ?_
          rintro e w4 ⟨er, f', g', rfl, hmk, hq4, hf4⟩
          have hold := HH.old hf4
          have hB4 := HB.step hf4 hSTw
          have hfr4 := HF.step hf4 (fun _ _ e => .inr e)
          have x0 := hB4.d0
          have x1 := hB4.d1
          go_wp2_with fail
          refine (r_take a1 c1 l1 a2 c2 l2 f g y _ hold (by omega) (by omega) hwy).mono ?_
          rintro e w5 ⟨er', a1', c1', l1', a2', c2', l2', f'', g'', rfl, hmk', hr5, hlen, hlen2, hson, hson2, hf5⟩
          obtain ⟨rfl, rfl, rfl⟩ := hmk.det hmk'
          have h5 := HH.after hq4 hf4 hr5 hson hson2 hf5
          have hB5 := hB4.step hf5 (fun _ e => e.elim)
          have y0 := hB5.r0
          have y1 := hB5.r1
          have z0 := hB5.f0
          have z1 := hB5.f1
          have hz5 : w.heap.size + 1 < w5.heap.size := hB5.size
          have hz5' : w.heap.size < w5.heap.size := by omega
          have hb : (er == er) = true := by simp
          clear x0 x1
          go_wp2_with fail
          have q0 := res0 hB5.r (.slice a1' l1'.length c1') (.slice a2' l2'.length c2') (.cells #[.slice a1' l1'.length c1', .slice a2' l2'.length c2'] 33)
          have q1 := res1 hB5.r (.slice a1' l1'.length c1') (.slice a2' l2'.length c2') (.cells #[.slice a1' l1'.length c1', .slice a2' l2'.length c2'] 33)
          refine bodyPost_ret (v := .tuple #[.agg #[.slice a1' l1'.length c1', .slice a2' l2'.length c2'], .bool true]) (by simp [results, Tryz.results10, go_sem, q0, q1]) rfl ?_
          exact q_finish h hB4.size h5 hson hson2 (by omega) (by omega) hlen2 (hfr4.step hf5 (fun _ _ e => e.elim)) (((Fr.refl _ _).setIs _).setIs _ |>.alloc _)
    · by_cases hemp : l2.length = 0
      · have hb0 : ¬ 0 < l2.length := by omega
        have x0 := hB3.d0
        have x1 := hB3.d1
        have HH := hh3
        have HB := hB3
        have HF := hfr3
        clear hemp
        go_wp2_with fail
        clear x0 x1
        go_wp2_with fail
        refine (q_done_any qb b1 b2 f g N n _ HH.que hn).mono ?_
        rintro e w4 ⟨bo, er, g', rfl, hmk, hq4, hf4⟩
        have hold := HH.old hf4
        have hB4 := HB.step hf4 hSTw
        have hfr4 := HF.step hf4 (fun _ _ e => .inr e)
        have x0 := hB4.d0
        have x1 := hB4.d1
        go_wp2_with fail
        refine (r_done a1 c1 l1 a2 c2 l2 f g n _ hold (by omega) (by omega)).mono ?_
        rintro e w5 ⟨bo', er', a2', c2', l2', g'', rfl, hmk', hr5, hlen2, hson2, hf5⟩
        obtain ⟨rfl, rfl, rfl⟩ := hmk.det hmk'
        have h5 := HH.after (hq4.mono (Nat.le_succ N)) hf4 hr5 (SON.refl _ _ _) hson2 hf5
        have hB5 := hB4.step hf5 (fun _ e => e.elim)
        have y0 := hB5.r0
        have y1 := hB5.r1
        have z0 := hB5.f0
        have z1 := hB5.f1
        have hz5 : w.heap.size + 1 < w5.heap.size := hB5.size
        have hz5' : w.heap.size < w5.heap.size := by omega
        have hb : (er == er) = true := by simp
        have hb' : (bo == bo) = true := by simp
        clear x0 x1
        go_wp2_with fail
        have q0 := res0 hB5.r (.slice a1 l1.length c1) (.slice a2' l2'.length c2') (.cells #[.slice a1 l1.length c1, .slice a2' l2'.length c2'] 33)
        have q1 := res1 hB5.r (.slice a1 l1.length c1) (.slice a2' l2'.length c2') (.cells #[.slice a1 l1.length c1, .slice a2' l2'.length c2'] 33)
        refine bodyPost_ret (v := .tuple #[.agg #[.slice a1 l1.length c1, .slice a2' l2'.length c2'], .bool true]) (by simp [results, Tryz.results10, go_sem, q0, q1]) rfl ?_
        exact q_finish h hB4.size h5 (SON.refl _ _ _) hson2 (by omega) (by omega) (by omega) (hfr4.step hf5 (fun _ _ e => e.elim)) (((Fr.refl _ _).setIs _).setIs _ |>.alloc _)
      · have hpos : 0 < l2.length := by omega
        clear hemp
        have x0 := hB3.d0
        have x1 := hB3.d1
        go_wp2_with fail
        clear x0 x1
        refine (tape_next B tb (k + 1 + 1 + 1) 3 _ ht3 (by omega) (by omega) (by omega)).mono ?_
        rintro e w3a ⟨r4, rfl, hr4, hr4', ht3a, hf3a⟩
        have hh3a := hh3.next ht3a hf3a
        have hB3a := hB3.step hf3a hST
        have hfr3a := hfr3.step hf3a (fun _ _ e => .inl e)
        by_cases hr0 : r4 = 0
        · subst hr0
          have HH := hh3a
          have HB := hB3a
          have HF := hfr3a
          go_wp2_with fail
          go_wp2_with fail
          refine (q_done_any qb b1 b2 f g N n _ HH.que hn).mono ?_
          rintro e w4 ⟨bo, er, g', rfl, hmk, hq4, hf4⟩
          have hold := HH.old hf4
          have hB4 := HB.step hf4 hSTw
          have hfr4 := HF.step hf4 (fun _ _ e => .inr e)
          have x0 := hB4.d0
          have x1 := hB4.d1
          go_wp2_with fail
          refine (r_done a1 c1 l1 a2 c2 l2 f g n _ hold (by omega) (by omega)).mono ?_
          rintro e w5 ⟨bo', er', a2', c2', l2', g'', rfl, hmk', hr5, hlen2, hson2, hf5⟩
          obtain ⟨rfl, rfl, rfl⟩ := hmk.det hmk'
          have h5 := HH.after (hq4.mono (Nat.le_succ N)) hf4 hr5 (SON.refl _ _ _) hson2 hf5
          have hB5 := hB4.step hf5 (fun _ e => e.elim)
          have y0 := hB5.r0
          have y1 := hB5.r1
          have z0 := hB5.f0
          have z1 := hB5.f1
          have hz5 : w.heap.size + 1 < w5.heap.size := hB5.size
          have hz5' : w.heap.size < w5.heap.size := by omega
          have hb : (er == er) = true := by simp
          have hb' : (bo == bo) = true := by simp
          clear x0 x1
          go_wp2_with fail
          have q0 := res0 hB5.r (.slice a1 l1.length c1) (.slice a2' l2'.length c2') (.cells #[.slice a1 l1.length c1, .slice a2' l2'.length c2'] 33)
          have q1 := res1 hB5.r (.slice a1 l1.length c1) (.slice a2' l2'.length c2') (.cells #[.slice a1 l1.length c1, .slice a2' l2'.length c2'] 33)
          refine bodyPost_ret (v := .tuple #[.agg #[.slice a1 l1.length c1, .slice a2' l2'.length c2'], .bool true]) (by simp [results, Tryz.results10, go_sem, q0, q1]) rfl ?_
          exact q_finish h hB4.size h5 (SON.refl _ _ _) hson2 (by omega) (by omega) (by omega) (hfr4.step hf5 (fun _ _ e => e.elim)) (((Fr.refl _ _).setIs _).setIs _ |>.alloc _)
        · have hb4 : (0 : Int) < r4 := by omega
          clear hr0
          go_wp2_with fail
          refine region_sig (Is tb) [(0, false), (1, false), (2, false), (3, false), (4, false), (5, false), (6, true), (7, false), (8, false), (9, false)] (by kernel_rfl) (by kernel_rfl) (fun w0 hf0 => ?_)
          have hB0 := hB3a.step hf0 (fun _ e => e.elim)
          have hh0 := hh3a.no hf0
          have hfr0 := hfr3a.step hf0 (fun _ _ e => e.elim)
          have x : ∀ g : Gr (Is tb) w0, g.W.cell? ⟨w.heap.size, 1, none⟩ = some (.slice a2 l2.length c2) := fun g => g.fr.cell hB0.d1 (by unfold Is; simp; omega)
          repeat (apply sig_q; exact rfl; exact rfl; exact rfl; intro K hK; go_big_quiet_op; go_big_quiet_on)
          apply sig_m
          exact rfl
          go_wp2_with fail
          refine (tape_next B tb (k + 1 + 1 + 1 + 1) (l2.length : Int) _ hh0.tape (by omega) (by omega) (by omega)).mono ?_
          rintro e w3b ⟨r5, rfl, hr5, hr5', ht3b, hf3b⟩
          go_wp2_with fail
          refine OnlyN.mk ⟨hf3b, ?_⟩
          have HH := hh0.next ht3b hf3b
          have HB := hB0.step hf3b hST
          have HF := hfr0.step hf3b (fun _ _ e => .inl e)
          obtain ⟨j, rfl⟩ := Int.eq_ofNat_of_zero_le hr5
          obtain ⟨b, off, y, hay, hy, hcy⟩ := HH.rq.b.at (k := j) (by omega)
          have hbt : b ≠ tb := fun e => HH.v2 _ hay (by intro e; rw [e] at hpos; simp at hpos) (.inl e)
          have hwy : (Lit.int .i64 y).wf = true := HH.rq.b.wf y (List.mem_of_getElem? hy)
          have HY := Lib.hid hay
          clear x hy hay
          have yc : ∀ g : Gr (Is tb) w3b, g.W.cell? ⟨b, off + j, none⟩ = some (.int .i64 y) := fun g => g.fr.cell hcy hbt
          rw [HY.out]
          repeat (apply sig_q; exact rfl; exact rfl; exact rfl; intro K hK; go_big_quiet_op; go_big_quiet_on)
          refine sig_end ?_
          rw [← HY.out]
          clear yc
          go_wp2_with fail
          refine (q_done_any qb b1 b2 f g N y _ HH.que hwy).mono ?_
          rintro e w4 ⟨bo, er, g', rfl, hmk, hq4, hf4⟩
          have hold := HH.old hf4
          have hB4 := HB.step hf4 hSTw
          have hfr4 := HF.step hf4 (fun _ _ e => .inr e)
          have x0 := hB4.d0
          have x1 := hB4.d1
          go_wp2_with fail
          refine (r_done a1 c1 l1 a2 c2 l2 f g y _ hold (by omega) (by omega)).mono ?_
          rintro e w5 ⟨bo', er', a2', c2', l2', g'', rfl, hmk', hr5, hlen2, hson2, hf5⟩
          obtain ⟨rfl, rfl, rfl⟩ := hmk.det hmk'
          have h5 := HH.after (hq4.mono (Nat.le_succ N)) hf4 hr5 (SON.refl _ _ _) hson2 hf5
          have hB5 := hB4.step hf5 (fun _ e => e.elim)
          have y0 := hB5.r0
          have y1 := hB5.r1
          have z0 := hB5.f0
          have z1 := hB5.f1
          have hz5 : w.heap.size + 1 < w5.heap.size := hB5.size
          have hz5' : w.heap.size < w5.heap.size := by omega
          have hb : (er == er) = true := by simp
          have hb' : (bo == bo) = true := by simp
          clear x0 x1
          go_wp2_with fail
          have q0 := res0 hB5.r (.slice a1 l1.length c1) (.slice a2' l2'.length c2') (.cells #[.slice a1 l1.length c1, .slice a2' l2'.length c2'] 33)
          have q1 := res1 hB5.r (.slice a1 l1.length c1) (.slice a2' l2'.length c2') (.cells #[.slice a1 l1.length c1, .slice a2' l2'.length c2'] 33)
          refine bodyPost_ret (v := .tuple #[.agg #[.slice a1 l1.length c1, .slice a2' l2'.length c2'], .bool true]) (by simp [results, Tryz.results10, go_sem, q0, q1]) rfl ?_
          exact q_finish h hB4.size h5 (SON.refl _ _ _) hson2 (by omega) (by omega) (by omega) (hfr4.step hf5 (fun _ _ e => e.elim)) (((Fr.refl _ _).setIs _).setIs _ |>.alloc _)
    · by_cases hemp : l2.length = 0
      · have hb0 : ¬ 0 < l2.length := by omega
        have x0 := hB3.d0
        have x1 := hB3.d1
        have HH := hh3
        have HB := hB3
        have HF := hfr3
        clear hemp
        go_wp2_with fail
        clear x0 x1
        go_wp2_with fail
        refine (q_done_any qb b1 b2 f g N n _ HH.que hn).mono ?_
        rintro e w4 ⟨bo, er, g', rfl, hmk, hq4, hf4⟩
        have hold := HH.old hf4
        have hB4 := HB.step hf4 hSTw
        have hfr4 := HF.step hf4 (fun _ _ e => .inr e)
        have x0 := hB4.d0
        have x1 := hB4.d1
        go_wp2_with fail
        refine (r_done a1 c1 l1 a2 c2 l2 f g n _ hold (by omega) (by omega)).mono ?_
        rintro e w5 ⟨bo', er', a2', c2', l2', g'', rfl, hmk', hr5, hlen2, hson2, hf5⟩
        obtain ⟨rfl, rfl, rfl⟩ := hmk.det hmk'
        have h5 := HH.after (hq4.mono (Nat.le_succ N)) hf4 hr5 (SON.refl _ _ _) hson2 hf5
        have hB5 := hB4.step hf5 (fun _ e => e.elim)
        have y0 := hB5.r0
        have y1 := hB5.r1
        have z0 := hB5.f0
        have z1 := hB5.f1
        have hz5 : w.heap.size + 1 < w5.heap.size := hB5.size
        have hz5' : w.heap.size < w5.heap.size := by omega
        have hb : (er == er) = true := by simp
        have hb' : (bo == bo) = true := by simp
        clear x0 x1
        go_wp2_with fail
        have q0 := res0 hB5.r (.slice a1 l1.length c1) (.slice a2' l2'.length c2') (.cells #[.slice a1 l1.length c1, .slice a2' l2'.length c2'] 33)
        have q1 := res1 hB5.r (.slice a1 l1.length c1) (.slice a2' l2'.length c2') (.cells #[.slice a1 l1.length c1, .slice a2' l2'.length c2'] 33)
        refine bodyPost_ret (v := .tuple #[.agg #[.slice a1 l1.length c1, .slice a2' l2'.length c2'], .bool true]) (by simp [results, Tryz.results10, go_sem, q0, q1]) rfl ?_
        exact q_finish h hB4.size h5 (SON.refl _ _ _) hson2 (by omega) (by omega) (by omega) (hfr4.step hf5 (fun _ _ e => e.elim)) (((Fr.refl _ _).setIs _).setIs _ |>.alloc _)
      · have hpos : 0 < l2.length := by omega
        clear hemp
        have x0 := hB3.d0
        have x1 := hB3.d1
        go_wp2_with fail
        clear x0 x1
        refine (tape_next B tb (k + 1 + 1 + 1) 3 _ ht3 (by omega) (by omega) (by omega)).mono ?_
        rintro e w3a ⟨r4, rfl, hr4, hr4', ht3a, hf3a⟩
        have hh3a := hh3.next ht3a hf3a
        have hB3a := hB3.step hf3a hST
        have hfr3a := hfr3.step hf3a (fun _ _ e => .inl e)
        by_cases hr0 : r4 = 0
        · subst hr0
          have HH := hh3a
          have HB := hB3a
          have HF := hfr3a
          go_wp2_with fail
          go_wp2_with fail
          refine (q_done_any qb b1 b2 f g N n _ HH.que hn).mono ?_
          rintro e w4 ⟨bo, er, g', rfl, hmk, hq4, hf4⟩
          have hold := HH.old hf4
          have hB4 := HB.step hf4 hSTw
          have hfr4 := HF.step hf4 (fun _ _ e => .inr e)
          have x0 := hB4.d0
          have x1 := hB4.d1
          go_wp2_with fail
          refine (r_done a1 c1 l1 a2 c2 l2 f g n _ hold (by omega) (by omega)).mono ?_
          rintro e w5 ⟨bo', er', a2', c2', l2', g'', rfl, hmk', hr5, hlen2, hson2, hf5⟩
          obtain ⟨rfl, rfl, rfl⟩ := hmk.det hmk'
          have h5 := HH.after (hq4.mono (Nat.le_succ N)) hf4 hr5 (SON.refl _ _ _) hson2 hf5
          have hB5 := hB4.step hf5 (fun _ e => e.elim)
          have y0 := hB5.r0
          have y1 := hB5.r1
          have z0 := hB5.f0
          have z1 := hB5.f1
          have hz5 : w.heap.size + 1 < w5.heap.size := hB5.size
          have hz5' : w.heap.size < w5.heap.size := by omega
          have hb : (er == er) = true := by simp
          have hb' : (bo == bo) = true := by simp
          clear x0 x1
          go_wp2_with fail
          have q0 := res0 hB5.r (.slice a1 l1.length c1) (.slice a2' l2'.length c2') (.cells #[.slice a1 l1.length c1, .slice a2' l2'.length c2'] 33)
          have q1 := res1 hB5.r (.slice a1 l1.length c1) (.slice a2' l2'.length c2') (.cells #[.slice a1 l1.length c1, .slice a2' l2'.length c2'] 33)
          refine bodyPost_ret (v := .tuple #[.agg #[.slice a1 l1.length c1, .slice a2' l2'.length c2'], .bool true]) (by simp [results, Tryz.results10, go_sem, q0, q1]) rfl ?_
          exact q_finish h hB4.size h5 (SON.refl _ _ _) hson2 (by omega) (by omega) (by omega) (hfr4.step hf5 (fun _ _ e => e.elim)) (((Fr.refl _ _).setIs _).setIs _ |>.alloc _)
        · have hb4 : (0 : Int) < r4 := by omega
          clear hr0
          go_wp2_with fail
          refine region_sig (Is tb) [(0, false), (1, false), (2, false), (3, false), (4, false), (5, false), (6, true), (7, false), (8, false), (9, false)] (by kernel_rfl) (by kernel_rfl) (fun w0 hf0 => ?_)
          have hB0 := hB3a.step hf0 (fun _ e => e.elim)
          have hh0 := hh3a.no hf0
          have hfr0 := hfr3a.step hf0 (fun _ _ e => e.elim)
          have x : ∀ g : Gr (Is tb) w0, g.W.cell? ⟨w.heap.size, 1, none⟩ = some (.slice a2 l2.length c2) := fun g => g.fr.cell hB0.d1 (by unfold Is; simp; omega)
          repeat (apply sig_q; exact rfl; exact rfl; exact rfl; intro K hK; go_big_quiet_op; go_big_quiet_on)
          apply sig_m
          exact rfl
          go_wp2_with fail
          refine (tape_next B tb (k + 1 + 1 + 1 + 1) (l2.length : Int) _ hh0.tape (by omega) (by omega) (by omega)).mono ?_
          rintro e w3b ⟨r5, rfl, hr5, hr5', ht3b, hf3b⟩
          go_wp2_with fail
          refine OnlyN.mk ⟨hf3b, ?_⟩
          have HH := hh0.next ht3b hf3b
          have HB := hB0.step hf3b hST
          have HF := hfr0.step hf3b (fun _ _ e => .inl e)
          obtain ⟨j, rfl⟩ := Int.eq_ofNat_of_zero_le hr5
          obtain ⟨b, off, y, hay, hy, hcy⟩ := HH.rq.b.at (k := j) (by omega)
          have hbt : b ≠ tb := fun e => HH.v2 _ hay (by intro e; rw [e] at hpos; simp at hpos) (.inl e)
          have hwy : (Lit.int .i64 y).wf = true := HH.rq.b.wf y (List.mem_of_getElem? hy)
          have HY := Lib.hid hay
          clear x hy hay
          have yc : ∀ g : Gr (Is tb) w3b, g.W.cell? ⟨b, off + j, none⟩ = some (.int .i64 y) := fun g => g.fr.cell hcy hbt
          rw [HY.out]
          repeat (apply sig_q; exact rfl; exact rfl; exact rfl; intro K hK; go_big_quiet_op; go_big_quiet_on)
          refine sig_end ?_
          rw [← HY.out]
          clear yc
          go_wp2_with fail
          refine (q_done_any qb b1 b2 f g N y _ HH.que hwy).mono ?_
          rintro e w4 ⟨bo, er, g', rfl, hmk, hq4, hf4⟩
          have hold := HH.old hf4
          have hB4 := HB.step hf4 hSTw
          have hfr4 := HF.step hf4 (fun _ _ e => .inr e)
          have x0 := hB4.d0
          have x1 := hB4.d1
          go_wp2_with fail
          refine (r_done a1 c1 l1 a2 c2 l2 f g y _ hold (by omega) (by omega)).mono ?_
          rintro e w5 ⟨bo', er', a2', c2', l2', g'', rfl, hmk', hr5, hlen2, hson2, hf5⟩
          obtain ⟨rfl, rfl, rfl⟩ := hmk.det hmk'
          have h5 := HH.after (hq4.mono (Nat.le_succ N)) hf4 hr5 (SON.refl _ _ _) hson2 hf5
          have hB5 := hB4.step hf5 (fun _ e => e.elim)
          have y0 := hB5.r0
          have y1 := hB5.r1
          have z0 := hB5.f0
          have z1 := hB5.f1
          have hz5 : w.heap.size + 1 < w5.heap.size := hB5.size
          have hz5' : w.heap.size < w5.heap.size := by omega
          have hb : (er == er) = true := by simp
          have hb' : (bo == bo) = true := by simp
          clear x0 x1
          go_wp2_with fail
          have q0 := res0 hB5.r (.slice a1 l1.length c1) (.slice a2' l2'.length c2') (.cells #[.slice a1 l1.length c1, .slice a2' l2'.length c2'] 33)
          have q1 := res1 hB5.r (.slice a1 l1.length c1) (.slice a2' l2'.length c2') (.cells #[.slice a1 l1.length c1, .slice a2' l2'.length c2'] 33)
          refine bodyPost_ret (v := .tuple #[.agg #[.slice a1 l1.length c1, .slice a2' l2'.length c2'], .bool true]) (by simp [results, Tryz.results10, go_sem, q0, q1]) rfl ?_
          exact q_finish h hB4.size h5 (SON.refl _ _ _) hson2 (by omega) (by omega) (by omega) (hfr4.step hf5 (fun _ _ e => e.elim)) (((Fr.refl _ _).setIs _).setIs _ |>.alloc _)
end Go.Proofs.YtpigghenmagghaaGreatDoor
