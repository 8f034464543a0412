/- The methods of package queue: New, Mark, Forget, Take, Done. -/
import Derived.Test.YtanaompgapiikaaGreatDoorFr
namespace Go.Proofs.YtanaompgapiikaaGreatDoor
open Go.RowKit Go.Maps

/-- Block qb is a queue: dirty are the numbers of f (block b1), busy those of g (block b2). -/
structure Que (w : World) (qb b1 b2 : Nat) (f g : Int → Bool) (N : Nat) : Prop where
  blk : ∃ T, w.heap[qb]? = some (.cells #[.map (some b1), .map (some b2)] T (0, 0))
  dirty : ISet w b1 f N
  busy : ISet w b2 g N
  ne : b1 ≠ b2

theorem Que.c0 {w : World} {qb b1 b2 : Nat} {f g : Int → Bool} {N : Nat} (h : Que w qb b1 b2 f g N) : w.cell? ⟨qb, 0, none⟩ = some (.map (some b1)) := by
  obtain ⟨T, hb⟩ := h.blk; rw [cell_of_block hb]; rfl
theorem Que.c1 {w : World} {qb b1 b2 : Nat} {f g : Int → Bool} {N : Nat} (h : Que w qb b1 b2 f g N) : w.cell? ⟨qb, 1, none⟩ = some (.map (some b2)) := by
  obtain ⟨T, hb⟩ := h.blk; rw [cell_of_block hb]; rfl
theorem ISet.ne_cells {w : World} {mb : Nat} {f : Int → Bool} {N : Nat} (h : ISet w mb f N) {b : Nat} {cs : Array Value} {T : TypeId} {fz : Nat × Nat} (hb : w.heap[b]? = some (.cells cs T fz)) : b ≠ mb := by
  rintro rfl
  obtain ⟨D, n, _, ⟨es, clock, hm, _⟩, _⟩ := h
  rw [hb] at hm; cases hm
theorem Que.ne1 {w : World} {qb b1 b2 : Nat} {f g : Int → Bool} {N : Nat} (h : Que w qb b1 b2 f g N) : qb ≠ b1 := by
  obtain ⟨T, hb⟩ := h.blk; exact h.dirty.ne_cells hb
theorem Que.ne2 {w : World} {qb b1 b2 : Nat} {f g : Int → Bool} {N : Nat} (h : Que w qb b1 b2 f g N) : qb ≠ b2 := by
  obtain ⟨T, hb⟩ := h.blk; exact h.busy.ne_cells hb
theorem Que.fr {S : Nat → Prop} {w w' : World} {qb b1 b2 : Nat} {f g : Int → Bool} {N : Nat} (h : Que w qb b1 b2 f g N) (hf : Fr S w w') (h0 : ¬ S qb) (h1 : ¬ S b1) (h2 : ¬ S b2) : Que w' qb b1 b2 f g N := by
  obtain ⟨T, hb⟩ := h.blk; exact ⟨⟨T, hf.heap hb h0⟩, h.dirty.fr hf h1, h.busy.fr hf h2, h.ne⟩
theorem Que.mono {w : World} {qb b1 b2 : Nat} {f g : Int → Bool} {N M : Nat} (h : Que w qb b1 b2 f g N) (hN : N ≤ M) : Que w qb b1 b2 f g M :=
  ⟨h.blk, h.dirty.mono hN, h.busy.mono hN, h.ne⟩
theorem Que.setDirty {w w' : World} {qb b1 b2 : Nat} {f g : Int → Bool} {N : Nat} (h : Que w qb b1 b2 f g N) (hf : Fr (Is b1) w w') {f' : Int → Bool} {M : Nat} (hs : ISet w' b1 f' M) (hM : N ≤ M) : Que w' qb b1 b2 f' g M := by
  obtain ⟨T, hb⟩ := h.blk; exact ⟨⟨T, hf.heap hb h.ne1⟩, hs, (h.busy.fr hf (Ne.symm h.ne)).mono hM, h.ne⟩
theorem Que.setBusy {w w' : World} {qb b1 b2 : Nat} {f g : Int → Bool} {N : Nat} (h : Que w qb b1 b2 f g N) (hf : Fr (Is b2) w w') {g' : Int → Bool} {M : Nat} (hs : ISet w' b2 g' M) (hM : N ≤ M) : Que w' qb b1 b2 f g' M := by
  obtain ⟨T, hb⟩ := h.blk; exact ⟨⟨T, hf.heap hb h.ne2⟩, (h.dirty.fr hf h.ne).mono hM, hs, h.ne⟩

/-- The two blocks that a queue's methods write. -/
def Two (b1 b2 : Nat) : Nat → Prop := fun k => k = b1 ∨ k = b2

theorem iset_made (w : World) : ISet (w.alloc (.map #[] 0)) w.heap.size (fun _ => false) 0 :=
  ⟨.map [], 0, Nat.le_refl _, World.ownsMap_made _ _ _ _, fun _ => rfl⟩

set_option maxHeartbeats 400000 in
theorem q_new (w : World) : Calls Tryz.prog 15 #[] w fun e w' => ∃ qb b1 b2, e = .returned (.pointer (some ⟨qb, 0, none⟩)) ∧ w.heap.size ≤ qb ∧ w.heap.size ≤ b1 ∧ w.heap.size ≤ b2 ∧
    Que w' qb b1 b2 (fun _ => false) (fun _ => false) 0 ∧ Fr No w w' := by
  have hmm := @run_makeMap Tryz.prog
  go_enter Tryz.func15, Tryz.ntmps15
  go_wp2
  go_ret
  refine ⟨w.heap.size + 1 + 1, w.heap.size, w.heap.size + 1, rfl, by omega, by omega, by omega, ⟨⟨103, ?_⟩, ?_, ?_, by omega⟩, (((Fr.refl _ _).alloc _).alloc _).alloc _⟩
  · have h := block_alloc ((w.alloc (.map #[] 0)).alloc (.map #[] 0)) (.cells #[.map (some w.heap.size), .map (some (w.heap.size + 1))] 103)
    simpa using h
  · exact ((iset_made w).fr ((Fr.refl No _).alloc _) id).fr ((Fr.refl No _).alloc _) id
  · have h := (iset_made (w.alloc (.map #[] 0))).fr ((Fr.refl No _).alloc (.cells #[.map (some w.heap.size), .map (some (w.heap.size + 1))] 103)) id
    simpa using h

/-- Mark: any index. -/
def markOk (x : Int) : Bool := decide (1 ≤ x) && decide (x ≤ 1073741824)

set_option maxHeartbeats 400000 in
theorem q_mark (qb b1 b2 : Nat) (f g : Int → Bool) (N : Nat) (x : Int) (w : World) (hq : Que w qb b1 b2 f g N) (hN : N < maxLen) (h1 : 1 ≤ x) (h2 : x ≤ 1073741824) :
    Calls Tryz.prog 16 #[.pointer (some ⟨qb, 0, none⟩), .int .i64 x] w fun e w' => e = .returned (.int .i64 0) ∧ Que w' qb b1 b2 (upd f x true) g (N + 1) ∧ Fr (Is b1) w w' := by
  have hx : (Lit.int .i64 x).wf = true := WalkArith.wf_i64 (by omega)
  have c0 := hq.c0
  go_enter Tryz.func16, Tryz.ntmps16
  go_wp2_with (go_at_call 59; refine (set_add b1 f N x _ hq.dirty hN hx).mono ?_; rintro e w1 ⟨rfl, hs, hfr⟩)
  go_ret
  exact ⟨rfl, hq.setDirty hfr hs (by omega), hfr⟩

set_option maxHeartbeats 400000 in
theorem q_mark_bad (qb : Nat) (x : Int) (w : World) (h : x < 1 ∨ 1073741824 < x) :
    Calls Tryz.prog 16 #[.pointer (some ⟨qb, 0, none⟩), .int .i64 x] w fun e w' => e = .returned (.int .i64 280) ∧ w = w' := by
  rcases h with h | h
  all_goals
    go_enter Tryz.func16, Tryz.ntmps16
    go_wp2_with fail
    go_ret
    exact ⟨rfl, rfl⟩

set_option maxHeartbeats 400000 in
theorem q_forget (qb b1 b2 : Nat) (f g : Int → Bool) (N : Nat) (x : Int) (w : World) (hq : Que w qb b1 b2 f g N) (hx : (Lit.int .i64 x).wf = true) :
    Calls Tryz.prog 76 #[.pointer (some ⟨qb, 0, none⟩), .int .i64 x] w fun e w' => e = .returned (.tuple #[]) ∧ Que w' qb b1 b2 (upd f x false) (upd g x false) N ∧ Fr (Two b1 b2) w w' := by
  have c0 := hq.c0
  go_enter Tryz.func76, Tryz.ntmps76
  go_wp2_with fail
  refine (set_drop b1 f N x _ hq.dirty hx).mono ?_
  rintro e w1 ⟨rfl, hs, hfr⟩
  have hq1 := hq.setDirty hfr hs (Nat.le_refl _)
  have c1 := hq1.c1
  go_wp2_with fail
  refine (set_drop b2 g N x _ hq1.busy hx).mono ?_
  rintro e w2 ⟨rfl, hs2, hfr2⟩
  go_wp2_with fail
  go_end0
  exact ⟨rfl, hq1.setBusy hfr2 hs2 (Nat.le_refl _), hfr.trans hfr2 (fun _ _ h => .inl h) (fun _ _ h => .inr h)⟩

set_option maxHeartbeats 400000 in
theorem q_take_clean (qb b1 b2 : Nat) (f g : Int → Bool) (N : Nat) (x : Int) (w : World) (hq : Que w qb b1 b2 f g N) (hx : (Lit.int .i64 x).wf = true) (hf : f x = false) :
    Calls Tryz.prog 18 #[.pointer (some ⟨qb, 0, none⟩), .int .i64 x] w fun e w' => e = .returned (.int .i64 281) ∧ Fr No w w' := by
  have c0 := hq.c0
  go_enter Tryz.func18, Tryz.ntmps18
  go_wp2_with fail
  refine (set_has b1 f N x _ hq.dirty hx).mono ?_
  rintro e w1 ⟨rfl, hfr⟩
  go_wp2_with fail
  go_ret
  exact ⟨rfl, hfr⟩

set_option maxHeartbeats 400000 in
theorem q_take_busy (qb b1 b2 : Nat) (f g : Int → Bool) (N : Nat) (x : Int) (w : World) (hq : Que w qb b1 b2 f g N) (hx : (Lit.int .i64 x).wf = true) (hf : f x = true) (hg : g x = true) :
    Calls Tryz.prog 18 #[.pointer (some ⟨qb, 0, none⟩), .int .i64 x] w fun e w' => e = .returned (.int .i64 282) ∧ Fr No w w' := by
  have c0 := hq.c0
  go_enter Tryz.func18, Tryz.ntmps18
  go_wp2_with fail
  refine (set_has b1 f N x _ hq.dirty hx).mono ?_
  rintro e w1 ⟨rfl, hfr⟩
  have hq1 := hq.fr hfr id id id
  have c1 := hq1.c1
  go_wp2_with fail
  refine (set_has b2 g N x _ hq1.busy hx).mono ?_
  rintro e w2 ⟨rfl, hfr2⟩
  go_wp2_with fail
  go_ret
  exact ⟨rfl, hfr.step hfr2 (fun _ _ h => h)⟩

set_option maxHeartbeats 400000 in
theorem q_take (qb b1 b2 : Nat) (f g : Int → Bool) (N : Nat) (x : Int) (w : World) (hq : Que w qb b1 b2 f g N) (hN : N < maxLen) (hx : (Lit.int .i64 x).wf = true) (hf : f x = true) (hg : g x = false) :
    Calls Tryz.prog 18 #[.pointer (some ⟨qb, 0, none⟩), .int .i64 x] w fun e w' => e = .returned (.int .i64 0) ∧ Que w' qb b1 b2 (upd f x false) (upd g x true) (N + 1) ∧ Fr (Two b1 b2) w w' := by
  have c0 := hq.c0
  go_enter Tryz.func18, Tryz.ntmps18
  go_wp2_with fail
  refine (set_has b1 f N x _ hq.dirty hx).mono ?_
  rintro e w1 ⟨rfl, hfr⟩
  have hq1 := hq.fr hfr id id id
  have c1 := hq1.c1
  go_wp2_with fail
  refine (set_has b2 g N x _ hq1.busy hx).mono ?_
  rintro e w2 ⟨rfl, hfr2⟩
  have hq2 := hq1.fr hfr2 id id id
  have c2 := hq2.c0
  go_wp2_with fail
  refine (set_drop b1 f N x _ hq2.dirty hx).mono ?_
  rintro e w3 ⟨rfl, hs3, hfr3⟩
  have hq3 := hq2.setDirty hfr3 hs3 (Nat.le_refl _)
  have c3 := hq3.c1
  go_wp2_with fail
  refine (set_add b2 g N x _ hq3.busy hN hx).mono ?_
  rintro e w4 ⟨rfl, hs4, hfr4⟩
  go_wp2_with fail
  go_ret
  refine ⟨rfl, hq3.setBusy hfr4 hs4 (by omega), ?_⟩
  have h12 := hfr.step hfr2 (fun _ _ h => h)
  exact (h12.trans hfr3 (fun _ _ h => h.elim) (fun _ _ h => .inl h)).step hfr4 (fun _ _ h => .inr h)

set_option maxHeartbeats 400000 in
theorem q_done_idle (qb b1 b2 : Nat) (f g : Int → Bool) (N : Nat) (x : Int) (w : World) (hq : Que w qb b1 b2 f g N) (hx : (Lit.int .i64 x).wf = true) (hg : g x = false) :
    Calls Tryz.prog 19 #[.pointer (some ⟨qb, 0, none⟩), .int .i64 x] w fun e w' => e = .returned (.tuple #[.bool false, .int .i64 283]) ∧ Fr No w w' := by
  have c1 := hq.c1
  go_enter Tryz.func19, Tryz.ntmps19
  go_wp2_with fail
  refine (set_has b2 g N x _ hq.busy hx).mono ?_
  rintro e w1 ⟨rfl, hfr⟩
  go_wp2_with fail
  go_ret2
  exact ⟨rfl, hfr⟩

set_option maxHeartbeats 400000 in
theorem q_done (qb b1 b2 : Nat) (f g : Int → Bool) (N : Nat) (x : Int) (w : World) (hq : Que w qb b1 b2 f g N) (hx : (Lit.int .i64 x).wf = true) (hg : g x = true) :
    Calls Tryz.prog 19 #[.pointer (some ⟨qb, 0, none⟩), .int .i64 x] w fun e w' => e = .returned (.tuple #[.bool (!f x), .int .i64 0]) ∧ Que w' qb b1 b2 f (upd g x false) N ∧ Fr (Is b2) w w' := by
  have c1 := hq.c1
  go_enter Tryz.func19, Tryz.ntmps19
  go_wp2_with fail
  refine (set_has b2 g N x _ hq.busy hx).mono ?_
  rintro e w1 ⟨rfl, hfr⟩
  have hq1 := hq.fr hfr id id id
  have c2 := hq1.c1
  go_wp2_with fail
  refine (set_drop b2 g N x _ hq1.busy hx).mono ?_
  rintro e w2 ⟨rfl, hs2, hfr2⟩
  have hq2 := hq1.setBusy hfr2 hs2 (Nat.le_refl _)
  have c3 := hq2.c0
  go_wp2_with fail
  refine (set_has b1 f N x _ hq2.dirty hx).mono ?_
  rintro e w3 ⟨rfl, hfr3⟩
  go_wp2_with fail
  go_ret2
  exact ⟨rfl, hq2.fr hfr3 id id id, (hfr.trans hfr2 (fun _ _ h => h.elim) (fun _ _ h => h)).step hfr3 (fun _ _ h => h.elim)⟩
end Go.Proofs.YtanaompgapiikaaGreatDoor
