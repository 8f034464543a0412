/- The state of the laws QueuePlays, QueueForgets, QueueCopies: a tape, a queue, and the reference's queue in a variable. -/
import Derived.Test.YtpigghenmagghaaGreatDoorQ9
namespace Go.Proofs.YtpigghenmagghaaGreatDoor
open Go.RowKit Go.Maps Go.Sort Go.Shelf
set_option linter.unusedVariables false

/-- w: the world in which the law was called; W: now. The reference's queue lies in block bt. -/
structure St (w W : World) (tb k qb b1 b2 bt : Nat) (a1 : Option Addr) (c1 : Nat) (l1 : List Int) (a2 : Option Addr) (c2 : Nat) (l2 : List Int) (f g : Int → Bool) (N : Nat) : Prop where
  both : Both W w.heap.size tb k qb b1 b2 a1 c1 l1 a2 c2 l2 f g N
  blk : ∃ T, W.heap[bt]? = some (.cells #[.slice a1 l1.length c1, .slice a2 l2.length c2] T (0, 0))
  x1 : Av (Is bt) a1 l1
  x2 : Av (Is bt) a2 l2
  nt : bt ≠ tb
  nq : bt ≠ qb
  Bt : w.heap.size ≤ bt
  Bq : w.heap.size ≤ qb
  fr : Fr (From w.heap.size) w W
  s1 : l1.length ≤ N
  s2 : l2.length ≤ N

section
variable {w W W' : World} {tb k qb b1 b2 bt : Nat} {a1 : Option Addr} {c1 : Nat} {l1 : List Int} {a2 : Option Addr} {c2 : Nat} {l2 : List Int} {f g : Int → Bool} {N : Nat}

theorem St.n1 (h : St w W tb k qb b1 b2 bt a1 c1 l1 a2 c2 l2 f g N) : bt ≠ b1 := by
  obtain ⟨T, hb⟩ := h.blk; exact h.both.que.dirty.ne_cells hb
theorem St.n2 (h : St w W tb k qb b1 b2 bt a1 c1 l1 a2 c2 l2 f g N) : bt ≠ b2 := by
  obtain ⟨T, hb⟩ := h.blk; exact h.both.que.busy.ne_cells hb
theorem St.lt (h : St w W tb k qb b1 b2 bt a1 c1 l1 a2 c2 l2 f g N) : bt < W.heap.size := by
  obtain ⟨T, hb⟩ := h.blk; exact lt_of_block hb
theorem St.cb0 (h : St w W tb k qb b1 b2 bt a1 c1 l1 a2 c2 l2 f g N) : W.cell? ⟨bt, 0, none⟩ = some (.slice a1 l1.length c1) := by
  obtain ⟨T, hb⟩ := h.blk; exact cell_of_block hb 0
theorem St.cb1 (h : St w W tb k qb b1 b2 bt a1 c1 l1 a2 c2 l2 f g N) : W.cell? ⟨bt, 1, none⟩ = some (.slice a2 l2.length c2) := by
  obtain ⟨T, hb⟩ := h.blk; exact cell_of_block hb 1
theorem St.fz (h : St w W tb k qb b1 b2 bt a1 c1 l1 a2 c2 l2 f g N) (i : Nat) : W.frozen? ⟨bt, i, none⟩ = false := by
  obtain ⟨T, hb⟩ := h.blk; exact free_of_block hb i

theorem St.no (h : St w W tb k qb b1 b2 bt a1 c1 l1 a2 c2 l2 f g N) (hf : Fr No W W') : St w W' tb k qb b1 b2 bt a1 c1 l1 a2 c2 l2 f g N := by
  obtain ⟨T, hb⟩ := h.blk
  exact ⟨h.both.no hf, ⟨T, hf.heap hb id⟩, h.x1, h.x2, h.nt, h.nq, h.Bt, h.Bq, h.fr.step hf (fun _ _ e => e.elim), h.s1, h.s2⟩
theorem St.next (h : St w W tb k qb b1 b2 bt a1 c1 l1 a2 c2 l2 f g N) (ht : Tape W' w.heap.size tb (k + 1)) (hf : Fr (Is tb) W W') : St w W' tb (k + 1) qb b1 b2 bt a1 c1 l1 a2 c2 l2 f g N := by
  obtain ⟨T, hb⟩ := h.blk
  exact ⟨h.both.next ht hf, ⟨T, hf.heap hb h.nt⟩, h.x1, h.x2, h.nt, h.nq, h.Bt, h.Bq, h.fr.step hf (fun b _ e => by have := h.both.tape.le; unfold Is at e; unfold From; omega), h.s1, h.s2⟩

/-- The start: the tape's box, a new queue, an empty queue of the reference. -/
theorem St.start {w0 w1 : World} {a : Option Addr} {cap : Nat} {l : List Int} (hl : Ints w a cap l) {T T' : TypeId} (h0 : w0 = w.alloc (.cells #[.slice a l.length cap, .int .i64 0] T'))
    (hq : Que w1 qb b1 b2 (fun _ => false) (fun _ => false) 0) (e0 : w0.heap.size ≤ qb) (e1 : w0.heap.size ≤ b1) (e2 : w0.heap.size ≤ b2) (hf : Fr No w0 w1) :
    St w (w1.alloc (.cells #[.slice none 0 0, .slice none 0 0] T)) w.heap.size 0 qb b1 b2 w1.heap.size none 0 [] none 0 [] (fun _ => false) (fun _ => false) 0 := by
  subst h0
  rw [World.size_alloc] at e0 e1 e2
  have hx : Fr No w1 (w1.alloc (.cells #[.slice none 0 0, .slice none 0 0] T)) := (Fr.refl _ _).alloc _
  have hql : qb < w1.heap.size := by obtain ⟨T, hb⟩ := hq.blk; exact lt_of_block hb
  have hw1 : w.heap.size + 1 ≤ w1.heap.size := by have := hf.size; rwa [World.size_alloc] at this
  refine ⟨⟨((Tape.new hl T').fr hf (fun _ _ => id) id).fr hx (fun _ _ => id) id, hq.fr hx id id id, ⟨Ints.nil _, Ints.nil _, List.Pairwise.nil, List.Pairwise.nil, by simp, by simp⟩, ?_, ?_, by omega, by omega, by omega, by omega, by omega⟩,
    ⟨T, block_alloc _ _⟩, ?_, ?_, by omega, by omega, by omega, by omega, ?_, by simp, by simp⟩
  · intro ad e; cases e
  · intro ad e; cases e
  · intro ad e; cases e
  · intro ad e; cases e
  · exact (((Fr.refl (From w.heap.size) w).alloc _).step hf (fun _ _ e => e.elim)).alloc _

/-- Behind a call, when its result is stored. -/
theorem St.called (h : St w W tb k qb b1 b2 bt a1 c1 l1 a2 c2 l2 f g N) {k' : Nat} {a1' : Option Addr} {c1' : Nat} {l1' : List Int} {a2' : Option Addr} {c2' : Nat} {l2' : List Int} {f' g' : Int → Bool}
    (hb : Both W' w.heap.size tb k' qb b1 b2 a1' c1' l1' a2' c2' l2' f' g' (N + 1)) (s1 : SON W a1 l1 a1' l1') (s2 : SON W a2 l2 a2' l2') (hf : Fr (Tri tb b1 b2) W W') (n1 : l1'.length ≤ l1.length + 1) (n2 : l2'.length ≤ l2.length + 1) :
    (∃ T, W'.heap[bt]? = some (.cells #[.slice a1 l1.length c1, .slice a2 l2.length c2] T (0, 0))) ∧
    St w ((W'.setCell ⟨bt, 0, none⟩ (.slice a1' l1'.length c1')).setCell ⟨bt, 1, none⟩ (.slice a2' l2'.length c2')) tb k' qb b1 b2 bt a1' c1' l1' a2' c2' l2' f' g' (N + 1) := by
  obtain ⟨T, hbt⟩ := h.blk
  have hn1 := h.n1
  have hn2 := h.n2
  have hnt := h.nt
  have hnq := h.nq
  have hB := h.Bt
  have hlt := h.lt
  have htt := h.both.tape.le
  have hb' : W'.heap[bt]? = some (.cells #[.slice a1 l1.length c1, .slice a2 l2.length c2] T (0, 0)) := hf.heap hbt (fun e => by unfold Tri at e; omega)
  have hx : Fr (Is bt) W' ((W'.setCell ⟨bt, 0, none⟩ (.slice a1' l1'.length c1')).setCell ⟨bt, 1, none⟩ (.slice a2' l2'.length c2')) := ((Fr.refl _ _).setIs _).setIs _
  have v1 : Av (Is bt) a1' l1' := h.x1.son s1 (fun b e => by unfold Is at e; omega)
  have v2 : Av (Is bt) a2' l2' := h.x2.son s2 (fun b e => by unfold Is at e; omega)
  refine ⟨⟨T, hb'⟩, ⟨⟨hb.tape.fr hx (fun b hb e => by unfold Is at e; omega) (fun e => by unfold Is at e; omega), hb.que.fr hx (fun e => by unfold Is at e; omega) (fun e => by unfold Is at e; omega) (fun e => by unfold Is at e; omega), hb.rq.no hx v1 v2, hb.v1, hb.v2, hb.t0, hb.t1, hb.t2, hb.B1, hb.B2⟩,
    ⟨T, res_block hb' _ _⟩, v1, v2, hnt, hnq, hB, h.Bq, ?_, by have := h.s1; omega, by have := h.s2; omega⟩⟩
  exact (h.fr.step hf (fun b _ e => by have := hb.B1; have := hb.B2; unfold Tri at e; unfold From; omega)).step hx (fun b _ e => by unfold Is at e; unfold From; omega)
end
end Go.Proofs.YtpigghenmagghaaGreatDoor
