/- Frames: which blocks of a world may differ from those of an elder world. Plain laws; no function of the program is walked here. -/
import Derived.Test.YtanaompgapiikaaGreatDoorProg
import Derived.WalkKit
import Derived.WalkSpells
import Derived.WalkLawsBesides
import Derived.Maps.OwnSet
import Derived.Deep.QuietTactic
import Derived.BigQuiet
import Derived.Lib.Hide
import Derived.Deep.DeepFit
import Derived.Deep.DeepMust
namespace Go.Proofs.YtanaompgapiikaaGreatDoor
open Go.RowKit Go.Maps

/-- All blocks of w but those of S are in w' as they were. -/
structure Fr (S : Nat → Prop) (w w' : World) : Prop where
  os : w'.os = w.os
  tape : w'.tape = w.tape
  output : w'.output = w.output
  size : w.heap.size ≤ w'.heap.size
  block : ∀ k, k < w.heap.size → ¬ S k → w'.heap[k]? = w.heap[k]?

def No : Nat → Prop := fun _ => False
def Is (b : Nat) : Nat → Prop := fun k => k = b
def From (b : Nat) : Nat → Prop := fun k => b ≤ k

theorem Fr.refl (S : Nat → Prop) (w : World) : Fr S w w := ⟨rfl, rfl, rfl, Nat.le_refl _, fun _ _ _ => rfl⟩

theorem Fr.trans {S T U : Nat → Prop} {w w' w'' : World} (h : Fr S w w') (k : Fr T w' w'') (hS : ∀ b, b < w.heap.size → S b → U b) (hT : ∀ b, b < w.heap.size → T b → U b) : Fr U w w'' :=
  ⟨k.os.trans h.os, k.tape.trans h.tape, k.output.trans h.output, Nat.le_trans h.size k.size,
   fun b hb hu => (k.block b (Nat.lt_of_lt_of_le hb h.size) (fun ht => hu (hT b hb ht))).trans (h.block b hb (fun hs => hu (hS b hb hs)))⟩

theorem Fr.step {S : Nat → Prop} {w w' w'' : World} (h : Fr S w w') {T : Nat → Prop} (k : Fr T w' w'') (hT : ∀ b, b < w.heap.size → T b → S b) : Fr S w w'' :=
  h.trans k (fun _ _ h => h) hT

theorem Fr.mono {S T : Nat → Prop} {w w' : World} (h : Fr S w w') (hS : ∀ b, b < w.heap.size → S b → T b) : Fr T w w' :=
  ⟨h.os, h.tape, h.output, h.size, fun b hb ht => h.block b hb (fun hs => ht (hS b hb hs))⟩

theorem Fr.of_grown {w w' : World} {row : Option Nat} (h : w.grownBy w' row) : Fr (fun k => row = some k) w w' :=
  ⟨h.os, h.tape, h.output, h.size, fun k hk hn => h.block k hk (fun e => hn e.symm)⟩

theorem Fr.of_grown_some {w w' : World} {b : Nat} (h : w.grownBy w' (some b)) : Fr (Is b) w w' :=
  (Fr.of_grown h).mono (fun _ _ e => (Option.some.inj e).symm)

theorem Fr.of_grown_none {w w' : World} (h : w.grownBy w' none) : Fr No w w' :=
  (Fr.of_grown h).mono (fun _ _ e => by cases e)

theorem Fr.of_below {B : Nat} {w w' : World} (h : Below B w w') : Fr (From B) w w' :=
  ⟨h.os, h.tape, h.output, h.size, fun k _ hn => h.block k (by unfold From at hn; omega)⟩

theorem Fr.of_below_size {w w' : World} (h : Below w.heap.size w w') : Fr No w w' :=
  ⟨h.os, h.tape, h.output, h.size, fun k hk _ => h.block k hk⟩

theorem Fr.below {S : Nat → Prop} {B : Nat} {w w' : World} (h : Fr S w w') (hB : B ≤ w.heap.size) (hS : ∀ b, b < B → ¬ S b) : Below B w w' :=
  ⟨h.os, h.tape, h.output, h.size, fun k hk => h.block k (by omega) (hS k hk)⟩

theorem Fr.grown {S : Nat → Prop} {w w' : World} {row : Option Nat} (h : Fr S w w') (hS : ∀ b, S b → row = some b) : w.grownBy w' row :=
  ⟨h.os, h.tape, h.output, h.size, fun k hk hn => h.block k hk (fun hs => hn (hS k hs).symm)⟩

theorem Fr.alloc {S : Nat → Prop} {a w : World} (h : Fr S a w) (o : Obj) : Fr S a (w.alloc o) :=
  h.step (T := No) ⟨rfl, rfl, rfl, by simp, fun k hk _ => Below.heap_alloc _ _ _ hk⟩ (fun _ _ h => h.elim)

theorem Fr.setCell {S : Nat → Prop} {a w : World} (h : Fr S a w) {p : Addr} (hp : p.block < a.heap.size → S p.block) (u : Value) : Fr S a (w.setCell p u) :=
  h.step (T := Is p.block) ⟨rfl, rfl, rfl, by simp [World.setCell], fun k _ hk => Below.heap_setCell _ _ _ _ hk⟩ (fun b hb e => by unfold Is at e; subst e; exact hp hb)

theorem Fr.drew {S : Nat → Prop} {a w : World} (h : Fr S a w) : Fr S a w.drew := ⟨h.os, h.tape, h.output, h.size, h.block⟩
theorem Fr.drewN {S : Nat → Prop} {a w : World} (h : Fr S a w) (n : Nat) : Fr S a (w.drewN n) := ⟨h.os, h.tape, h.output, h.size, h.block⟩

theorem Fr.heap {S : Nat → Prop} {w w' : World} (h : Fr S w w') {b : Nat} {o : Obj} (hb : w.heap[b]? = some o) (hS : ¬ S b) : w'.heap[b]? = some o :=
  (h.block b (Array.getElem?_eq_some_iff.1 hb).1 hS).trans hb

theorem Fr.cell {S : Nat → Prop} {w w' : World} (h : Fr S w w') {p : Addr} {v : Value} (hb : w.cell? p = some v) (hS : ¬ S p.block) : w'.cell? p = some v := by
  have hlt : p.block < w.heap.size := by
    unfold World.cell? at hb
    cases hh : w.heap[p.block]? with
    | none => simp [hh] at hb
    | some o => exact (Array.getElem?_eq_some_iff.1 hh).1
  rw [World.cell?_of_block (h.block _ hlt hS)]; exact hb

theorem Fr.ownsMap {S : Nat → Prop} {H : Type} {P : Program} {k : TypeId} {R : Value → Option (DataW H × List MemPlace)} {w w' : World} {b n : Nat} {D : DataW H} (h : Fr S w w') (ho : w.ownsMap P k R b n D) (hS : ¬ S b) : w'.ownsMap P k R b n D := by
  have hlt := ho.lt
  obtain ⟨es, clock, hb, r⟩ := ho
  exact ⟨es, clock, h.heap hb hS, r⟩

/-- The cells of a block known whole. -/
theorem cell_of_block {w : World} {b : Nat} {cs : Array Value} {T : TypeId} {fz : Nat × Nat} (h : w.heap[b]? = some (.cells cs T fz)) (i : Nat) : w.cell? ⟨b, i, none⟩ = cs[i]? := by
  simp [World.cell?, h]
theorem free_of_block {w : World} {b : Nat} {cs : Array Value} {T : TypeId} (h : w.heap[b]? = some (.cells cs T (0, 0))) (i : Nat) : w.frozen? ⟨b, i, none⟩ = false := by
  simp [World.frozen?, h]
theorem lt_of_block {w : World} {b : Nat} {o : Obj} (h : w.heap[b]? = some o) : b < w.heap.size := (Array.getElem?_eq_some_iff.1 h).1
theorem block_setCell {w : World} {b : Nat} {cs : Array Value} {T : TypeId} {fz : Nat × Nat} (h : w.heap[b]? = some (.cells cs T fz)) (i : Nat) (v : Value) :
    (w.setCell ⟨b, i, none⟩ v).heap[b]? = some (.cells (cs.setIfInBounds i v) T fz) := by
  simp [World.setCell, Array.getElem?_modify, h]
theorem block_alloc (w : World) (o : Obj) : (w.alloc o).heap[w.heap.size]? = some o := by
  show (w.heap.push o)[w.heap.size]? = _
  simp

theorem Fr.setNew {S : Nat → Prop} {a w : World} (h : Fr S a w) {p : Addr} (hp : a.heap.size ≤ p.block) (u : Value) : Fr S a (w.setCell p u) :=
  h.setCell (fun hlt => absurd hlt (by omega)) u
theorem block_alloc1 (w : World) (o o' : Obj) : ((w.alloc o).alloc o').heap[w.heap.size]? = some o := by
  show ((w.heap.push o).push o')[w.heap.size]? = _
  simp [Array.getElem?_push]
theorem block_alloc2 (w : World) (o o' : Obj) : ((w.alloc o).alloc o').heap[w.heap.size + 1]? = some o' := by
  have h := block_alloc (w.alloc o) o'
  rwa [World.size_alloc] at h
end Go.Proofs.YtanaompgapiikaaGreatDoor
/- The set of Indexes of package queue: has, add, drop. -/
namespace Go.Proofs.YtanaompgapiikaaGreatDoor
open Go.RowKit Go.Maps

def upd (f : Int → Bool) (x : Int) (b : Bool) : Int → Bool := fun y => if y = x then b else f y

/-- Block mb is a map[int]struct that holds just the numbers of f; N is a bound on how many. -/
def ISet (w : World) (mb : Nat) (f : Int → Bool) (N : Nat) : Prop :=
  ∃ (D : DataW Unit) (n : Nat), n ≤ N ∧ w.ownsMap Tryz.prog 3 unitElem mb n D ∧ ∀ x, has D (.int .i64 x) = f x

theorem ISet.lt {w : World} {mb : Nat} {f : Int → Bool} {N : Nat} (h : ISet w mb f N) : mb < w.heap.size := by
  obtain ⟨D, n, _, ho, _⟩ := h; exact ho.lt

theorem ISet.mono {w : World} {mb : Nat} {f : Int → Bool} {N M : Nat} (h : ISet w mb f N) (hN : N ≤ M) : ISet w mb f M := by
  obtain ⟨D, n, hn, r⟩ := h; exact ⟨D, n, by omega, r⟩

theorem ISet.fr {S : Nat → Prop} {w w' : World} {mb : Nat} {f : Int → Bool} {N : Nat} (h : ISet w mb f N) (hf : Fr S w w') (hS : ¬ S mb) : ISet w' mb f N := by
  obtain ⟨D, n, hn, ho, r⟩ := h; exact ⟨D, n, hn, hf.ownsMap ho hS, r⟩

theorem lawI : Keyed Tryz.prog 3 := int_keyed Tryz.underlying3
theorem zeroU (w : World) : (zeroValue 121).run Tryz.prog w = .ok (.agg #[]) w := by kernel_rfl

theorem isKeyInt (x : Int) : WideAt.IsKeyLit (.int .i64 x) := by
  simp [WideAt.IsKeyLit]

set_option maxHeartbeats 400000 in
theorem set_has (mb : Nat) (f : Int → Bool) (N : Nat) (x : Int) (w : World) (hs : ISet w mb f N) (hx : (Lit.int .i64 x).wf = true) :
    Calls Tryz.prog 67 #[.map (some mb), .int .i64 x] w fun e w' => e = .returned (.bool (f x)) ∧ Fr No w w' := by
  obtain ⟨D, n, hn, ho, hf⟩ := hs
  have hkey := keyOf_int_mk Tryz.underlying3 hx
  rw [← hf x]
  clear hf
  go_enter Tryz.func67, Tryz.ntmps67
  go_wp2_with (at_lookup; refine wpList_lookup_own_unit _ rfl _ _ 98 rfl 3 121 lawI Tryz.underlying98 (zeroU _) mb n D rfl ho _ _ rfl hkey ?_)
  go_ret
  exact ⟨rfl, (Fr.refl _ _).alloc _⟩

set_option maxHeartbeats 400000 in
theorem set_add (mb : Nat) (f : Int → Bool) (N : Nat) (x : Int) (w : World) (hs : ISet w mb f N) (hN : N < maxLen) (hx : (Lit.int .i64 x).wf = true) :
    Calls Tryz.prog 59 #[.map (some mb), .int .i64 x] w fun e w' => e = .returned (.tuple #[]) ∧ ISet w' mb (upd f x true) (N + 1) ∧ Fr (Is mb) w w' := by
  obtain ⟨D, n, hn, ho, hf⟩ := hs
  have hkey := keyOf_int_mk Tryz.underlying3 hx
  have Hf := Lib.hid hf
  clear hf
  go_enter Tryz.func59, Tryz.ntmps59
  go_wp2_with (at_mapUpdate; refine wpList_mapUpdate_own _ rfl _ _ _ 98 rfl 3 121 lawI Tryz.underlying98 _ mb n D rfl ho (by omega) _ _ _ rfl rfl hkey _ [] unitElem_mk ?_; intro w1 hown1 hgrow1)
  go_end0
  refine ⟨rfl, ⟨_, n + 1, by omega, hown1, fun y => ?_⟩, Fr.of_grown_some hgrow1⟩
  unfold upd
  split
  · rename_i h; subst h; exact has_put_same ho.isMap (isKeyInt _) _
  · rename_i h; rw [has_put_other (by intro e; exact h (by simpa using e))]; exact Hf.out y

set_option maxHeartbeats 400000 in
theorem set_drop (mb : Nat) (f : Int → Bool) (N : Nat) (x : Int) (w : World) (hs : ISet w mb f N) (hx : (Lit.int .i64 x).wf = true) :
    Calls Tryz.prog 68 #[.map (some mb), .int .i64 x] w fun e w' => e = .returned (.tuple #[]) ∧ ISet w' mb (upd f x false) N ∧ Fr (Is mb) w w' := by
  obtain ⟨D, n, hn, ho, hf⟩ := hs
  have hkey := keyOf_int_mk Tryz.underlying3 hx
  have Hf := Lib.hid hf
  clear hf
  go_enter Tryz.func68, Tryz.ntmps68
  go_wp2_with (at_delete; refine wpList_delete_own _ rfl _ _ 98 3 rfl 121 lawI Tryz.underlying98 _ mb n D rfl ho _ _ rfl hkey ?_; intro w1 hown1 hturn1)
  go_end0
  refine ⟨rfl, ⟨_, n, by omega, hown1, fun y => ?_⟩, Fr.of_grown_some hturn1.grown⟩
  unfold upd
  split
  · rename_i h; subst h; exact has_del_same
  · rename_i h; rw [has_del_other (by intro e; exact h (by simpa using e))]; exact Hf.out y
end Go.Proofs.YtanaompgapiikaaGreatDoor
