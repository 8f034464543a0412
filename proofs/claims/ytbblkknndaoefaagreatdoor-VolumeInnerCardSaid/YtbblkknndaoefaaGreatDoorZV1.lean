/- Frames: which blocks of a world may differ from those of an elder world. Plain laws; no function of the program is walked here. Slices of ints that are read: In, SameInts; the tape: Fold, Next. Devices in memory: slices of api.Device that are read. index, Find. Texts: in, Printable, Valid, Text, Interface: each returns some truth value and leaves the world. name.Valid and coldplugref01.Valid: the same test. -/
import Derived.Test.YtbblkknndaoefaaGreatDoorProg
import Derived.WalkKit
import Derived.WalkSpells
import Derived.WalkLawsBesides
import Derived.Maps.OwnSet
import Derived.Deep.QuietTactic
import Derived.BigQuiet
import Derived.Lib.Hide
import Derived.Deep.DeepFit
import Derived.Deep.DeepMust
import Derived.Test.YtbblkknndaoefaaGreatDoorStrs
import Derived.Lib.IndexAny
import Derived.Laws.Rows
namespace Go.Proofs.YtbblkknndaoefaaGreatDoor
open Go.RowKit Go.Maps

/-- All blocks of w but those of S are in w' as they were. -/
structure Fr (S : Nat → Prop) (w w' : World) : Prop where
  os : w'.os = w.os
  tape : w'.tape = w.tape
  output : w'.output = w.output
  size : w.heap.size ≤ w'.heap.size
  block : ∀ k, k < w.heap.size → ¬ S k → w'.heap[k]? = w.heap[k]?

def No : Nat → Prop := fun _ => False
def Is (b : Nat) : Nat → Prop := fun k => k = b
def From (b : Nat) : Nat → Prop := fun k => b ≤ k

theorem Fr.refl (S : Nat → Prop) (w : World) : Fr S w w := ⟨rfl, rfl, rfl, Nat.le_refl _, fun _ _ _ => rfl⟩

theorem Fr.trans {S T U : Nat → Prop} {w w' w'' : World} (h : Fr S w w') (k : Fr T w' w'') (hS : ∀ b, b < w.heap.size → S b → U b) (hT : ∀ b, b < w.heap.size → T b → U b) : Fr U w w'' :=
  ⟨k.os.trans h.os, k.tape.trans h.tape, k.output.trans h.output, Nat.le_trans h.size k.size,
   fun b hb hu => (k.block b (Nat.lt_of_lt_of_le hb h.size) (fun ht => hu (hT b hb ht))).trans (h.block b hb (fun hs => hu (hS b hb hs)))⟩

theorem Fr.step {S : Nat → Prop} {w w' w'' : World} (h : Fr S w w') {T : Nat → Prop} (k : Fr T w' w'') (hT : ∀ b, b < w.heap.size → T b → S b) : Fr S w w'' :=
  h.trans k (fun _ _ h => h) hT

theorem Fr.mono {S T : Nat → Prop} {w w' : World} (h : Fr S w w') (hS : ∀ b, b < w.heap.size → S b → T b) : Fr T w w' :=
  ⟨h.os, h.tape, h.output, h.size, fun b hb ht => h.block b hb (fun hs => ht (hS b hb hs))⟩

theorem Fr.of_grown {w w' : World} {row : Option Nat} (h : w.grownBy w' row) : Fr (fun k => row = some k) w w' :=
  ⟨h.os, h.tape, h.output, h.size, fun k hk hn => h.block k hk (fun e => hn e.symm)⟩

theorem Fr.of_grown_some {w w' : World} {b : Nat} (h : w.grownBy w' (some b)) : Fr (Is b) w w' :=
  (Fr.of_grown h).mono (fun _ _ e => (Option.some.inj e).symm)

theorem Fr.of_grown_none {w w' : World} (h : w.grownBy w' none) : Fr No w w' :=
  (Fr.of_grown h).mono (fun _ _ e => by cases e)

theorem Fr.of_below {B : Nat} {w w' : World} (h : Below B w w') : Fr (From B) w w' :=
  ⟨h.os, h.tape, h.output, h.size, fun k _ hn => h.block k (by unfold From at hn; omega)⟩

theorem Fr.of_below_size {w w' : World} (h : Below w.heap.size w w') : Fr No w w' :=
  ⟨h.os, h.tape, h.output, h.size, fun k hk _ => h.block k hk⟩

theorem Fr.below {S : Nat → Prop} {B : Nat} {w w' : World} (h : Fr S w w') (hB : B ≤ w.heap.size) (hS : ∀ b, b < B → ¬ S b) : Below B w w' :=
  ⟨h.os, h.tape, h.output, h.size, fun k hk => h.block k (by omega) (hS k hk)⟩

theorem Fr.grown {S : Nat → Prop} {w w' : World} {row : Option Nat} (h : Fr S w w') (hS : ∀ b, S b → row = some b) : w.grownBy w' row :=
  ⟨h.os, h.tape, h.output, h.size, fun k hk hn => h.block k hk (fun hs => hn (hS k hs).symm)⟩

theorem Fr.alloc {S : Nat → Prop} {a w : World} (h : Fr S a w) (o : Obj) : Fr S a (w.alloc o) :=
  h.step (T := No) ⟨rfl, rfl, rfl, by simp, fun k hk _ => Below.heap_alloc _ _ _ hk⟩ (fun _ _ h => h.elim)

theorem Fr.setCell {S : Nat → Prop} {a w : World} (h : Fr S a w) {p : Addr} (hp : p.block < a.heap.size → S p.block) (u : Value) : Fr S a (w.setCell p u) :=
  h.step (T := Is p.block) ⟨rfl, rfl, rfl, by simp [World.setCell], fun k _ hk => Below.heap_setCell _ _ _ _ hk⟩ (fun b hb e => by unfold Is at e; subst e; exact hp hb)

theorem Fr.drew {S : Nat → Prop} {a w : World} (h : Fr S a w) : Fr S a w.drew := ⟨h.os, h.tape, h.output, h.size, h.block⟩
theorem Fr.drewN {S : Nat → Prop} {a w : World} (h : Fr S a w) (n : Nat) : Fr S a (w.drewN n) := ⟨h.os, h.tape, h.output, h.size, h.block⟩

theorem Fr.heap {S : Nat → Prop} {w w' : World} (h : Fr S w w') {b : Nat} {o : Obj} (hb : w.heap[b]? = some o) (hS : ¬ S b) : w'.heap[b]? = some o :=
  (h.block b (Array.getElem?_eq_some_iff.1 hb).1 hS).trans hb

theorem Fr.cell {S : Nat → Prop} {w w' : World} (h : Fr S w w') {p : Addr} {v : Value} (hb : w.cell? p = some v) (hS : ¬ S p.block) : w'.cell? p = some v := by
  have hlt : p.block < w.heap.size := by
    unfold World.cell? at hb
    cases hh : w.heap[p.block]? with
    | none => simp [hh] at hb
    | some o => exact (Array.getElem?_eq_some_iff.1 hh).1
  rw [World.cell?_of_block (h.block _ hlt hS)]; exact hb

theorem Fr.ownsMap {S : Nat → Prop} {H : Type} {P : Program} {k : TypeId} {R : Value → Option (DataW H × List MemPlace)} {w w' : World} {b n : Nat} {D : DataW H} (h : Fr S w w') (ho : w.ownsMap P k R b n D) (hS : ¬ S b) : w'.ownsMap P k R b n D := by
  have hlt := ho.lt
  obtain ⟨es, clock, hb, r⟩ := ho
  exact ⟨es, clock, h.heap hb hS, r⟩

/-- The cells of a block known whole. -/
theorem cell_of_block {w : World} {b : Nat} {cs : Array Value} {T : TypeId} {fz : Nat × Nat} (h : w.heap[b]? = some (.cells cs T fz)) (i : Nat) : w.cell? ⟨b, i, none⟩ = cs[i]? := by
  simp [World.cell?, h]
theorem free_of_block {w : World} {b : Nat} {cs : Array Value} {T : TypeId} (h : w.heap[b]? = some (.cells cs T (0, 0))) (i : Nat) : w.frozen? ⟨b, i, none⟩ = false := by
  simp [World.frozen?, h]
theorem lt_of_block {w : World} {b : Nat} {o : Obj} (h : w.heap[b]? = some o) : b < w.heap.size := (Array.getElem?_eq_some_iff.1 h).1
theorem block_setCell {w : World} {b : Nat} {cs : Array Value} {T : TypeId} {fz : Nat × Nat} (h : w.heap[b]? = some (.cells cs T fz)) (i : Nat) (v : Value) :
    (w.setCell ⟨b, i, none⟩ v).heap[b]? = some (.cells (cs.setIfInBounds i v) T fz) := by
  simp [World.setCell, Array.getElem?_modify, h]
theorem block_alloc (w : World) (o : Obj) : (w.alloc o).heap[w.heap.size]? = some o := by
  show (w.heap.push o)[w.heap.size]? = _
  simp

theorem Fr.setNew {S : Nat → Prop} {a w : World} (h : Fr S a w) {p : Addr} (hp : a.heap.size ≤ p.block) (u : Value) : Fr S a (w.setCell p u) :=
  h.setCell (fun hlt => absurd hlt (by omega)) u
theorem block_alloc1 (w : World) (o o' : Obj) : ((w.alloc o).alloc o').heap[w.heap.size]? = some o := by
  show ((w.heap.push o).push o')[w.heap.size]? = _
  simp [Array.getElem?_push]
theorem block_alloc2 (w : World) (o o' : Obj) : ((w.alloc o).alloc o').heap[w.heap.size + 1]? = some o' := by
  have h := block_alloc (w.alloc o) o'
  rwa [World.size_alloc] at h
end Go.Proofs.YtbblkknndaoefaaGreatDoor
/- The set of Indexes of package queue: has, add, drop. -/
namespace Go.Proofs.YtbblkknndaoefaaGreatDoor
open Go.RowKit Go.Maps

def upd (f : Int → Bool) (x : Int) (b : Bool) : Int → Bool := fun y => if y = x then b else f y

/-- Block mb is a map[int]struct that holds just the numbers of f; N is a bound on how many. -/
def ISet (w : World) (mb : Nat) (f : Int → Bool) (N : Nat) : Prop :=
  ∃ (D : DataW Unit) (n : Nat), n ≤ N ∧ w.ownsMap Tryz.prog 3 unitElem mb n D ∧ ∀ x, has D (.int .i64 x) = f x

theorem ISet.lt {w : World} {mb : Nat} {f : Int → Bool} {N : Nat} (h : ISet w mb f N) : mb < w.heap.size := by
  obtain ⟨D, n, _, ho, _⟩ := h; exact ho.lt

theorem ISet.mono {w : World} {mb : Nat} {f : Int → Bool} {N M : Nat} (h : ISet w mb f N) (hN : N ≤ M) : ISet w mb f M := by
  obtain ⟨D, n, hn, r⟩ := h; exact ⟨D, n, by omega, r⟩

theorem ISet.fr {S : Nat → Prop} {w w' : World} {mb : Nat} {f : Int → Bool} {N : Nat} (h : ISet w mb f N) (hf : Fr S w w') (hS : ¬ S mb) : ISet w' mb f N := by
  obtain ⟨D, n, hn, ho, r⟩ := h; exact ⟨D, n, hn, hf.ownsMap ho hS, r⟩

theorem lawI : Keyed Tryz.prog 3 := int_keyed Tryz.underlying3
theorem zeroU (w : World) : (zeroValue 106).run Tryz.prog w = .ok (.agg #[]) w := by kernel_rfl

theorem isKeyInt (x : Int) : WideAt.IsKeyLit (.int .i64 x) := by
  simp [WideAt.IsKeyLit]

end Go.Proofs.YtbblkknndaoefaaGreatDoor
namespace Go.Proofs.YtbblkknndaoefaaGreatDoor
open Go.RowKit Go.Maps
set_option linter.unusedVariables false

/-- The slice value (a, l.length, cap) reads in w as the list l of ints. -/
structure Ints (w : World) (a : Option Addr) (cap : Nat) (l : List Int) : Prop where
  len : l.length ≤ cap
  max : cap ≤ maxLen
  wf : ∀ x ∈ l, (Lit.int .i64 x).wf = true
  isNil : a = none → l = [] ∧ cap = 0
  cell : ∀ ad, a = some ad → l ≠ [] → ad.spot = none ∧ ad.block < w.heap.size ∧ ∀ i x, l[i]? = some x → w.cell? ⟨ad.block, ad.off + i, none⟩ = some (.int .i64 x)

theorem Ints.at {w : World} {a : Option Addr} {cap : Nat} {l : List Int} (h : Ints w a cap l) {k : Nat} (hk : k < l.length) :
    ∃ b off x, a = some ⟨b, off, none⟩ ∧ l[k]? = some x ∧ w.cell? ⟨b, off + k, none⟩ = some (.int .i64 x) := by
  cases a with
  | none => obtain ⟨rfl, _⟩ := h.isNil rfl; simp at hk
  | some ad =>
    obtain ⟨b, off, sp⟩ := ad
    obtain ⟨h1, h2, h3⟩ := h.cell _ rfl (by intro e; subst e; simp at hk)
    simp at h1; subst h1
    exact ⟨b, off, l[k], rfl, by simp [hk], h3 k _ (by simp [hk])⟩

theorem Ints.lenmax {w : World} {a : Option Addr} {cap : Nat} {l : List Int} (h : Ints w a cap l) : l.length ≤ 9223372036854775807 := by
  have h1 := h.len; have h2 := h.max; unfold maxLen at h2; omega

theorem Ints.fr {S : Nat → Prop} {w w' : World} {a : Option Addr} {cap : Nat} {l : List Int} (h : Ints w a cap l) (hf : Fr S w w') (hS : ∀ ad, a = some ad → l ≠ [] → ¬ S ad.block) : Ints w' a cap l :=
  ⟨h.len, h.max, h.wf, h.isNil, fun ad e hne => by
    obtain ⟨h1, h2, h3⟩ := h.cell ad e hne
    exact ⟨h1, Nat.lt_of_lt_of_le h2 hf.size, fun i x hi => hf.cell (h3 i x hi) (hS ad e hne)⟩⟩

theorem Ints.no {S : Nat → Prop} {w w' : World} {a : Option Addr} {cap : Nat} {l : List Int} (h : Ints w a cap l) (hf : Fr S w w') (hS : ∀ k, ¬ S k) : Ints w' a cap l := h.fr hf (fun _ _ _ => hS _)

theorem Ints.from {w w' : World} {a : Option Addr} {cap : Nat} {l : List Int} (h : Ints w a cap l) (hf : Fr (From w.heap.size) w w') : Ints w' a cap l :=
  h.fr hf (fun ad e hne hS => by have := (h.cell ad e hne).2.1; unfold From at hS; omega)

theorem Ints.from_at {w w' : World} {a : Option Addr} {cap : Nat} {l : List Int} (h : Ints w a cap l) (hf : Fr (From w.heap.size) w w') {k : Nat} (hk : k < l.length) :
    ∃ b off x, a = some ⟨b, off, none⟩ ∧ l[k]? = some x ∧ w'.cell? ⟨b, off + k, none⟩ = some (.int .i64 x) ∧ ¬ From w.heap.size b := by
  obtain ⟨b, off, x, rfl, hx, hc⟩ := (h.from hf).at hk
  refine ⟨b, off, x, rfl, hx, hc, ?_⟩
  have := (h.cell _ rfl (by intro e; subst e; simp at hk)).2.1
  unfold From; simp at this; omega

theorem Ints.nil (w : World) : Ints w none 0 [] := ⟨by simp, by simp, by simp, fun _ => ⟨rfl, rfl⟩, fun _ e _ => by cases e⟩

/-- A row of the call's own, as a slice of ints that is read. -/
theorem Ints.of_own {w : World} {base : Nat} {e : TypeId} {v : Value} {l : List Int} (h : w.ownsRow base e 1 v l.length (l.map (Value.int .i64))) (hw : ∀ x ∈ l, (Lit.int .i64 x).wf = true) :
    ∃ a cap, v = .slice a l.length cap ∧ Ints w a cap l ∧ ∀ ad, a = some ad → base ≤ ad.block := by
  obtain ⟨_, ⟨rfl, h2⟩ | ⟨g, cap, cur, rfl, hg, hb, h1, h2, h3, h4⟩⟩ := h
  · have : l = [] := List.eq_nil_of_length_eq_zero h2
    subst this
    exact ⟨none, 0, rfl, Ints.nil w, fun _ e => by cases e⟩
  · refine ⟨some ⟨g, 0, none⟩, cap, rfl, ⟨h1, h2, hw, (fun e => by cases e), ?_⟩, fun ad e => by cases e; exact hg⟩
    intro ad e hne
    cases e
    refine ⟨rfl, lt_of_block hb, fun i x hi => ?_⟩
    rw [cell_of_block hb]
    simp only [Nat.zero_add]
    have hlt : i < l.length := (List.getElem?_eq_some_iff.1 hi).1
    have e1 : (cur.toList.take (l.length * 1))[i]? = (l.map (Value.int .i64))[i]? := by rw [h4]
    rw [List.getElem?_take_of_lt (by omega)] at e1
    rw [← Array.getElem?_toList, e1]
    simp [hi]

theorem ret_bool {a b : Bool} (h : a = b) : Ending.returned (.bool a) = .returned (.bool b) := by rw [h]
theorem ret_int {k : IntKind} {a b : Int} (h : a = b) : Ending.returned (.int k a) = .returned (.int k b) := by rw [h]

theorem take_succ_mem {l : List Int} {k : Nat} {x : Int} (h : l[k]? = some x) : l.take (k + 1) = l.take k ++ [x] := by
  rw [List.take_add_one, h]; rfl

set_option maxHeartbeats 400000 in
theorem ints_same (a a' : Option Addr) (cap cap' : Nat) (l l' : List Int) (w : World) (hl : Ints w a cap l) (hl' : Ints w a' cap' l') :
    Calls Tryz.prog 33 #[.slice a l.length cap, .slice a' l'.length cap'] w fun e w' => e = .returned (.bool (decide (l = l'))) ∧ Fr No w w' := by
  have hm := hl.lenmax
  have hm' := hl'.lenmax
  by_cases hne : l.length = l'.length
  · have hb : ((l.length : Int) != (l'.length : Int)) = false := by simp [hne]
    go_enter Tryz.func33, Tryz.ntmps33
    have Hne := Lib.hid hne
    clear hne
    go_wp2
    go_loopw [5] (fun i wr => ∃ k : Nat, k ≤ l.length ∧ i = .int .i64 k ∧ Hid (l.take k = l'.take k) ∧ Fr No w wr) (fun i _ => l.length - (intOf i).toNat)
    case atStart => exact ⟨0, by omega, rfl, by unfold Hid; simp, Fr.refl _ _⟩
    case round =>
      obtain ⟨k, hk, rfl, hno, hfr⟩ := hrel
      have hl := hl.no hfr (fun _ h => h)
      have hl' := hl'.no hfr (fun _ h => h)
      by_cases hlt : k < l.length
      · obtain ⟨b, off, x, rfl, hx, hc⟩ := hl.at hlt
        have Hx := Lib.hid hx
        clear hx
        have hlt' : k < l'.length := by have := Hne.out; omega
        obtain ⟨b', off', x', rfl, hx', hc'⟩ := hl'.at hlt'
        have Hx' := Lib.hid hx'
        clear hx'
        by_cases hxn : x = x'
        · subst hxn
          have hb : (x != x) = false := by simp
          go_wp2
          go_quiet (fail)
          go_wp2
          go_roundw
          case rel => exact ⟨k + 1, by omega, by go_num, by unfold Hid; rw [take_succ_mem Hx.out, take_succ_mem Hx'.out, hno.out], hfr.drewN _⟩
          case measure => simp [intOf]; omega
        · have hb : (x != x') = true := by simpa using hxn
          go_wp2
          go_quiet (fail)
          go_wp2
          go_ret
          refine ⟨ret_bool (a := false) (decide_eq_false ?_).symm, hfr.drewN _⟩
          rintro rfl
          have h1 := Hx.out
          rw [Hx'.out] at h1
          exact hxn (Option.some.inj h1).symm
      · go_wp2
        go_ret
        have h := hno.out
        rw [List.take_of_length_le (by omega), List.take_of_length_le (by have := Hne.out; omega)] at h
        exact ⟨ret_bool (a := true) (decide_eq_true h).symm, hfr⟩
  · have hb : ((l.length : Int) != (l'.length : Int)) = true := by simp; omega
    go_enter Tryz.func33, Tryz.ntmps33
    go_wp2
    go_ret
    refine ⟨ret_bool (a := false) (decide_eq_false ?_).symm, Fr.refl _ _⟩
    rintro rfl
    exact hne rfl

/-- A slice of ints that came in, as the guide's shell of a proof tells it. -/
theorem Ints.of_isRow {w : World} {a : Option Addr} {len cap : Nat} {zs : List Int} (h : (a = none ∧ len = 0 ∧ cap = 0 ∧ zs = []) ∨
    ∃ x, a = some x ∧ len ≤ cap ∧ cap ≤ maxLen ∧ zs.length = cap ∧ (∀ i, i < zs.length → w.cell? (x.add i) = some (.int .i64 (zs.getD i 0))) ∧ ∀ n ∈ zs, (Lit.int .i64 n).wf = true) :
    ∃ l : List Int, l.length = len ∧ Ints w a cap l := by
  rcases h with ⟨rfl, rfl, rfl, rfl⟩ | ⟨x, rfl, h1, h2, h3, h4, h5⟩
  · exact ⟨[], rfl, Ints.nil w⟩
  · refine ⟨zs.take len, by simp; omega, by simp; omega, h2, fun x hx => h5 x (List.mem_of_mem_take hx), (fun e => by cases e), ?_⟩
    intro ad e hne
    cases e
    have hpos : 0 < zs.length := by
      cases zs with
      | nil => simp at hne
      | cons _ _ => simp
    have h0 := h4 0 hpos
    have hsp : x.spot = none := by simpa [Addr.add] using World.cell?_spot h0
    obtain ⟨b, off, sp⟩ := x
    simp at hsp
    subst hsp
    refine ⟨rfl, ?_, fun i y hi => ?_⟩
    · unfold World.cell? at h0
      simp only [Addr.add] at h0
      cases hh : w.heap[b]? with
      | none => simp [hh] at h0
      | some o => exact (Array.getElem?_eq_some_iff.1 hh).1
    · have hlt : i < (zs.take len).length := (List.getElem?_eq_some_iff.1 hi).1
      have h6 := h4 i (by simp at hlt; omega)
      rw [List.getElem?_take_of_lt (by simp at hlt; omega)] at hi
      rw [List.getD_eq_getElem?_getD, hi] at h6
      rw [Addr.add_lit] at h6
      simpa using h6

/-- Fold returns a number from 0 to n - 1. -/
theorem fold_any (v n : Int) (w : World) (h1 : 1 ≤ n) (h2 : n ≤ 4294967296) (hv : (Lit.int .i64 v).wf = true) :
    Calls Tryz.prog 49 #[.int .i64 v, .int .i64 n] w fun e w' => ∃ r, e = .returned (.int .i64 r) ∧ 0 ≤ r ∧ r < n ∧ w = w' := by
  by_cases h : n ≤ 1
  · go_enter Tryz.func49, Tryz.ntmps49
    go_wp2
    go_ret
    exact ⟨_, rfl, by omega, by omega, rfl⟩
  · have hlo : -n < v.tmod n := by have := Int.lt_tmod_of_pos v (b := n) (by omega); omega
    have hhi : v.tmod n < n := Int.tmod_lt_of_pos v (by omega)
    by_cases hneg : v.tmod n < 0
    · go_enter Tryz.func49, Tryz.ntmps49
      go_wp2
      go_ret
      exact ⟨_, rfl, by omega, by omega, rfl⟩
    · go_enter Tryz.func49, Tryz.ntmps49
      go_wp2
      go_ret
      exact ⟨_, rfl, by omega, by omega, rfl⟩

/-- Block tb is a tape that has read k numbers; its list lies below block B. -/
def Tape (w : World) (B tb k : Nat) : Prop :=
  ∃ a cap l T, Ints w a cap l ∧ (∀ ad, a = some ad → l ≠ [] → ad.block < B) ∧ B ≤ tb ∧ w.heap[tb]? = some (.cells #[.slice a l.length cap, .int .i64 (k : Int)] T (0, 0))

theorem Tape.lt {w : World} {B tb k : Nat} (h : Tape w B tb k) : tb < w.heap.size := by
  obtain ⟨a, cap, l, T, _, _, _, hb⟩ := h; exact lt_of_block hb
theorem Tape.le {w : World} {B tb k : Nat} (h : Tape w B tb k) : B ≤ tb := by
  obtain ⟨a, cap, l, T, _, _, h, _⟩ := h; exact h
theorem Tape.fr {S : Nat → Prop} {w w' : World} {B tb k : Nat} (h : Tape w B tb k) (hf : Fr S w w') (hS : ∀ b, b < B → ¬ S b) (ht : ¬ S tb) : Tape w' B tb k := by
  obtain ⟨a, cap, l, T, h1, h2, h3, hb⟩ := h
  exact ⟨a, cap, l, T, h1.fr hf (fun ad e hne => hS _ (h2 ad e hne)), h2, h3, hf.heap hb ht⟩

set_option maxHeartbeats 1000000 in
theorem tape_next (B tb k : Nat) (n : Int) (w : World) (ht : Tape w B tb k) (hk : k ≤ 1000000000000) (h1 : 1 ≤ n) (h2 : n ≤ 4294967296) :
    Calls Tryz.prog 37 #[.pointer (some ⟨tb, 0, none⟩), .int .i64 n] w fun e w' => ∃ r, e = .returned (.int .i64 r) ∧ 0 ≤ r ∧ r < n ∧ Tape w' B tb (k + 1) ∧ Fr (Is tb) w w' := by
  obtain ⟨a, cap, l, T, hl, ha, hB, hb⟩ := ht
  have c0 : w.cell? ⟨tb, 0, none⟩ = some (.slice a l.length cap) := by rw [cell_of_block hb]; rfl
  have c1 : w.cell? ⟨tb, 1, none⟩ = some (.int .i64 (k : Int)) := by rw [cell_of_block hb]; rfl
  have f1 : w.frozen? ⟨tb, 1, none⟩ = false := free_of_block hb 1
  have hm := hl.lenmax
  have hend : ∀ m : Nat, Tape ((w.setCell ⟨tb, 1, none⟩ (.int .i64 ((k : Int) + 1))).drewN m) B tb (k + 1) ∧ Fr (Is tb) w ((w.setCell ⟨tb, 1, none⟩ (.int .i64 ((k : Int) + 1))).drewN m) := fun m => by
    have hf : Fr (Is tb) w ((w.setCell ⟨tb, 1, none⟩ (.int .i64 ((k : Int) + 1))).drewN m) := (Fr.setCell (S := Is tb) (p := ⟨tb, 1, none⟩) (Fr.refl _ _) (fun _ => rfl) _).drewN m
    refine ⟨⟨a, cap, l, T, hl.fr hf (fun ad e hne h => by have := ha ad e hne; unfold Is at h; omega), ha, hB, ?_⟩, hf⟩
    show (w.setCell ⟨tb, 1, none⟩ (.int .i64 ((k : Int) + 1))).heap[tb]? = _
    rw [block_setCell hb]; rfl
  have Hend := Lib.hid hend
  clear hend
  by_cases hlt : k < l.length
  · obtain ⟨b, off, x, rfl, hx, hc⟩ := hl.at hlt
    have Hx := Lib.hid (hl.wf x (List.mem_of_getElem? hx))
    have hlt' : (k : Int) < l.length := by omega
    clear hx
    go_enter Tryz.func37, Tryz.ntmps37
    go_wp2_with fail
    go_quiet (fail)
    go_wp2_with fail
    go_quiet (fail)
    go_wp2_with fail
    refine (fold_any _ n _ h1 h2 Hx.out).mono ?_
    rintro e w1 ⟨r, rfl, hr1, hr2, rfl⟩
    go_wp2_with fail
    go_ret
    exact ⟨r, rfl, hr1, hr2, Hend.out _⟩
  · have hlt' : ¬ (k : Int) < l.length := by omega
    go_enter Tryz.func37, Tryz.ntmps37
    go_wp2_with fail
    go_quiet (fail)
    go_wp2_with fail
    refine (fold_any _ n _ h1 h2 (WalkArith.wf_i64 (by omega))).mono ?_
    rintro e w1 ⟨r, rfl, hr1, hr2, rfl⟩
    go_wp2_with fail
    go_ret
    exact ⟨r, rfl, hr1, hr2, Hend.out _⟩
end Go.Proofs.YtbblkknndaoefaaGreatDoor
namespace Go.Proofs.YtbblkknndaoefaaGreatDoor
open Go.RowKit
set_option linter.unusedVariables false

structure Dev where
  index : Int
  parent : Int
  name : ByteArray
  orig : ByteArray
  sub : ByteArray
  drv : ByteArray
  ali : ByteArray
  kind : Int
  num : Int
  aa : Option Addr
  an : Nat
  ac : Nat

def Dev.cell (d : Dev) : Nat → Value
  | 0 => .int .i64 d.index
  | 1 => .int .i64 d.parent
  | 2 => .string d.name
  | 3 => .string d.orig
  | 4 => .string d.sub
  | 5 => .string d.drv
  | 6 => .string d.ali
  | 7 => .int .i64 d.kind
  | 8 => .int .i64 d.num
  | _ => .slice d.aa d.an d.ac
def Dev.vals (d : Dev) : Array Value := #[.int .i64 d.index, .int .i64 d.parent, .string d.name, .string d.orig, .string d.sub, .string d.drv, .string d.ali, .int .i64 d.kind, .int .i64 d.num, .slice d.aa d.an d.ac]
def Dev.zero : Dev := ⟨0, 0, ByteArray.empty, ByteArray.empty, ByteArray.empty, ByteArray.empty, ByteArray.empty, 0, 0, none, 0, 0⟩

/-- A slice of devices: its elements are 'ds'. -/
structure Devs (w : World) (a : Option Addr) (cap : Nat) (ds : List Dev) : Prop where
  len : ds.length ≤ cap
  max : cap ≤ maxLen
  isNil : a = none → ds = [] ∧ cap = 0
  cell : ∀ ad, a = some ad → ds ≠ [] → ad.spot = none ∧ ad.block < w.heap.size ∧ ∀ i d, ds[i]? = some d → ∀ j, j < 10 → w.cell? ⟨ad.block, ad.off + (i * 10 + j), none⟩ = some (d.cell j)

theorem Devs.at {w : World} {a : Option Addr} {cap : Nat} {ds : List Dev} (h : Devs w a cap ds) {k : Nat} (hk : k < ds.length) :
    ∃ b off d, a = some ⟨b, off, none⟩ ∧ ds[k]? = some d ∧ ∀ j, j < 10 → w.cell? ⟨b, off + (k * 10 + j), none⟩ = some (d.cell j) := by
  cases a with
  | none => obtain ⟨rfl, _⟩ := h.isNil rfl; simp at hk
  | some ad =>
    obtain ⟨b, off, sp⟩ := ad
    obtain ⟨h1, h2, h3⟩ := h.cell _ rfl (by intro e; subst e; simp at hk)
    simp at h1; subst h1
    exact ⟨b, off, ds[k], rfl, List.getElem?_eq_getElem hk, h3 k _ (List.getElem?_eq_getElem hk)⟩
/-- The ten cells of a device at (b, o). -/
structure DevAt (w : World) (b o : Nat) (d : Dev) : Prop where
  c0 : w.cell? ⟨b, o, none⟩ = some (.int .i64 d.index)
  c1 : w.cell? ⟨b, o + 1, none⟩ = some (.int .i64 d.parent)
  c2 : w.cell? ⟨b, o + 2, none⟩ = some (.string d.name)
  c3 : w.cell? ⟨b, o + 3, none⟩ = some (.string d.orig)
  c4 : w.cell? ⟨b, o + 4, none⟩ = some (.string d.sub)
  c5 : w.cell? ⟨b, o + 5, none⟩ = some (.string d.drv)
  c6 : w.cell? ⟨b, o + 6, none⟩ = some (.string d.ali)
  c7 : w.cell? ⟨b, o + 7, none⟩ = some (.int .i64 d.kind)
  c8 : w.cell? ⟨b, o + 8, none⟩ = some (.int .i64 d.num)
  c9 : w.cell? ⟨b, o + 9, none⟩ = some (.slice d.aa d.an d.ac)
theorem Devs.dev {w : World} {a : Option Addr} {cap : Nat} {ds : List Dev} (h : Devs w a cap ds) {k : Nat} (hk : k < ds.length) :
    ∃ b off d, a = some ⟨b, off, none⟩ ∧ ds[k]? = some d ∧ DevAt w b (off + k * 10) d := by
  obtain ⟨b, off, d, ha, hd, hc⟩ := h.at hk
  refine ⟨b, off, d, ha, hd, ?_⟩
  exact ⟨hc 0 (by omega), hc 1 (by omega), hc 2 (by omega), hc 3 (by omega), hc 4 (by omega), hc 5 (by omega), hc 6 (by omega), hc 7 (by omega), hc 8 (by omega), hc 9 (by omega)⟩
theorem Devs.lenmax {w : World} {a : Option Addr} {cap : Nat} {ds : List Dev} (h : Devs w a cap ds) : ds.length ≤ 9223372036854775807 := by
  have h1 := h.len; have h2 := h.max; unfold maxLen at h2; omega
theorem Devs.fr {S : Nat → Prop} {w w' : World} {a : Option Addr} {cap : Nat} {ds : List Dev} (h : Devs w a cap ds) (hf : Fr S w w') (hS : ∀ ad, a = some ad → ds ≠ [] → ¬ S ad.block) : Devs w' a cap ds :=
  ⟨h.len, h.max, h.isNil, fun ad e hne => by
    obtain ⟨h1, h2, h3⟩ := h.cell ad e hne
    exact ⟨h1, Nat.lt_of_lt_of_le h2 hf.size, fun i d hi j hj => hf.cell (h3 i d hi j hj) (hS ad e hne)⟩⟩
theorem Devs.no {S : Nat → Prop} {w w' : World} {a : Option Addr} {cap : Nat} {ds : List Dev} (h : Devs w a cap ds) (hf : Fr S w w') (hS : ∀ k, ¬ S k) : Devs w' a cap ds := h.fr hf (fun _ _ _ => hS _)
theorem Devs.nil (w : World) : Devs w none 0 [] := ⟨by simp, by simp, fun _ => ⟨rfl, rfl⟩, fun _ e _ => by cases e⟩

/-- Where the device with an Index stands, or -1. -/
def place : List Dev → Int → Int
  | [], _ => -1
  | d :: t, n => if d.index = n then 0 else if place t n < 0 then -1 else place t n + 1

theorem place_lo : ∀ (ds : List Dev) (n : Int), -1 ≤ place ds n ∧ place ds n < ds.length
  | [], n => by simp [place]
  | d :: t, n => by
    have := place_lo t n
    unfold place
    split
    · simp only [List.length_cons]; omega
    · split <;> simp only [List.length_cons] <;> omega
theorem place_take : ∀ (ds : List Dev) (n : Int) (k : Nat) (d : Dev), ds[k]? = some d → d.index = n → (∀ x ∈ ds.take k, x.index ≠ n) → place ds n = k
  | [], n, k, d, h, _, _ => by simp at h
  | x :: t, n, 0, d, h, e, _ => by simp at h; subst h; simp [place, e]
  | x :: t, n, k + 1, d, h, e, hn => by
    have h1 : x.index ≠ n := hn x (by simp)
    have h2 := place_take t n k d (by simpa using h) e (fun y hy => hn y (by simp [hy]))
    unfold place
    rw [if_neg h1, h2]
    split <;> omega
theorem place_none : ∀ (ds : List Dev) (n : Int), (∀ x ∈ ds, x.index ≠ n) → place ds n = -1
  | [], n, _ => rfl
  | x :: t, n, h => by
    unfold place
    rw [if_neg (h x (by simp)), place_none t n (fun y hy => h y (by simp [hy]))]
    simp

/-- The device with an Index, or the zero device. -/
def devOf (ds : List Dev) (n : Int) : Dev := if place ds n < 0 then Dev.zero else (ds[(place ds n).toNat]?).getD Dev.zero

end Go.Proofs.YtbblkknndaoefaaGreatDoor
/- A device stored over ten cells. -/
namespace Go.Proofs.YtbblkknndaoefaaGreatDoor
open Go.RowKit
set_option linter.unusedVariables false

theorem Fr.setAt {b i : Nat} {a w : World} (h : Fr (Is b) a w) (v : Value) : Fr (Is b) a (w.setCell ⟨b, i, none⟩ v) := h.setCell (p := ⟨b, i, none⟩) (fun _ => rfl) v
/-- A device stored over ten cells. -/
theorem set10 {W : World} {b : Nat} {cs : Array Value} {T : TypeId} (h : W.heap[b]? = some (.cells cs T)) (hs : cs.size = 10) (p : Dev) :
    ((((((((((W.setCell ⟨b, 0, none⟩ (.int .i64 p.index)).setCell ⟨b, 1, none⟩ (.int .i64 p.parent)).setCell ⟨b, 2, none⟩ (.string p.name)).setCell ⟨b, 3, none⟩ (.string p.orig)).setCell ⟨b, 4, none⟩ (.string p.sub)).setCell ⟨b, 5, none⟩ (.string p.drv)).setCell ⟨b, 6, none⟩ (.string p.ali)).setCell ⟨b, 7, none⟩ (.int .i64 p.kind)).setCell ⟨b, 8, none⟩ (.int .i64 p.num)).setCell ⟨b, 9, none⟩ (.slice p.aa p.an p.ac)).heap[b]? = some (.cells p.vals T) ∧ Fr (Is b) W ((((((((((W.setCell ⟨b, 0, none⟩ (.int .i64 p.index)).setCell ⟨b, 1, none⟩ (.int .i64 p.parent)).setCell ⟨b, 2, none⟩ (.string p.name)).setCell ⟨b, 3, none⟩ (.string p.orig)).setCell ⟨b, 4, none⟩ (.string p.sub)).setCell ⟨b, 5, none⟩ (.string p.drv)).setCell ⟨b, 6, none⟩ (.string p.ali)).setCell ⟨b, 7, none⟩ (.int .i64 p.kind)).setCell ⟨b, 8, none⟩ (.int .i64 p.num)).setCell ⟨b, 9, none⟩ (.slice p.aa p.an p.ac)) := by
  refine ⟨?_, Fr.setAt (Fr.setAt (Fr.setAt (Fr.setAt (Fr.setAt (Fr.setAt (Fr.setAt (Fr.setAt (Fr.setAt (Fr.setAt (Fr.refl _ _) _) _) _) _) _) _) _) _) _) _⟩
  obtain ⟨l⟩ := cs
  match l, hs with
  | [_, _, _, _, _, _, _, _, _, _], _ =>
    have h0 := block_setCell h 0 (.int .i64 p.index)
    have h1 := block_setCell h0 1 (.int .i64 p.parent)
    have h2 := block_setCell h1 2 (.string p.name)
    have h3 := block_setCell h2 3 (.string p.orig)
    have h4 := block_setCell h3 4 (.string p.sub)
    have h5 := block_setCell h4 5 (.string p.drv)
    have h6 := block_setCell h5 6 (.string p.ali)
    have h7 := block_setCell h6 7 (.int .i64 p.kind)
    have h8 := block_setCell h7 8 (.int .i64 p.num)
    have h9 := block_setCell h8 9 (.slice p.aa p.an p.ac)
    simp only [List.setIfInBounds_toArray, List.set_cons_zero, List.set_cons_succ] at h9
    exact h9
/-- A text as a name is: no longer than 32 bytes, and without a slash. -/
def OkN (s : ByteArray) : Prop := s.size ≤ 32 ∧ ∀ b ∈ s.data.toList, b ≠ 47
end Go.Proofs.YtbblkknndaoefaaGreatDoor
namespace Go.Proofs.YtbblkknndaoefaaGreatDoor
open Go.RowKit
set_option linter.unusedVariables false

/-- Some truth value is returned. -/
def RetB (e : Ending) : Prop := ∃ b, e = .returned (.bool b)
theorem RetB.mk (b : Bool) : RetB (.returned (.bool b)) := ⟨b, rfl⟩
/-- A truth value is returned; if it is true, then p. -/
def RetIf (p : Prop) (e : Ending) : Prop := ∃ b, e = .returned (.bool b) ∧ (b = true → p)
theorem RetIf.no (p : Prop) : RetIf p (.returned (.bool false)) := ⟨false, rfl, fun h => by cases h⟩
theorem RetIf.yes {p : Prop} (h : p) (b : Bool) : RetIf p (.returned (.bool b)) := ⟨b, rfl, fun _ => h⟩

set_option maxHeartbeats 400000 in
theorem t_in (s set : ByteArray) (w : World) (hs : s.size ≤ maxLen) :
    Calls Tryz.prog 114 #[.string s, .string set] w fun e w' => RetB e ∧ w = w' := by
  have hm : s.size ≤ 9223372036854775807 := by unfold maxLen at hs; omega
  go_enter Tryz.func114, Tryz.ntmps114
  go_wp2
  go_loop [5] (fun i => ∃ k : Nat, k ≤ s.size ∧ i = .int .i64 k) (fun i => s.size - (intOf i).toNat)
  case atStart => exact ⟨0, by omega, rfl⟩
  case round =>
    obtain ⟨k, hk, rfl⟩ := hrel
    by_cases hlt : k < s.size
    · go_wp2_with fail
      refine (Tryz.strings_IndexByte set _ _).mono ?_
      rintro e w1 ⟨rfl, rfl⟩
      generalize Lib.indexByte _ _ = q
      by_cases hq : q < 0
      · go_wp2
        go_ret
        exact ⟨RetB.mk false, rfl⟩
      · go_wp2
        go_round
        case rel => exact ⟨k + 1, by omega, by go_num⟩
        case measure => simp [intOf]; omega
    · go_wp2
      go_ret
      exact ⟨RetB.mk true, rfl⟩

def inSet (s set : ByteArray) : Bool := s.data.toList.all set.data.toList.contains
def nameBA : ByteArray := ⟨#[65, 66, 67, 68, 69, 70, 71, 72, 73, 74, 75, 76, 77, 78, 79, 80, 81, 82, 83, 84, 85, 86, 87, 88, 89, 90, 97, 98, 99, 100, 101, 102, 103, 104, 105, 106, 107, 108, 109, 110, 111, 112, 113, 114, 115, 116, 117, 118, 119, 120, 121, 122, 48, 49, 50, 51, 52, 53, 54, 55, 56, 57, 95, 46, 58, 43, 45, 33]⟩
/-- A name. -/
def isName (s : ByteArray) : Bool := !decide (s.toList = []) && decide (s.size ≤ 32) && inSet s nameBA && !decide (s.toList = [46]) && !decide (s.toList = [46, 46])
theorem all_take_succ (p : UInt8 → Bool) (l : List UInt8) (k : Nat) (x : UInt8) (h : l[k]? = some x) (h1 : (l.take k).all p = true) (h2 : p x = true) : (l.take (k + 1)).all p = true := by
  rw [List.take_add_one, h, List.all_append, h1]
  simp [h2]
theorem all_no (p : UInt8 → Bool) (l : List UInt8) (k : Nat) (x : UInt8) (h : l[k]? = some x) (h2 : p x = false) : l.all p = false := by
  rw [List.all_eq_false]
  exact ⟨x, List.mem_of_getElem? h, by simp [h2]⟩

set_option maxHeartbeats 400000 in
theorem v_in (s set : ByteArray) (w : World) (hs : s.size ≤ maxLen) :
    Calls Tryz.prog 114 #[.string s, .string set] w fun e w' => e = .returned (.bool (inSet s set)) ∧ w = w' := by
  have hm : s.size ≤ 9223372036854775807 := by unfold maxLen at hs; omega
  go_enter Tryz.func114, Tryz.ntmps114
  go_wp2
  go_loop [5] (fun i => ∃ k : Nat, k ≤ s.size ∧ i = .int .i64 k ∧ Hid ((s.data.toList.take k).all set.data.toList.contains = true)) (fun i => s.size - (intOf i).toNat)
  case atStart => exact ⟨0, by omega, rfl, by unfold Hid; simp⟩
  case round =>
    obtain ⟨k, hk, rfl, hno⟩ := hrel
    by_cases hlt : k < s.size
    · go_wp2_with fail
      refine (Tryz.strings_IndexByte set _ _).mono ?_
      rintro e w1 ⟨rfl, rfl⟩
      have hx : s.data.toList[k]? = some s[k] := by
        rw [Array.getElem?_toList]; exact Array.getElem?_eq_getElem (by simpa using hlt)
      have hq : set.data.toList.contains s[k] = decide (0 ≤ Lib.indexByte set.data.toList ((s[k].toNat : Int)).toNat.toUInt8) := by
        rw [Lib.contains_iff_indexByte]; simp
      have Hx := Lib.hid hx
      have Hq := Lib.hid hq
      clear hx hq
      generalize Lib.indexByte _ _ = q at *
      by_cases hq0 : q < 0
      · go_wp2
        go_ret
        refine ⟨ret_bool ?_, rfl⟩
        exact (all_no _ _ _ _ Hx.out (by rw [Hq.out]; simp; omega)).symm
      · go_wp2
        go_round
        case rel => exact ⟨k + 1, by omega, by go_num, all_take_succ _ _ _ _ Hx.out hno.out (by rw [Hq.out]; simp; omega)⟩
        case measure => simp [intOf]; omega
    · go_wp2
      go_ret
      refine ⟨ret_bool ?_, rfl⟩
      have := hno.out
      rw [List.take_of_length_le (by simp; omega)] at this
      unfold inSet
      rw [this]

set_option maxHeartbeats 1000000 in
theorem v_valid (s : ByteArray) (w : World) (hs : s.size ≤ maxLen) :
    Calls Tryz.prog 83 #[.string s] w fun e w' => e = .returned (.bool (isName s)) ∧ w = w' := by
  have hm : s.size ≤ 9223372036854775807 := by unfold maxLen at hs; omega
  by_cases h0 : s.toList = []
  · have H : Hid (isName s = false) := by unfold Hid isName; simp [h0]
    go_enter Tryz.func83, Tryz.ntmps83
    go_wp2_with fail
    all_goals (go_ret; exact ⟨ret_bool H.out.symm, rfl⟩)
  · by_cases h1 : s.size ≤ 32
    · go_enter Tryz.func83, Tryz.ntmps83
      go_wp2_with fail
      refine (v_in s _ _ hs).mono ?_
      rintro e w1 ⟨rfl, rfl⟩
      generalize hb : inSet s _ = b
      have hb' : inSet s nameBA = b := hb
      clear hb
      by_cases h2 : s.toList = [46]
      · have H : Hid (isName s = false) := by unfold Hid isName; simp [h2]
        cases b
        all_goals
          go_wp2_with fail
          all_goals (go_ret; exact ⟨ret_bool H.out.symm, rfl⟩)
      · by_cases h3 : s.toList = [46, 46]
        · have H : Hid (isName s = false) := by unfold Hid isName; simp [h3]
          cases b
          all_goals
            go_wp2_with fail
            all_goals (go_ret; exact ⟨ret_bool H.out.symm, rfl⟩)
        · have H : Hid (isName s = b) := by unfold Hid isName; simp [h0, h1, h2, h3, hb']
          have e0 : s.toList.isEmpty = false := by simp [h0]
          have e2 : (s.toList == [46]) = false := by simp [h2]
          have e3 : (s.toList == [46, 46]) = false := by simp [h3]
          clear hb' h0 h2 h3
          cases b
          all_goals
            go_wp2_with fail
            all_goals (go_ret; exact ⟨ret_bool H.out.symm, rfl⟩)
    · have H : Hid (isName s = false) := by unfold Hid isName; simp [h1]
      go_enter Tryz.func83, Tryz.ntmps83
      go_wp2_with fail
      all_goals (go_ret; exact ⟨ret_bool H.out.symm, rfl⟩)
theorem isName_ok {s : ByteArray} (h : isName s = true) : OkN s := by
  unfold isName at h
  simp only [Bool.and_eq_true, decide_eq_true_eq] at h
  obtain ⟨⟨⟨⟨_, h1⟩, h2⟩, _⟩, _⟩ := h
  refine ⟨h1, fun b hb e => ?_⟩
  unfold inSet at h2
  rw [List.all_eq_true] at h2
  have := h2 b hb
  subst e
  revert this
  decide
theorem t_valid (s : ByteArray) (w : World) (hs : s.size ≤ maxLen) :
    Calls Tryz.prog 83 #[.string s] w fun e w' => RetIf (OkN s) e ∧ w = w' :=
  (v_valid s w hs).mono fun e w' ⟨h1, h2⟩ => ⟨⟨_, h1, isName_ok⟩, h2⟩

end Go.Proofs.YtbblkknndaoefaaGreatDoor
namespace Go.Proofs.YtbblkknndaoefaaGreatDoor
open Go.RowKit
set_option linter.unusedVariables false

/-- A set of bytes as a value: 256 truth values. -/
def bits (f : UInt8 → Bool) : Array Value := Array.ofFn (n := 256) fun i => .bool (f (UInt8.ofNat i.val))
def allB (f : UInt8 → Bool) (s : ByteArray) : Bool := s.data.toList.all f
theorem bits_size (f : UInt8 → Bool) : (bits f).size = 256 := by simp [bits]
theorem bits_one (g : UInt8 → Bool) : (bits g).all (·.oneCell') = true := by
  rw [Array.all_eq_true_iff_forall_mem]
  intro v hv
  obtain ⟨i, rfl⟩ := (Array.mem_ofFn).1 hv
  rfl
theorem bits_at (f : UInt8 → Bool) (c : UInt8) : (bits f)[c.toNat]? = some (.bool (f c)) := by
  have : c.toNat < 256 := c.toNat_lt
  rw [Array.getElem?_eq_getElem (by rw [bits_size]; exact this)]
  simp [bits]
theorem bits_set (f : UInt8 → Bool) (c : UInt8) : (bits f).setIfInBounds c.toNat (.bool true) = bits (fun x => f x || x == c) := by
  have : c.toNat < 256 := c.toNat_lt
  apply Array.ext
  · simp [bits_size]
  · intro i h1 h2
    rw [bits_size] at h2
    rw [Array.getElem_setIfInBounds (by rw [bits_size]; exact h2)]
    simp only [bits, Array.getElem_ofFn]
    by_cases e : c.toNat = i
    · subst e; simp
    · rw [if_neg e]
      have : (UInt8.ofNat i == c) = false := by
        rw [beq_eq_false_iff_ne]; intro h; subst h; apply e; simp; omega
      rw [this, Bool.or_false]

set_option maxRecDepth 100000 in
set_option maxHeartbeats 1000000 in
theorem nset_has (f : UInt8 → Bool) (s : ByteArray) (w : World) (hs : s.size ≤ maxLen) :
    Calls Tryz.prog 113 #[.agg (bits f), .string s] w fun e w' => e = .returned (.bool (allB f s)) ∧ Fr No w w' := by
  have hm : s.size ≤ 9223372036854775807 := by unfold maxLen at hs; omega
  have hx : Fr No w (w.alloc (.cells (bits f) 134)) := (Fr.refl _ _).alloc _
  have hb := block_alloc w (.cells (bits f) 134)
  have c0 : ∀ c : UInt8, (w.alloc (.cells (bits f) 134)).cell? ⟨w.heap.size, c.toNat, none⟩ = some (.bool (f c)) := fun c => (cell_of_block hb _).trans (bits_at f c)
  go_enter Tryz.func113, Tryz.ntmps113
  go_wp2
  generalize w.alloc (.cells (bits f) 134) = W0 at *
  go_loop [8] (fun i => ∃ k : Nat, k ≤ s.size ∧ i = .int .i64 k ∧ Hid ((s.data.toList.take k).all f = true)) (fun i => s.size - (intOf i).toNat)
  case atStart => exact ⟨0, by omega, rfl, by unfold Hid; simp⟩
  case round =>
    obtain ⟨k, hk, rfl, hno⟩ := hrel
    by_cases hlt : k < s.size
    · have hx' : s.data.toList[k]? = some s[k] := by
        rw [Array.getElem?_toList]; exact Array.getElem?_eq_getElem (by simpa using hlt)
      have Hx := Lib.hid hx'
      have hc1 : ((s[k].toNat : Nat) : Int) < 256 := by have := s[k].toNat_lt; omega
      have hc := c0 s[k]
      rcases hq : f s[k] with _ | _
      · rw [hq] at hc
        have Hq := Lib.hid hq
        clear hq hx' c0
        go_wp2
        go_ret
        exact ⟨ret_bool (all_no _ _ _ _ Hx.out Hq.out).symm, hx⟩
      · rw [hq] at hc
        have Hq := Lib.hid hq
        clear hq hx' c0
        go_wp2
        go_round
        case rel => exact ⟨k + 1, by omega, by go_num, all_take_succ _ _ _ _ Hx.out hno.out Hq.out⟩
        case measure => simp [intOf]; omega
    · go_wp2
      go_ret
      refine ⟨ret_bool ?_, hx⟩
      have := hno.out
      rw [List.take_of_length_le (by simp; omega)] at this
      unfold allB
      rw [this]

set_option maxRecDepth 100000 in
set_option maxHeartbeats 1000000 in
theorem nset_plus (f : UInt8 → Bool) (s : ByteArray) (w : World) (hs : s.size ≤ maxLen) :
    Calls Tryz.prog 112 #[.agg (bits f), .string s] w fun e w' => e = .returned (.agg (bits fun c => f c || s.data.toList.contains c)) ∧ Fr No w w' := by
  have hm : s.size ≤ 9223372036854775807 := by unfold maxLen at hs; omega
  have hx : Fr No w (w.alloc (.cells (bits f) 134)) := (Fr.refl _ _).alloc _
  have hb := block_alloc w (.cells (bits f) 134)
  have hi : (Tryz.prog.info? 134).map (·.size) = some 256 := by kernel_rfl
  have hz : Tryz.zeroCells134.size = 256 := by kernel_rfl
  have p0 := block_alloc1 w (.cells (bits f) 134) (.cells Tryz.zeroCells134 134)
  have p1 := block_alloc2 w (.cells (bits f) 134) (.cells Tryz.zeroCells134 134)
  have h2 : Fr No w ((w.alloc (.cells (bits f) 134)).alloc (.cells Tryz.zeroCells134 134)) := hx.alloc _
  clear hx hb
  go_enter Tryz.func112, Tryz.ntmps112
  go_wp2
  generalize (w.alloc (.cells (bits f) 134)).alloc (.cells Tryz.zeroCells134 134) = W0 at *
  go_loopw [8] (fun i wr => ∃ k : Nat, k ≤ s.size ∧ i = .int .i64 k ∧ Hid (wr.heap[w.heap.size]? = some (.cells (bits fun c => f c || (s.data.toList.take k).contains c) 134)) ∧ Hid (wr.heap[w.heap.size + 1]? = some (.cells Tryz.zeroCells134 134)) ∧ Fr No w wr) (fun i _ => s.size - (intOf i).toNat)
  case atStart => exact ⟨0, by omega, rfl, by unfold Hid; simpa using p0, p1, h2⟩
  case round =>
    obtain ⟨k, hk, rfl, hb0, hb1, hfr⟩ := hrel
    clear p0 p1 h2
    by_cases hlt : k < s.size
    · have hx' : s.data.toList[k]? = some s[k] := by
        rw [Array.getElem?_toList]; exact Array.getElem?_eq_getElem (by simpa using hlt)
      have Hx := Lib.hid hx'
      have hc1 : ((s[k].toNat : Nat) : Int) < 256 := by have := s[k].toNat_lt; omega
      have c0 := (cell_of_block hb0.out s[k].toNat).trans (bits_at _ _)
      have f0 := free_of_block hb0.out s[k].toNat
      have hfr1 : Fr No w (wr.setCell ⟨w.heap.size, s[k].toNat, none⟩ (.bool true)) := hfr.setCell (by simp) _
      have q0 := block_setCell hb0.out s[k].toNat (.bool true)
      rw [bits_set] at q0
      have q1 := (Fr.setAt (Fr.refl (Is w.heap.size) wr) (i := s[k].toNat) (.bool true)).heap hb1.out (fun e => by unfold Is at e; omega)
      have Q := Lib.hid (And.intro q0 (And.intro q1 hfr1))
      clear q0 q1 hfr1 hx'
      go_wp2
      go_roundw
      case rel =>
        refine ⟨k + 1, by omega, by go_num, ?_, Q.out.2.1, Q.out.2.2⟩
        unfold Hid
        rw [Q.out.1, List.take_add_one, Hx.out]
        congr 3
        funext c
        have e : (c == s[k]) = decide (c = s[k]) := by by_cases h : c = s[k] <;> simp [h]
        simp [Bool.or_assoc, e]
      case measure => simp [intOf]; omega
    · obtain rfl : k = s.size := by omega
      have q0 := hb0.out
      rw [List.take_of_length_le (by simp)] at q0
      have q0' := Lib.hid q0
      clear hb0 q0
      go_wp2_with (first
        | (refine wpList_load_row rfl 134 _ rfl w.heap.size rfl 134 _ (0, 0) _ q0'.out Tryz.underlying134 rfl (by rw [bits_size]; exact hi) ?_)
        | (refine wpList_store_row rfl 134 _ _ rfl (w.heap.size + 1) _ rfl rfl 134 _ hb1.out (by rw [bits_size]; exact hi) (by rw [bits_size]; exact hz) (bits_one _) ?_))
      have hg := setRow_heap wr (w.heap.size + 1) _ (bits fun c => f c || s.data.toList.contains c) 134 (0, 0) hb1.out
      refine bodyPost_ret (v := .agg (bits fun c => f c || s.data.toList.contains c)) (results_cell_row rfl _ _ (w.heap.size + 1) 134 _ (0, 0) _ rfl hg Tryz.underlying134 rfl (by rw [bits_size]; exact hi)) rfl ?_
      refine ⟨rfl, hfr.step (T := Is (w.heap.size + 1)) ⟨rfl, rfl, rfl, by simp, fun b _ hb => setRow_other _ _ _ _ (fun e => hb e)⟩ (fun b hb e => by unfold Is at e; omega)⟩

/-- The bytes of names but '!'. -/
def commonF : UInt8 → Bool := fun c => ((((false || [65, 66, 67, 68, 69, 70, 71, 72, 73, 74, 75, 76, 77, 78, 79, 80, 81, 82, 83, 84, 85, 86, 87, 88, 89, 90].contains c) || [97, 98, 99, 100, 101, 102, 103, 104, 105, 106, 107, 108, 109, 110, 111, 112, 113, 114, 115, 116, 117, 118, 119, 120, 121, 122].contains c) || [48, 49, 50, 51, 52, 53, 54, 55, 56, 57].contains c) || [95, 46, 58, 43, 45].contains c)
theorem zero_bits : Tryz.zeroCells134 = bits (fun _ => false) := by kernel_rfl

theorem nset_plus0 (s : ByteArray) (w : World) (hs : s.size ≤ maxLen) :
    Calls Tryz.prog 112 #[.agg Tryz.zeroCells134, .string s] w fun e w' => e = .returned (.agg (bits fun c => false || s.data.toList.contains c)) ∧ Fr No w w' := by
  rw [zero_bits]
  exact nset_plus _ s w hs
def upperBA : ByteArray := ⟨#[65, 66, 67, 68, 69, 70, 71, 72, 73, 74, 75, 76, 77, 78, 79, 80, 81, 82, 83, 84, 85, 86, 87, 88, 89, 90]⟩
theorem lower_upper (w : World) :
    Calls Tryz.prog 139 #[.string ⟨#[65, 66, 67, 68, 69, 70, 71, 72, 73, 74, 75, 76, 77, 78, 79, 80, 81, 82, 83, 84, 85, 86, 87, 88, 89, 90]⟩] w fun e w' => e = .returned (.string ⟨#[97, 98, 99, 100, 101, 102, 103, 104, 105, 106, 107, 108, 109, 110, 111, 112, 113, 114, 115, 116, 117, 118, 119, 120, 121, 122]⟩) ∧ Fr No w w' := by
  have h : ∀ b ∈ upperBA.data.toList, b.toNat < 128 := by decide
  refine (Tryz.strings_ToLower_ascii upperBA w (by decide) (fun j b hb => h b (List.mem_of_getElem? hb))).mono ?_
  rintro e w' ⟨rfl, hb⟩
  exact ⟨by congr 2, Fr.of_below_size hb⟩

set_option maxRecDepth 100000 in
set_option maxHeartbeats 1000000 in
theorem nset_common (w : World) :
    Calls Tryz.prog 111 #[] w fun e w' => e = .returned (.agg (bits commonF)) ∧ Fr No w w' := by
  have hi : (Tryz.prog.info? 134).map (·.size) = some 256 := by kernel_rfl
  have hz : Tryz.zeroCells134.size = 256 := by kernel_rfl
  have h0 : Fr No w (w.alloc (.cells Tryz.zeroCells134 134)) := (Fr.refl _ _).alloc _
  have p0 := block_alloc w (.cells Tryz.zeroCells134 134)
  have P0 := Lib.hid (And.intro p0 h0)
  clear p0 h0
  go_enter Tryz.func111, Tryz.ntmps111
  go_wp2_with fail
  refine (nset_plus0 _ _ (by decide)).mono ?_
  rintro e w1 ⟨rfl, hf1⟩
  go_wp2_with fail
  refine (lower_upper _).mono ?_
  rintro e w2 ⟨rfl, hf2⟩
  go_wp2_with fail
  refine (nset_plus _ _ _ (by decide)).mono ?_
  rintro e w3 ⟨rfl, hf3⟩
  go_wp2_with fail
  refine (nset_plus _ _ _ (by decide)).mono ?_
  rintro e w4 ⟨rfl, hf4⟩
  go_wp2_with fail
  refine (nset_plus _ _ _ (by decide)).mono ?_
  rintro e w5 ⟨rfl, hf5⟩
  have hfr := ((((P0.out.2.step hf1 (fun _ _ h => h)).step hf2 (fun _ _ h => h)).step hf3 (fun _ _ h => h)).step hf4 (fun _ _ h => h)).step hf5 (fun _ _ h => h)
  have p5 := hf5.heap (hf4.heap (hf3.heap (hf2.heap (hf1.heap P0.out.1 id) id) id) id) id
  obtain ⟨F, hF⟩ : ∃ F, F = commonF := ⟨_, rfl⟩
  go_wp2_with (refine wpList_store_row rfl 134 _ _ rfl w.heap.size (bits commonF) rfl rfl 134 _ p5 (by rw [bits_size]; exact hi) (by rw [bits_size]; exact hz) (bits_one _) ?_)
  have hg := setRow_heap w5 w.heap.size _ (bits commonF) 134 (0, 0) p5
  refine bodyPost_ret (v := .agg (bits commonF)) (results_cell_row rfl _ _ w.heap.size 134 _ (0, 0) _ rfl hg Tryz.underlying134 rfl (by rw [bits_size]; exact hi)) rfl ?_
  exact ⟨rfl, hfr.step (T := Is w.heap.size) ⟨rfl, rfl, rfl, by simp, fun b _ hb => setRow_other _ _ _ _ (fun e => hb e)⟩ (fun b hb e => by unfold Is at e; omega)⟩

set_option maxHeartbeats 1000000 in
theorem name_dots (s : ByteArray) (w : World) :
    Calls Tryz.prog 110 #[.string s] w fun e w' => e = .returned (.bool (decide (s.toList = [46]) || decide (s.toList = [46, 46]))) ∧ w = w' := by
  by_cases h2 : s.toList = [46]
  · have H : Hid ((decide (s.toList = [46]) || decide (s.toList = [46, 46])) = true) := by unfold Hid; simp [h2]
    go_enter Tryz.func110, Tryz.ntmps110
    go_wp2_with fail
    all_goals (go_ret; exact ⟨ret_bool H.out.symm, rfl⟩)
  · by_cases h3 : s.toList = [46, 46]
    · have H : Hid ((decide (s.toList = [46]) || decide (s.toList = [46, 46])) = true) := by unfold Hid; simp [h3]
      go_enter Tryz.func110, Tryz.ntmps110
      go_wp2_with fail
      all_goals (go_ret; exact ⟨ret_bool H.out.symm, rfl⟩)
    · have H : Hid ((decide (s.toList = [46]) || decide (s.toList = [46, 46])) = false) := by unfold Hid; simp [h2, h3]
      have e2 : (s.toList == [46]) = false := by simp [h2]
      have e3 : (s.toList == [46, 46]) = false := by simp [h3]
      clear h2 h3
      go_enter Tryz.func110, Tryz.ntmps110
      go_wp2_with fail
      all_goals (go_ret; exact ⟨ret_bool H.out.symm, rfl⟩)

theorem common_name (s : ByteArray) : s.data.toList.all (fun c => commonF c || [33].contains c) = inSet s nameBA := by
  unfold inSet
  congr 1
  funext c
  have : nameBA.data.toList = (((([65, 66, 67, 68, 69, 70, 71, 72, 73, 74, 75, 76, 77, 78, 79, 80, 81, 82, 83, 84, 85, 86, 87, 88, 89, 90] ++ [97, 98, 99, 100, 101, 102, 103, 104, 105, 106, 107, 108, 109, 110, 111, 112, 113, 114, 115, 116, 117, 118, 119, 120, 121, 122]) ++ [48, 49, 50, 51, 52, 53, 54, 55, 56, 57]) ++ [95, 46, 58, 43, 45]) ++ [33]) := rfl
  rw [this]
  unfold commonF
  simp only [List.contains_eq_mem, List.mem_append, Bool.false_or, Bool.decide_or]

set_option maxRecDepth 100000 in
set_option maxHeartbeats 1000000 in
theorem name_valid (s : ByteArray) (w : World) (hs : s.size ≤ maxLen) :
    Calls Tryz.prog 82 #[.string s] w fun e w' => e = .returned (.bool (isName s)) ∧ Fr No w w' := by
  have hm : s.size ≤ 9223372036854775807 := by unfold maxLen at hs; omega
  by_cases h0 : s.toList = []
  · have H : Hid (isName s = false) := by unfold Hid isName; simp [h0]
    go_enter Tryz.func82, Tryz.ntmps82
    go_wp2_with fail
    all_goals (go_ret; exact ⟨ret_bool H.out.symm, Fr.refl _ _⟩)
  · by_cases h1 : s.size ≤ 32
    · go_enter Tryz.func82, Tryz.ntmps82
      go_wp2_with fail
      refine (name_dots s _).mono ?_
      rintro e w1 ⟨rfl, rfl⟩
      rcases hd : (decide (s.toList = [46]) || decide (s.toList = [46, 46])) with _ | _
      · have hd' : s.toList ≠ [46] ∧ s.toList ≠ [46, 46] := by simpa using hd
        have H : Hid (isName s = inSet s nameBA) := by unfold Hid isName; simp [h0, h1, hd'.1, hd'.2]
        clear hd hd'
        go_wp2_with fail
        refine (nset_common _).mono ?_
        rintro e w2 ⟨rfl, hf2⟩
        go_wp2_with fail
        refine (nset_plus commonF _ _ (by decide)).mono ?_
        rintro e w3 ⟨rfl, hf3⟩
        go_wp2_with fail
        refine (nset_has _ s _ hs).mono ?_
        rintro e w4 ⟨rfl, hf4⟩
        have hfr := (hf2.step hf3 (fun _ _ h => h)).step hf4 (fun _ _ h => h)
        have hb : allB (fun c => commonF c || decide (c = 33)) s = isName s := by
          rw [H.out, ← common_name]
          unfold allB
          congr 1
          funext c
          simp
        have e0 : s.toList.isEmpty = false := by simp [h0]
        clear h0
        have Hb := Lib.hid hb
        clear hb H
        generalize hq : allB _ s = q
        have Hq : Hid (q = isName s) := hq.symm.trans Hb.out
        clear hq Hb
        cases q
        all_goals
          go_wp2_with fail
          all_goals (go_ret; exact ⟨ret_bool Hq.out, hfr⟩)
      · have H : Hid (isName s = false) := by
          unfold Hid isName
          rw [Bool.or_eq_true, decide_eq_true_eq, decide_eq_true_eq] at hd
          rcases hd with h | h <;> simp [h]
        clear hd
        go_wp2_with fail
        all_goals (go_ret; exact ⟨ret_bool H.out.symm, Fr.refl _ _⟩)
    · have H : Hid (isName s = false) := by unfold Hid isName; simp [h1]
      go_enter Tryz.func82, Tryz.ntmps82
      go_wp2_with fail
      all_goals (go_ret; exact ⟨ret_bool H.out.symm, Fr.refl _ _⟩)
end Go.Proofs.YtbblkknndaoefaaGreatDoor
