/- Slices of ints that are read: In, SameInts; the tape: Fold, Next. -/
import Derived.Test.YtanaompgapiikaaGreatDoorFr
namespace Go.Proofs.YtanaompgapiikaaGreatDoor
open Go.RowKit Go.Maps
set_option linter.unusedVariables false

/-- The slice value (a, l.length, cap) reads in w as the list l of ints. -/
structure Ints (w : World) (a : Option Addr) (cap : Nat) (l : List Int) : Prop where
  len : l.length ≤ cap
  max : cap ≤ maxLen
  wf : ∀ x ∈ l, (Lit.int .i64 x).wf = true
  isNil : a = none → l = [] ∧ cap = 0
  cell : ∀ ad, a = some ad → l ≠ [] → ad.spot = none ∧ ad.block < w.heap.size ∧ ∀ i x, l[i]? = some x → w.cell? ⟨ad.block, ad.off + i, none⟩ = some (.int .i64 x)

theorem Ints.at {w : World} {a : Option Addr} {cap : Nat} {l : List Int} (h : Ints w a cap l) {k : Nat} (hk : k < l.length) :
    ∃ b off x, a = some ⟨b, off, none⟩ ∧ l[k]? = some x ∧ w.cell? ⟨b, off + k, none⟩ = some (.int .i64 x) := by
  cases a with
  | none => obtain ⟨rfl, _⟩ := h.isNil rfl; simp at hk
  | some ad =>
    obtain ⟨b, off, sp⟩ := ad
    obtain ⟨h1, h2, h3⟩ := h.cell _ rfl (by intro e; subst e; simp at hk)
    simp at h1; subst h1
    exact ⟨b, off, l[k], rfl, by simp [hk], h3 k _ (by simp [hk])⟩

theorem Ints.lenmax {w : World} {a : Option Addr} {cap : Nat} {l : List Int} (h : Ints w a cap l) : l.length ≤ 9223372036854775807 := by
  have h1 := h.len; have h2 := h.max; unfold maxLen at h2; omega

theorem Ints.fr {S : Nat → Prop} {w w' : World} {a : Option Addr} {cap : Nat} {l : List Int} (h : Ints w a cap l) (hf : Fr S w w') (hS : ∀ ad, a = some ad → l ≠ [] → ¬ S ad.block) : Ints w' a cap l :=
  ⟨h.len, h.max, h.wf, h.isNil, fun ad e hne => by
    obtain ⟨h1, h2, h3⟩ := h.cell ad e hne
    exact ⟨h1, Nat.lt_of_lt_of_le h2 hf.size, fun i x hi => hf.cell (h3 i x hi) (hS ad e hne)⟩⟩

theorem Ints.no {S : Nat → Prop} {w w' : World} {a : Option Addr} {cap : Nat} {l : List Int} (h : Ints w a cap l) (hf : Fr S w w') (hS : ∀ k, ¬ S k) : Ints w' a cap l := h.fr hf (fun _ _ _ => hS _)

theorem Ints.from {w w' : World} {a : Option Addr} {cap : Nat} {l : List Int} (h : Ints w a cap l) (hf : Fr (From w.heap.size) w w') : Ints w' a cap l :=
  h.fr hf (fun ad e hne hS => by have := (h.cell ad e hne).2.1; unfold From at hS; omega)

theorem Ints.from_at {w w' : World} {a : Option Addr} {cap : Nat} {l : List Int} (h : Ints w a cap l) (hf : Fr (From w.heap.size) w w') {k : Nat} (hk : k < l.length) :
    ∃ b off x, a = some ⟨b, off, none⟩ ∧ l[k]? = some x ∧ w'.cell? ⟨b, off + k, none⟩ = some (.int .i64 x) ∧ ¬ From w.heap.size b := by
  obtain ⟨b, off, x, rfl, hx, hc⟩ := (h.from hf).at hk
  refine ⟨b, off, x, rfl, hx, hc, ?_⟩
  have := (h.cell _ rfl (by intro e; subst e; simp at hk)).2.1
  unfold From; simp at this; omega

theorem Ints.nil (w : World) : Ints w none 0 [] := ⟨by simp, by simp, by simp, fun _ => ⟨rfl, rfl⟩, fun _ e _ => by cases e⟩

/-- A row of the call's own, as a slice of ints that is read. -/
theorem Ints.of_own {w : World} {base : Nat} {e : TypeId} {v : Value} {l : List Int} (h : w.ownsRow base e 1 v l.length (l.map (Value.int .i64))) (hw : ∀ x ∈ l, (Lit.int .i64 x).wf = true) :
    ∃ a cap, v = .slice a l.length cap ∧ Ints w a cap l ∧ ∀ ad, a = some ad → base ≤ ad.block := by
  obtain ⟨_, ⟨rfl, h2⟩ | ⟨g, cap, cur, rfl, hg, hb, h1, h2, h3, h4⟩⟩ := h
  · have : l = [] := List.eq_nil_of_length_eq_zero h2
    subst this
    exact ⟨none, 0, rfl, Ints.nil w, fun _ e => by cases e⟩
  · refine ⟨some ⟨g, 0, none⟩, cap, rfl, ⟨h1, h2, hw, (fun e => by cases e), ?_⟩, fun ad e => by cases e; exact hg⟩
    intro ad e hne
    cases e
    refine ⟨rfl, lt_of_block hb, fun i x hi => ?_⟩
    rw [cell_of_block hb]
    simp only [Nat.zero_add]
    have hlt : i < l.length := (List.getElem?_eq_some_iff.1 hi).1
    have e1 : (cur.toList.take (l.length * 1))[i]? = (l.map (Value.int .i64))[i]? := by rw [h4]
    rw [List.getElem?_take_of_lt (by omega)] at e1
    rw [← Array.getElem?_toList, e1]
    simp [hi]

theorem ret_bool {a b : Bool} (h : a = b) : Ending.returned (.bool a) = .returned (.bool b) := by rw [h]
theorem ret_int {k : IntKind} {a b : Int} (h : a = b) : Ending.returned (.int k a) = .returned (.int k b) := by rw [h]

theorem take_succ_mem {l : List Int} {k : Nat} {x : Int} (h : l[k]? = some x) : l.take (k + 1) = l.take k ++ [x] := by
  rw [List.take_add_one, h]; rfl

set_option maxHeartbeats 400000 in
theorem ints_in (a : Option Addr) (cap : Nat) (l : List Int) (n : Int) (w : World) (hl : Ints w a cap l) :
    Calls Tryz.prog 33 #[.slice a l.length cap, .int .i64 n] w fun e w' => e = .returned (.bool (decide (n ∈ l))) ∧ w = w' := by
  have hm := hl.lenmax
  go_enter Tryz.func33, Tryz.ntmps33
  go_wp2
  go_loop [5] (fun i => ∃ k : Nat, k ≤ l.length ∧ i = .int .i64 k ∧ Hid (n ∉ l.take k)) (fun i => l.length - (intOf i).toNat)
  case atStart => exact ⟨0, by omega, rfl, by unfold Hid; simp⟩
  case round =>
    obtain ⟨k, hk, rfl, hno⟩ := hrel
    by_cases hlt : k < l.length
    · obtain ⟨b, off, x, rfl, hx, hc⟩ := hl.at hlt
      have Hx := Lib.hid hx
      clear hx
      by_cases hxn : x = n
      · subst hxn
        have hb : (x == x) = true := by simp
        go_wp2
        go_ret
        exact ⟨ret_bool (a := true) (decide_eq_true (List.mem_of_getElem? Hx.out)).symm, rfl⟩
      · have hb : (x == n) = false := by simpa using hxn
        go_wp2
        go_round
        case rel => exact ⟨k + 1, by omega, by go_num, by unfold Hid; rw [take_succ_mem Hx.out]; intro h; rcases List.mem_append.1 h with h | h; exact hno.out h; simp at h; exact hxn h.symm⟩
        case measure => simp [intOf]; omega
    · go_wp2
      go_ret
      have h := hno.out
      rw [List.take_of_length_le (by omega)] at h
      exact ⟨ret_bool (a := false) (decide_eq_false h).symm, rfl⟩

set_option maxHeartbeats 400000 in
theorem ints_same (a a' : Option Addr) (cap cap' : Nat) (l l' : List Int) (w : World) (hl : Ints w a cap l) (hl' : Ints w a' cap' l') :
    Calls Tryz.prog 28 #[.slice a l.length cap, .slice a' l'.length cap'] w fun e w' => e = .returned (.bool (decide (l = l'))) ∧ Fr No w w' := by
  have hm := hl.lenmax
  have hm' := hl'.lenmax
  by_cases hne : l.length = l'.length
  · have hb : ((l.length : Int) != (l'.length : Int)) = false := by simp [hne]
    go_enter Tryz.func28, Tryz.ntmps28
    have Hne := Lib.hid hne
    clear hne
    go_wp2
    go_loopw [5] (fun i wr => ∃ k : Nat, k ≤ l.length ∧ i = .int .i64 k ∧ Hid (l.take k = l'.take k) ∧ Fr No w wr) (fun i _ => l.length - (intOf i).toNat)
    case atStart => exact ⟨0, by omega, rfl, by unfold Hid; simp, Fr.refl _ _⟩
    case round =>
      obtain ⟨k, hk, rfl, hno, hfr⟩ := hrel
      have hl := hl.no hfr (fun _ h => h)
      have hl' := hl'.no hfr (fun _ h => h)
      by_cases hlt : k < l.length
      · obtain ⟨b, off, x, rfl, hx, hc⟩ := hl.at hlt
        have Hx := Lib.hid hx
        clear hx
        have hlt' : k < l'.length := by have := Hne.out; omega
        obtain ⟨b', off', x', rfl, hx', hc'⟩ := hl'.at hlt'
        have Hx' := Lib.hid hx'
        clear hx'
        by_cases hxn : x = x'
        · subst hxn
          have hb : (x != x) = false := by simp
          go_wp2
          go_quiet (fail)
          go_wp2
          go_roundw
          case rel => exact ⟨k + 1, by omega, by go_num, by unfold Hid; rw [take_succ_mem Hx.out, take_succ_mem Hx'.out, hno.out], hfr.drewN _⟩
          case measure => simp [intOf]; omega
        · have hb : (x != x') = true := by simpa using hxn
          go_wp2
          go_quiet (fail)
          go_wp2
          go_ret
          refine ⟨ret_bool (a := false) (decide_eq_false ?_).symm, hfr.drewN _⟩
          rintro rfl
          have h1 := Hx.out
          rw [Hx'.out] at h1
          exact hxn (Option.some.inj h1).symm
      · go_wp2
        go_ret
        have h := hno.out
        rw [List.take_of_length_le (by omega), List.take_of_length_le (by have := Hne.out; omega)] at h
        exact ⟨ret_bool (a := true) (decide_eq_true h).symm, hfr⟩
  · have hb : ((l.length : Int) != (l'.length : Int)) = true := by simp; omega
    go_enter Tryz.func28, Tryz.ntmps28
    go_wp2
    go_ret
    refine ⟨ret_bool (a := false) (decide_eq_false ?_).symm, Fr.refl _ _⟩
    rintro rfl
    exact hne rfl

/-- A slice of ints that came in, as the guide's shell of a proof tells it. -/
theorem Ints.of_isRow {w : World} {a : Option Addr} {len cap : Nat} {zs : List Int} (h : (a = none ∧ len = 0 ∧ cap = 0 ∧ zs = []) ∨
    ∃ x, a = some x ∧ len ≤ cap ∧ cap ≤ maxLen ∧ zs.length = cap ∧ (∀ i, i < zs.length → w.cell? (x.add i) = some (.int .i64 (zs.getD i 0))) ∧ ∀ n ∈ zs, (Lit.int .i64 n).wf = true) :
    ∃ l : List Int, l.length = len ∧ Ints w a cap l := by
  rcases h with ⟨rfl, rfl, rfl, rfl⟩ | ⟨x, rfl, h1, h2, h3, h4, h5⟩
  · exact ⟨[], rfl, Ints.nil w⟩
  · refine ⟨zs.take len, by simp; omega, by simp; omega, h2, fun x hx => h5 x (List.mem_of_mem_take hx), (fun e => by cases e), ?_⟩
    intro ad e hne
    cases e
    have hpos : 0 < zs.length := by
      cases zs with
      | nil => simp at hne
      | cons _ _ => simp
    have h0 := h4 0 hpos
    have hsp : x.spot = none := by simpa [Addr.add] using World.cell?_spot h0
    obtain ⟨b, off, sp⟩ := x
    simp at hsp
    subst hsp
    refine ⟨rfl, ?_, fun i y hi => ?_⟩
    · unfold World.cell? at h0
      simp only [Addr.add] at h0
      cases hh : w.heap[b]? with
      | none => simp [hh] at h0
      | some o => exact (Array.getElem?_eq_some_iff.1 hh).1
    · have hlt : i < (zs.take len).length := (List.getElem?_eq_some_iff.1 hi).1
      have h6 := h4 i (by simp at hlt; omega)
      rw [List.getElem?_take_of_lt (by simp at hlt; omega)] at hi
      rw [List.getD_eq_getElem?_getD, hi] at h6
      rw [Addr.add_lit] at h6
      simpa using h6

/-- Fold returns a number from 0 to n - 1. -/
theorem fold_any (v n : Int) (w : World) (h1 : 1 ≤ n) (h2 : n ≤ 4294967296) (hv : (Lit.int .i64 v).wf = true) :
    Calls Tryz.prog 46 #[.int .i64 v, .int .i64 n] w fun e w' => ∃ r, e = .returned (.int .i64 r) ∧ 0 ≤ r ∧ r < n ∧ w = w' := by
  by_cases h : n ≤ 1
  · go_enter Tryz.func46, Tryz.ntmps46
    go_wp2
    go_ret
    exact ⟨_, rfl, by omega, by omega, rfl⟩
  · have hlo : -n < v.tmod n := by have := Int.lt_tmod_of_pos v (b := n) (by omega); omega
    have hhi : v.tmod n < n := Int.tmod_lt_of_pos v (by omega)
    by_cases hneg : v.tmod n < 0
    · go_enter Tryz.func46, Tryz.ntmps46
      go_wp2
      go_ret
      exact ⟨_, rfl, by omega, by omega, rfl⟩
    · go_enter Tryz.func46, Tryz.ntmps46
      go_wp2
      go_ret
      exact ⟨_, rfl, by omega, by omega, rfl⟩

/-- Block tb is a tape that has read k numbers; its list lies below block B. -/
def Tape (w : World) (B tb k : Nat) : Prop :=
  ∃ a cap l T, Ints w a cap l ∧ (∀ ad, a = some ad → l ≠ [] → ad.block < B) ∧ B ≤ tb ∧ w.heap[tb]? = some (.cells #[.slice a l.length cap, .int .i64 (k : Int)] T (0, 0))

theorem Tape.lt {w : World} {B tb k : Nat} (h : Tape w B tb k) : tb < w.heap.size := by
  obtain ⟨a, cap, l, T, _, _, _, hb⟩ := h; exact lt_of_block hb
theorem Tape.le {w : World} {B tb k : Nat} (h : Tape w B tb k) : B ≤ tb := by
  obtain ⟨a, cap, l, T, _, _, h, _⟩ := h; exact h
theorem Tape.fr {S : Nat → Prop} {w w' : World} {B tb k : Nat} (h : Tape w B tb k) (hf : Fr S w w') (hS : ∀ b, b < B → ¬ S b) (ht : ¬ S tb) : Tape w' B tb k := by
  obtain ⟨a, cap, l, T, h1, h2, h3, hb⟩ := h
  exact ⟨a, cap, l, T, h1.fr hf (fun ad e hne => hS _ (h2 ad e hne)), h2, h3, hf.heap hb ht⟩

set_option maxHeartbeats 1000000 in
theorem tape_next (B tb k : Nat) (n : Int) (w : World) (ht : Tape w B tb k) (hk : k ≤ 1000000000000) (h1 : 1 ≤ n) (h2 : n ≤ 4294967296) :
    Calls Tryz.prog 26 #[.pointer (some ⟨tb, 0, none⟩), .int .i64 n] w fun e w' => ∃ r, e = .returned (.int .i64 r) ∧ 0 ≤ r ∧ r < n ∧ Tape w' B tb (k + 1) ∧ Fr (Is tb) w w' := by
  obtain ⟨a, cap, l, T, hl, ha, hB, hb⟩ := ht
  have c0 : w.cell? ⟨tb, 0, none⟩ = some (.slice a l.length cap) := by rw [cell_of_block hb]; rfl
  have c1 : w.cell? ⟨tb, 1, none⟩ = some (.int .i64 (k : Int)) := by rw [cell_of_block hb]; rfl
  have f1 : w.frozen? ⟨tb, 1, none⟩ = false := free_of_block hb 1
  have hm := hl.lenmax
  have hend : ∀ m : Nat, Tape ((w.setCell ⟨tb, 1, none⟩ (.int .i64 ((k : Int) + 1))).drewN m) B tb (k + 1) ∧ Fr (Is tb) w ((w.setCell ⟨tb, 1, none⟩ (.int .i64 ((k : Int) + 1))).drewN m) := fun m => by
    have hf : Fr (Is tb) w ((w.setCell ⟨tb, 1, none⟩ (.int .i64 ((k : Int) + 1))).drewN m) := (Fr.setCell (S := Is tb) (p := ⟨tb, 1, none⟩) (Fr.refl _ _) (fun _ => rfl) _).drewN m
    refine ⟨⟨a, cap, l, T, hl.fr hf (fun ad e hne h => by have := ha ad e hne; unfold Is at h; omega), ha, hB, ?_⟩, hf⟩
    show (w.setCell ⟨tb, 1, none⟩ (.int .i64 ((k : Int) + 1))).heap[tb]? = _
    rw [block_setCell hb]; rfl
  have Hend := Lib.hid hend
  clear hend
  by_cases hlt : k < l.length
  · obtain ⟨b, off, x, rfl, hx, hc⟩ := hl.at hlt
    have Hx := Lib.hid (hl.wf x (List.mem_of_getElem? hx))
    have hlt' : (k : Int) < l.length := by omega
    clear hx
    go_enter Tryz.func26, Tryz.ntmps26
    go_wp2_with fail
    go_quiet (fail)
    go_wp2_with fail
    go_quiet (fail)
    go_wp2_with fail
    refine (fold_any _ n _ h1 h2 Hx.out).mono ?_
    rintro e w1 ⟨r, rfl, hr1, hr2, rfl⟩
    go_wp2_with fail
    go_ret
    exact ⟨r, rfl, hr1, hr2, Hend.out _⟩
  · have hlt' : ¬ (k : Int) < l.length := by omega
    go_enter Tryz.func26, Tryz.ntmps26
    go_wp2_with fail
    go_quiet (fail)
    go_wp2_with fail
    refine (fold_any _ n _ h1 h2 (WalkArith.wf_i64 (by omega))).mono ?_
    rintro e w1 ⟨r, rfl, hr1, hr2, rfl⟩
    go_wp2_with fail
    go_ret
    exact ⟨r, rfl, hr1, hr2, Hend.out _⟩
end Go.Proofs.YtanaompgapiikaaGreatDoor
