/- Devices in memory: slices of api.Device that are read. index, Find. Texts: in, Printable, Valid, Text, Interface: each returns some truth value and leaves the world. name.Valid and coldplugref01.Valid: the same test. Trees as lists of devices: looking up, chains, origins, and what an insertion keeps. Plain laws. -/
import Derived.Test.YtcibciippghooaaGreatDoorZL2
import Derived.Test.YtcibciippghooaaGreatDoorStrs
import Derived.Lib.IndexAny
import Derived.Laws.Rows
namespace Go.Proofs.YtcibciippghooaaGreatDoor
open Go.RowKit
set_option linter.unusedVariables false

structure Dev where
  index : Int
  parent : Int
  name : ByteArray
  orig : ByteArray
  sub : ByteArray
  drv : ByteArray
  ali : ByteArray
  kind : Int
  num : Int
  aa : Option Addr
  an : Nat
  ac : Nat

def Dev.cell (d : Dev) : Nat → Value
  | 0 => .int .i64 d.index
  | 1 => .int .i64 d.parent
  | 2 => .string d.name
  | 3 => .string d.orig
  | 4 => .string d.sub
  | 5 => .string d.drv
  | 6 => .string d.ali
  | 7 => .int .i64 d.kind
  | 8 => .int .i64 d.num
  | _ => .slice d.aa d.an d.ac
def Dev.vals (d : Dev) : Array Value := #[.int .i64 d.index, .int .i64 d.parent, .string d.name, .string d.orig, .string d.sub, .string d.drv, .string d.ali, .int .i64 d.kind, .int .i64 d.num, .slice d.aa d.an d.ac]
def Dev.zero : Dev := ⟨0, 0, ByteArray.empty, ByteArray.empty, ByteArray.empty, ByteArray.empty, ByteArray.empty, 0, 0, none, 0, 0⟩

/-- A slice of devices: its elements are 'ds'. -/
structure Devs (w : World) (a : Option Addr) (cap : Nat) (ds : List Dev) : Prop where
  len : ds.length ≤ cap
  max : cap ≤ maxLen
  isNil : a = none → ds = [] ∧ cap = 0
  cell : ∀ ad, a = some ad → ds ≠ [] → ad.spot = none ∧ ad.block < w.heap.size ∧ ∀ i d, ds[i]? = some d → ∀ j, j < 10 → w.cell? ⟨ad.block, ad.off + (i * 10 + j), none⟩ = some (d.cell j)

theorem Devs.at {w : World} {a : Option Addr} {cap : Nat} {ds : List Dev} (h : Devs w a cap ds) {k : Nat} (hk : k < ds.length) :
    ∃ b off d, a = some ⟨b, off, none⟩ ∧ ds[k]? = some d ∧ ∀ j, j < 10 → w.cell? ⟨b, off + (k * 10 + j), none⟩ = some (d.cell j) := by
  cases a with
  | none => obtain ⟨rfl, _⟩ := h.isNil rfl; simp at hk
  | some ad =>
    obtain ⟨b, off, sp⟩ := ad
    obtain ⟨h1, h2, h3⟩ := h.cell _ rfl (by intro e; subst e; simp at hk)
    simp at h1; subst h1
    exact ⟨b, off, ds[k], rfl, List.getElem?_eq_getElem hk, h3 k _ (List.getElem?_eq_getElem hk)⟩
/-- The ten cells of a device at (b, o). -/
structure DevAt (w : World) (b o : Nat) (d : Dev) : Prop where
  c0 : w.cell? ⟨b, o, none⟩ = some (.int .i64 d.index)
  c1 : w.cell? ⟨b, o + 1, none⟩ = some (.int .i64 d.parent)
  c2 : w.cell? ⟨b, o + 2, none⟩ = some (.string d.name)
  c3 : w.cell? ⟨b, o + 3, none⟩ = some (.string d.orig)
  c4 : w.cell? ⟨b, o + 4, none⟩ = some (.string d.sub)
  c5 : w.cell? ⟨b, o + 5, none⟩ = some (.string d.drv)
  c6 : w.cell? ⟨b, o + 6, none⟩ = some (.string d.ali)
  c7 : w.cell? ⟨b, o + 7, none⟩ = some (.int .i64 d.kind)
  c8 : w.cell? ⟨b, o + 8, none⟩ = some (.int .i64 d.num)
  c9 : w.cell? ⟨b, o + 9, none⟩ = some (.slice d.aa d.an d.ac)
theorem Devs.dev {w : World} {a : Option Addr} {cap : Nat} {ds : List Dev} (h : Devs w a cap ds) {k : Nat} (hk : k < ds.length) :
    ∃ b off d, a = some ⟨b, off, none⟩ ∧ ds[k]? = some d ∧ DevAt w b (off + k * 10) d := by
  obtain ⟨b, off, d, ha, hd, hc⟩ := h.at hk
  refine ⟨b, off, d, ha, hd, ?_⟩
  exact ⟨hc 0 (by omega), hc 1 (by omega), hc 2 (by omega), hc 3 (by omega), hc 4 (by omega), hc 5 (by omega), hc 6 (by omega), hc 7 (by omega), hc 8 (by omega), hc 9 (by omega)⟩
theorem Devs.lenmax {w : World} {a : Option Addr} {cap : Nat} {ds : List Dev} (h : Devs w a cap ds) : ds.length ≤ 9223372036854775807 := by
  have h1 := h.len; have h2 := h.max; unfold maxLen at h2; omega
theorem Devs.fr {S : Nat → Prop} {w w' : World} {a : Option Addr} {cap : Nat} {ds : List Dev} (h : Devs w a cap ds) (hf : Fr S w w') (hS : ∀ ad, a = some ad → ds ≠ [] → ¬ S ad.block) : Devs w' a cap ds :=
  ⟨h.len, h.max, h.isNil, fun ad e hne => by
    obtain ⟨h1, h2, h3⟩ := h.cell ad e hne
    exact ⟨h1, Nat.lt_of_lt_of_le h2 hf.size, fun i d hi j hj => hf.cell (h3 i d hi j hj) (hS ad e hne)⟩⟩
theorem Devs.no {S : Nat → Prop} {w w' : World} {a : Option Addr} {cap : Nat} {ds : List Dev} (h : Devs w a cap ds) (hf : Fr S w w') (hS : ∀ k, ¬ S k) : Devs w' a cap ds := h.fr hf (fun _ _ _ => hS _)
theorem Devs.nil (w : World) : Devs w none 0 [] := ⟨by simp, by simp, fun _ => ⟨rfl, rfl⟩, fun _ e _ => by cases e⟩

/-- Where the device with an Index stands, or -1. -/
def place : List Dev → Int → Int
  | [], _ => -1
  | d :: t, n => if d.index = n then 0 else if place t n < 0 then -1 else place t n + 1

theorem place_lo : ∀ (ds : List Dev) (n : Int), -1 ≤ place ds n ∧ place ds n < ds.length
  | [], n => by simp [place]
  | d :: t, n => by
    have := place_lo t n
    unfold place
    split
    · simp only [List.length_cons]; omega
    · split <;> simp only [List.length_cons] <;> omega
theorem place_take : ∀ (ds : List Dev) (n : Int) (k : Nat) (d : Dev), ds[k]? = some d → d.index = n → (∀ x ∈ ds.take k, x.index ≠ n) → place ds n = k
  | [], n, k, d, h, _, _ => by simp at h
  | x :: t, n, 0, d, h, e, _ => by simp at h; subst h; simp [place, e]
  | x :: t, n, k + 1, d, h, e, hn => by
    have h1 : x.index ≠ n := hn x (by simp)
    have h2 := place_take t n k d (by simpa using h) e (fun y hy => hn y (by simp [hy]))
    unfold place
    rw [if_neg h1, h2]
    split <;> omega
theorem place_none : ∀ (ds : List Dev) (n : Int), (∀ x ∈ ds, x.index ≠ n) → place ds n = -1
  | [], n, _ => rfl
  | x :: t, n, h => by
    unfold place
    rw [if_neg (h x (by simp)), place_none t n (fun y hy => h y (by simp [hy]))]
    simp

/-- The device with an Index, or the zero device. -/
def devOf (ds : List Dev) (n : Int) : Dev := if place ds n < 0 then Dev.zero else (ds[(place ds n).toNat]?).getD Dev.zero

end Go.Proofs.YtcibciippghooaaGreatDoor
/- A device stored over ten cells. -/
namespace Go.Proofs.YtcibciippghooaaGreatDoor
open Go.RowKit
set_option linter.unusedVariables false

theorem Fr.setAt {b i : Nat} {a w : World} (h : Fr (Is b) a w) (v : Value) : Fr (Is b) a (w.setCell ⟨b, i, none⟩ v) := h.setCell (p := ⟨b, i, none⟩) (fun _ => rfl) v
/-- A device stored over ten cells. -/
theorem set10 {W : World} {b : Nat} {cs : Array Value} {T : TypeId} (h : W.heap[b]? = some (.cells cs T)) (hs : cs.size = 10) (p : Dev) :
    ((((((((((W.setCell ⟨b, 0, none⟩ (.int .i64 p.index)).setCell ⟨b, 1, none⟩ (.int .i64 p.parent)).setCell ⟨b, 2, none⟩ (.string p.name)).setCell ⟨b, 3, none⟩ (.string p.orig)).setCell ⟨b, 4, none⟩ (.string p.sub)).setCell ⟨b, 5, none⟩ (.string p.drv)).setCell ⟨b, 6, none⟩ (.string p.ali)).setCell ⟨b, 7, none⟩ (.int .i64 p.kind)).setCell ⟨b, 8, none⟩ (.int .i64 p.num)).setCell ⟨b, 9, none⟩ (.slice p.aa p.an p.ac)).heap[b]? = some (.cells p.vals T) ∧ Fr (Is b) W ((((((((((W.setCell ⟨b, 0, none⟩ (.int .i64 p.index)).setCell ⟨b, 1, none⟩ (.int .i64 p.parent)).setCell ⟨b, 2, none⟩ (.string p.name)).setCell ⟨b, 3, none⟩ (.string p.orig)).setCell ⟨b, 4, none⟩ (.string p.sub)).setCell ⟨b, 5, none⟩ (.string p.drv)).setCell ⟨b, 6, none⟩ (.string p.ali)).setCell ⟨b, 7, none⟩ (.int .i64 p.kind)).setCell ⟨b, 8, none⟩ (.int .i64 p.num)).setCell ⟨b, 9, none⟩ (.slice p.aa p.an p.ac)) := by
  refine ⟨?_, Fr.setAt (Fr.setAt (Fr.setAt (Fr.setAt (Fr.setAt (Fr.setAt (Fr.setAt (Fr.setAt (Fr.setAt (Fr.setAt (Fr.refl _ _) _) _) _) _) _) _) _) _) _) _⟩
  obtain ⟨l⟩ := cs
  match l, hs with
  | [_, _, _, _, _, _, _, _, _, _], _ =>
    have h0 := block_setCell h 0 (.int .i64 p.index)
    have h1 := block_setCell h0 1 (.int .i64 p.parent)
    have h2 := block_setCell h1 2 (.string p.name)
    have h3 := block_setCell h2 3 (.string p.orig)
    have h4 := block_setCell h3 4 (.string p.sub)
    have h5 := block_setCell h4 5 (.string p.drv)
    have h6 := block_setCell h5 6 (.string p.ali)
    have h7 := block_setCell h6 7 (.int .i64 p.kind)
    have h8 := block_setCell h7 8 (.int .i64 p.num)
    have h9 := block_setCell h8 9 (.slice p.aa p.an p.ac)
    simp only [List.setIfInBounds_toArray, List.set_cons_zero, List.set_cons_succ] at h9
    exact h9
/-- A text as a name is: no longer than 32 bytes, and without a slash. -/
def OkN (s : ByteArray) : Prop := s.size ≤ 32 ∧ ∀ b ∈ s.data.toList, b ≠ 47
end Go.Proofs.YtcibciippghooaaGreatDoor
namespace Go.Proofs.YtcibciippghooaaGreatDoor
open Go.RowKit
set_option linter.unusedVariables false

/-- Some truth value is returned. -/
def RetB (e : Ending) : Prop := ∃ b, e = .returned (.bool b)
theorem RetB.mk (b : Bool) : RetB (.returned (.bool b)) := ⟨b, rfl⟩
/-- A truth value is returned; if it is true, then p. -/
def RetIf (p : Prop) (e : Ending) : Prop := ∃ b, e = .returned (.bool b) ∧ (b = true → p)
theorem RetIf.no (p : Prop) : RetIf p (.returned (.bool false)) := ⟨false, rfl, fun h => by cases h⟩
theorem RetIf.yes {p : Prop} (h : p) (b : Bool) : RetIf p (.returned (.bool b)) := ⟨b, rfl, fun _ => h⟩

def inSet (s set : ByteArray) : Bool := s.data.toList.all set.data.toList.contains
def nameBA : ByteArray := ⟨#[65, 66, 67, 68, 69, 70, 71, 72, 73, 74, 75, 76, 77, 78, 79, 80, 81, 82, 83, 84, 85, 86, 87, 88, 89, 90, 97, 98, 99, 100, 101, 102, 103, 104, 105, 106, 107, 108, 109, 110, 111, 112, 113, 114, 115, 116, 117, 118, 119, 120, 121, 122, 48, 49, 50, 51, 52, 53, 54, 55, 56, 57, 95, 46, 58, 43, 45, 33]⟩
/-- A name. -/
def isName (s : ByteArray) : Bool := !decide (s.toList = []) && decide (s.size ≤ 32) && inSet s nameBA && !decide (s.toList = [46]) && !decide (s.toList = [46, 46])
theorem all_take_succ (p : UInt8 → Bool) (l : List UInt8) (k : Nat) (x : UInt8) (h : l[k]? = some x) (h1 : (l.take k).all p = true) (h2 : p x = true) : (l.take (k + 1)).all p = true := by
  rw [List.take_add_one, h, List.all_append, h1]
  simp [h2]
theorem all_no (p : UInt8 → Bool) (l : List UInt8) (k : Nat) (x : UInt8) (h : l[k]? = some x) (h2 : p x = false) : l.all p = false := by
  rw [List.all_eq_false]
  exact ⟨x, List.mem_of_getElem? h, by simp [h2]⟩

theorem isName_ok {s : ByteArray} (h : isName s = true) : OkN s := by
  unfold isName at h
  simp only [Bool.and_eq_true, decide_eq_true_eq] at h
  obtain ⟨⟨⟨⟨_, h1⟩, h2⟩, _⟩, _⟩ := h
  refine ⟨h1, fun b hb e => ?_⟩
  unfold inSet at h2
  rw [List.all_eq_true] at h2
  have := h2 b hb
  subst e
  revert this
  decide
end Go.Proofs.YtcibciippghooaaGreatDoor
namespace Go.Proofs.YtcibciippghooaaGreatDoor
open Go.RowKit
set_option linter.unusedVariables false

/-- A set of bytes as a value: 256 truth values. -/
def bits (f : UInt8 → Bool) : Array Value := Array.ofFn (n := 256) fun i => .bool (f (UInt8.ofNat i.val))
def allB (f : UInt8 → Bool) (s : ByteArray) : Bool := s.data.toList.all f
theorem bits_size (f : UInt8 → Bool) : (bits f).size = 256 := by simp [bits]
theorem bits_one (g : UInt8 → Bool) : (bits g).all (·.oneCell') = true := by
  rw [Array.all_eq_true_iff_forall_mem]
  intro v hv
  obtain ⟨i, rfl⟩ := (Array.mem_ofFn).1 hv
  rfl
theorem bits_at (f : UInt8 → Bool) (c : UInt8) : (bits f)[c.toNat]? = some (.bool (f c)) := by
  have : c.toNat < 256 := c.toNat_lt
  rw [Array.getElem?_eq_getElem (by rw [bits_size]; exact this)]
  simp [bits]
theorem bits_set (f : UInt8 → Bool) (c : UInt8) : (bits f).setIfInBounds c.toNat (.bool true) = bits (fun x => f x || x == c) := by
  have : c.toNat < 256 := c.toNat_lt
  apply Array.ext
  · simp [bits_size]
  · intro i h1 h2
    rw [bits_size] at h2
    rw [Array.getElem_setIfInBounds (by rw [bits_size]; exact h2)]
    simp only [bits, Array.getElem_ofFn]
    by_cases e : c.toNat = i
    · subst e; simp
    · rw [if_neg e]
      have : (UInt8.ofNat i == c) = false := by
        rw [beq_eq_false_iff_ne]; intro h; subst h; apply e; simp; omega
      rw [this, Bool.or_false]

set_option maxRecDepth 100000 in
set_option maxHeartbeats 1000000 in
theorem nset_has (f : UInt8 → Bool) (s : ByteArray) (w : World) (hs : s.size ≤ maxLen) :
    Calls Tryz.prog 108 #[.agg (bits f), .string s] w fun e w' => e = .returned (.bool (allB f s)) ∧ Fr No w w' := by
  have hm : s.size ≤ 9223372036854775807 := by unfold maxLen at hs; omega
  have hx : Fr No w (w.alloc (.cells (bits f) 157)) := (Fr.refl _ _).alloc _
  have hb := block_alloc w (.cells (bits f) 157)
  have c0 : ∀ c : UInt8, (w.alloc (.cells (bits f) 157)).cell? ⟨w.heap.size, c.toNat, none⟩ = some (.bool (f c)) := fun c => (cell_of_block hb _).trans (bits_at f c)
  go_enter Tryz.func108, Tryz.ntmps108
  go_wp2
  generalize w.alloc (.cells (bits f) 157) = W0 at *
  go_loop [8] (fun i => ∃ k : Nat, k ≤ s.size ∧ i = .int .i64 k ∧ Hid ((s.data.toList.take k).all f = true)) (fun i => s.size - (intOf i).toNat)
  case atStart => exact ⟨0, by omega, rfl, by unfold Hid; simp⟩
  case round =>
    obtain ⟨k, hk, rfl, hno⟩ := hrel
    by_cases hlt : k < s.size
    · have hx' : s.data.toList[k]? = some s[k] := by
        rw [Array.getElem?_toList]; exact Array.getElem?_eq_getElem (by simpa using hlt)
      have Hx := Lib.hid hx'
      have hc1 : ((s[k].toNat : Nat) : Int) < 256 := by have := s[k].toNat_lt; omega
      have hc := c0 s[k]
      rcases hq : f s[k] with _ | _
      · rw [hq] at hc
        have Hq := Lib.hid hq
        clear hq hx' c0
        go_wp2
        go_ret
        exact ⟨ret_bool (all_no _ _ _ _ Hx.out Hq.out).symm, hx⟩
      · rw [hq] at hc
        have Hq := Lib.hid hq
        clear hq hx' c0
        go_wp2
        go_round
        case rel => exact ⟨k + 1, by omega, by go_num, all_take_succ _ _ _ _ Hx.out hno.out Hq.out⟩
        case measure => simp [intOf]; omega
    · go_wp2
      go_ret
      refine ⟨ret_bool ?_, hx⟩
      have := hno.out
      rw [List.take_of_length_le (by simp; omega)] at this
      unfold allB
      rw [this]

set_option maxRecDepth 100000 in
set_option maxHeartbeats 1000000 in
theorem nset_plus (f : UInt8 → Bool) (s : ByteArray) (w : World) (hs : s.size ≤ maxLen) :
    Calls Tryz.prog 107 #[.agg (bits f), .string s] w fun e w' => e = .returned (.agg (bits fun c => f c || s.data.toList.contains c)) ∧ Fr No w w' := by
  have hm : s.size ≤ 9223372036854775807 := by unfold maxLen at hs; omega
  have hx : Fr No w (w.alloc (.cells (bits f) 157)) := (Fr.refl _ _).alloc _
  have hb := block_alloc w (.cells (bits f) 157)
  have hi : (Tryz.prog.info? 157).map (·.size) = some 256 := by kernel_rfl
  have hz : Tryz.zeroCells157.size = 256 := by kernel_rfl
  have p0 := block_alloc1 w (.cells (bits f) 157) (.cells Tryz.zeroCells157 157)
  have p1 := block_alloc2 w (.cells (bits f) 157) (.cells Tryz.zeroCells157 157)
  have h2 : Fr No w ((w.alloc (.cells (bits f) 157)).alloc (.cells Tryz.zeroCells157 157)) := hx.alloc _
  clear hx hb
  go_enter Tryz.func107, Tryz.ntmps107
  go_wp2
  generalize (w.alloc (.cells (bits f) 157)).alloc (.cells Tryz.zeroCells157 157) = W0 at *
  go_loopw [8] (fun i wr => ∃ k : Nat, k ≤ s.size ∧ i = .int .i64 k ∧ Hid (wr.heap[w.heap.size]? = some (.cells (bits fun c => f c || (s.data.toList.take k).contains c) 157)) ∧ Hid (wr.heap[w.heap.size + 1]? = some (.cells Tryz.zeroCells157 157)) ∧ Fr No w wr) (fun i _ => s.size - (intOf i).toNat)
  case atStart => exact ⟨0, by omega, rfl, by unfold Hid; simpa using p0, p1, h2⟩
  case round =>
    obtain ⟨k, hk, rfl, hb0, hb1, hfr⟩ := hrel
    clear p0 p1 h2
    by_cases hlt : k < s.size
    · have hx' : s.data.toList[k]? = some s[k] := by
        rw [Array.getElem?_toList]; exact Array.getElem?_eq_getElem (by simpa using hlt)
      have Hx := Lib.hid hx'
      have hc1 : ((s[k].toNat : Nat) : Int) < 256 := by have := s[k].toNat_lt; omega
      have c0 := (cell_of_block hb0.out s[k].toNat).trans (bits_at _ _)
      have f0 := free_of_block hb0.out s[k].toNat
      have hfr1 : Fr No w (wr.setCell ⟨w.heap.size, s[k].toNat, none⟩ (.bool true)) := hfr.setCell (by simp) _
      have q0 := block_setCell hb0.out s[k].toNat (.bool true)
      rw [bits_set] at q0
      have q1 := (Fr.setAt (Fr.refl (Is w.heap.size) wr) (i := s[k].toNat) (.bool true)).heap hb1.out (fun e => by unfold Is at e; omega)
      have Q := Lib.hid (And.intro q0 (And.intro q1 hfr1))
      clear q0 q1 hfr1 hx'
      go_wp2
      go_roundw
      case rel =>
        refine ⟨k + 1, by omega, by go_num, ?_, Q.out.2.1, Q.out.2.2⟩
        unfold Hid
        rw [Q.out.1, List.take_add_one, Hx.out]
        congr 3
        funext c
        have e : (c == s[k]) = decide (c = s[k]) := by by_cases h : c = s[k] <;> simp [h]
        simp [Bool.or_assoc, e]
      case measure => simp [intOf]; omega
    · obtain rfl : k = s.size := by omega
      have q0 := hb0.out
      rw [List.take_of_length_le (by simp)] at q0
      have q0' := Lib.hid q0
      clear hb0 q0
      go_wp2_with (first
        | (refine wpList_load_row rfl 157 _ rfl w.heap.size rfl 157 _ (0, 0) _ q0'.out Tryz.underlying157 rfl (by rw [bits_size]; exact hi) ?_)
        | (refine wpList_store_row rfl 157 _ _ rfl (w.heap.size + 1) _ rfl rfl 157 _ hb1.out (by rw [bits_size]; exact hi) (by rw [bits_size]; exact hz) (bits_one _) ?_))
      have hg := setRow_heap wr (w.heap.size + 1) _ (bits fun c => f c || s.data.toList.contains c) 157 (0, 0) hb1.out
      refine bodyPost_ret (v := .agg (bits fun c => f c || s.data.toList.contains c)) (results_cell_row rfl _ _ (w.heap.size + 1) 157 _ (0, 0) _ rfl hg Tryz.underlying157 rfl (by rw [bits_size]; exact hi)) rfl ?_
      refine ⟨rfl, hfr.step (T := Is (w.heap.size + 1)) ⟨rfl, rfl, rfl, by simp, fun b _ hb => setRow_other _ _ _ _ (fun e => hb e)⟩ (fun b hb e => by unfold Is at e; omega)⟩

/-- The bytes of names but '!'. -/
def commonF : UInt8 → Bool := fun c => ((((false || [65, 66, 67, 68, 69, 70, 71, 72, 73, 74, 75, 76, 77, 78, 79, 80, 81, 82, 83, 84, 85, 86, 87, 88, 89, 90].contains c) || [97, 98, 99, 100, 101, 102, 103, 104, 105, 106, 107, 108, 109, 110, 111, 112, 113, 114, 115, 116, 117, 118, 119, 120, 121, 122].contains c) || [48, 49, 50, 51, 52, 53, 54, 55, 56, 57].contains c) || [95, 46, 58, 43, 45].contains c)
theorem zero_bits : Tryz.zeroCells157 = bits (fun _ => false) := by kernel_rfl

theorem nset_plus0 (s : ByteArray) (w : World) (hs : s.size ≤ maxLen) :
    Calls Tryz.prog 107 #[.agg Tryz.zeroCells157, .string s] w fun e w' => e = .returned (.agg (bits fun c => false || s.data.toList.contains c)) ∧ Fr No w w' := by
  rw [zero_bits]
  exact nset_plus _ s w hs
def upperBA : ByteArray := ⟨#[65, 66, 67, 68, 69, 70, 71, 72, 73, 74, 75, 76, 77, 78, 79, 80, 81, 82, 83, 84, 85, 86, 87, 88, 89, 90]⟩
theorem lower_upper (w : World) :
    Calls Tryz.prog 144 #[.string ⟨#[65, 66, 67, 68, 69, 70, 71, 72, 73, 74, 75, 76, 77, 78, 79, 80, 81, 82, 83, 84, 85, 86, 87, 88, 89, 90]⟩] w fun e w' => e = .returned (.string ⟨#[97, 98, 99, 100, 101, 102, 103, 104, 105, 106, 107, 108, 109, 110, 111, 112, 113, 114, 115, 116, 117, 118, 119, 120, 121, 122]⟩) ∧ Fr No w w' := by
  have h : ∀ b ∈ upperBA.data.toList, b.toNat < 128 := by decide
  refine (Tryz.strings_ToLower_ascii upperBA w (by decide) (fun j b hb => h b (List.mem_of_getElem? hb))).mono ?_
  rintro e w' ⟨rfl, hb⟩
  exact ⟨by congr 2, Fr.of_below_size hb⟩

set_option maxRecDepth 100000 in
set_option maxHeartbeats 1000000 in
theorem nset_common (w : World) :
    Calls Tryz.prog 106 #[] w fun e w' => e = .returned (.agg (bits commonF)) ∧ Fr No w w' := by
  have hi : (Tryz.prog.info? 157).map (·.size) = some 256 := by kernel_rfl
  have hz : Tryz.zeroCells157.size = 256 := by kernel_rfl
  have h0 : Fr No w (w.alloc (.cells Tryz.zeroCells157 157)) := (Fr.refl _ _).alloc _
  have p0 := block_alloc w (.cells Tryz.zeroCells157 157)
  have P0 := Lib.hid (And.intro p0 h0)
  clear p0 h0
  go_enter Tryz.func106, Tryz.ntmps106
  go_wp2_with fail
  refine (nset_plus0 _ _ (by decide)).mono ?_
  rintro e w1 ⟨rfl, hf1⟩
  go_wp2_with fail
  refine (lower_upper _).mono ?_
  rintro e w2 ⟨rfl, hf2⟩
  go_wp2_with fail
  refine (nset_plus _ _ _ (by decide)).mono ?_
  rintro e w3 ⟨rfl, hf3⟩
  go_wp2_with fail
  refine (nset_plus _ _ _ (by decide)).mono ?_
  rintro e w4 ⟨rfl, hf4⟩
  go_wp2_with fail
  refine (nset_plus _ _ _ (by decide)).mono ?_
  rintro e w5 ⟨rfl, hf5⟩
  have hfr := ((((P0.out.2.step hf1 (fun _ _ h => h)).step hf2 (fun _ _ h => h)).step hf3 (fun _ _ h => h)).step hf4 (fun _ _ h => h)).step hf5 (fun _ _ h => h)
  have p5 := hf5.heap (hf4.heap (hf3.heap (hf2.heap (hf1.heap P0.out.1 id) id) id) id) id
  obtain ⟨F, hF⟩ : ∃ F, F = commonF := ⟨_, rfl⟩
  go_wp2_with (refine wpList_store_row rfl 157 _ _ rfl w.heap.size (bits commonF) rfl rfl 157 _ p5 (by rw [bits_size]; exact hi) (by rw [bits_size]; exact hz) (bits_one _) ?_)
  have hg := setRow_heap w5 w.heap.size _ (bits commonF) 157 (0, 0) p5
  refine bodyPost_ret (v := .agg (bits commonF)) (results_cell_row rfl _ _ w.heap.size 157 _ (0, 0) _ rfl hg Tryz.underlying157 rfl (by rw [bits_size]; exact hi)) rfl ?_
  exact ⟨rfl, hfr.step (T := Is w.heap.size) ⟨rfl, rfl, rfl, by simp, fun b _ hb => setRow_other _ _ _ _ (fun e => hb e)⟩ (fun b hb e => by unfold Is at e; omega)⟩

set_option maxHeartbeats 1000000 in
theorem name_dots (s : ByteArray) (w : World) :
    Calls Tryz.prog 105 #[.string s] w fun e w' => e = .returned (.bool (decide (s.toList = [46]) || decide (s.toList = [46, 46]))) ∧ w = w' := by
  by_cases h2 : s.toList = [46]
  · have H : Hid ((decide (s.toList = [46]) || decide (s.toList = [46, 46])) = true) := by unfold Hid; simp [h2]
    go_enter Tryz.func105, Tryz.ntmps105
    go_wp2_with fail
    all_goals (go_ret; exact ⟨ret_bool H.out.symm, rfl⟩)
  · by_cases h3 : s.toList = [46, 46]
    · have H : Hid ((decide (s.toList = [46]) || decide (s.toList = [46, 46])) = true) := by unfold Hid; simp [h3]
      go_enter Tryz.func105, Tryz.ntmps105
      go_wp2_with fail
      all_goals (go_ret; exact ⟨ret_bool H.out.symm, rfl⟩)
    · have H : Hid ((decide (s.toList = [46]) || decide (s.toList = [46, 46])) = false) := by unfold Hid; simp [h2, h3]
      have e2 : (s.toList == [46]) = false := by simp [h2]
      have e3 : (s.toList == [46, 46]) = false := by simp [h3]
      clear h2 h3
      go_enter Tryz.func105, Tryz.ntmps105
      go_wp2_with fail
      all_goals (go_ret; exact ⟨ret_bool H.out.symm, rfl⟩)

theorem common_name (s : ByteArray) : s.data.toList.all (fun c => commonF c || [33].contains c) = inSet s nameBA := by
  unfold inSet
  congr 1
  funext c
  have : nameBA.data.toList = (((([65, 66, 67, 68, 69, 70, 71, 72, 73, 74, 75, 76, 77, 78, 79, 80, 81, 82, 83, 84, 85, 86, 87, 88, 89, 90] ++ [97, 98, 99, 100, 101, 102, 103, 104, 105, 106, 107, 108, 109, 110, 111, 112, 113, 114, 115, 116, 117, 118, 119, 120, 121, 122]) ++ [48, 49, 50, 51, 52, 53, 54, 55, 56, 57]) ++ [95, 46, 58, 43, 45]) ++ [33]) := rfl
  rw [this]
  unfold commonF
  simp only [List.contains_eq_mem, List.mem_append, Bool.false_or, Bool.decide_or]

set_option maxRecDepth 100000 in
set_option maxHeartbeats 1000000 in
theorem name_valid (s : ByteArray) (w : World) (hs : s.size ≤ maxLen) :
    Calls Tryz.prog 75 #[.string s] w fun e w' => e = .returned (.bool (isName s)) ∧ Fr No w w' := by
  have hm : s.size ≤ 9223372036854775807 := by unfold maxLen at hs; omega
  by_cases h0 : s.toList = []
  · have H : Hid (isName s = false) := by unfold Hid isName; simp [h0]
    go_enter Tryz.func75, Tryz.ntmps75
    go_wp2_with fail
    all_goals (go_ret; exact ⟨ret_bool H.out.symm, Fr.refl _ _⟩)
  · by_cases h1 : s.size ≤ 32
    · go_enter Tryz.func75, Tryz.ntmps75
      go_wp2_with fail
      refine (name_dots s _).mono ?_
      rintro e w1 ⟨rfl, rfl⟩
      rcases hd : (decide (s.toList = [46]) || decide (s.toList = [46, 46])) with _ | _
      · have hd' : s.toList ≠ [46] ∧ s.toList ≠ [46, 46] := by simpa using hd
        have H : Hid (isName s = inSet s nameBA) := by unfold Hid isName; simp [h0, h1, hd'.1, hd'.2]
        clear hd hd'
        go_wp2_with fail
        refine (nset_common _).mono ?_
        rintro e w2 ⟨rfl, hf2⟩
        go_wp2_with fail
        refine (nset_plus commonF _ _ (by decide)).mono ?_
        rintro e w3 ⟨rfl, hf3⟩
        go_wp2_with fail
        refine (nset_has _ s _ hs).mono ?_
        rintro e w4 ⟨rfl, hf4⟩
        have hfr := (hf2.step hf3 (fun _ _ h => h)).step hf4 (fun _ _ h => h)
        have hb : allB (fun c => commonF c || decide (c = 33)) s = isName s := by
          rw [H.out, ← common_name]
          unfold allB
          congr 1
          funext c
          simp
        have e0 : s.toList.isEmpty = false := by simp [h0]
        clear h0
        have Hb := Lib.hid hb
        clear hb H
        generalize hq : allB _ s = q
        have Hq : Hid (q = isName s) := hq.symm.trans Hb.out
        clear hq Hb
        cases q
        all_goals
          go_wp2_with fail
          all_goals (go_ret; exact ⟨ret_bool Hq.out, hfr⟩)
      · have H : Hid (isName s = false) := by
          unfold Hid isName
          rw [Bool.or_eq_true, decide_eq_true_eq, decide_eq_true_eq] at hd
          rcases hd with h | h <;> simp [h]
        clear hd
        go_wp2_with fail
        all_goals (go_ret; exact ⟨ret_bool H.out.symm, Fr.refl _ _⟩)
    · have H : Hid (isName s = false) := by unfold Hid isName; simp [h1]
      go_enter Tryz.func75, Tryz.ntmps75
      go_wp2_with fail
      all_goals (go_ret; exact ⟨ret_bool H.out.symm, Fr.refl _ _⟩)
end Go.Proofs.YtcibciippghooaaGreatDoor
namespace Go.Proofs.YtcibciippghooaaGreatDoor
set_option linter.unusedVariables false

def look (ds : List Dev) (n : Int) : Option Dev := ds.find? (fun d => decide (d.index = n))

theorem look_none {ds : List Dev} {n : Int} : look ds n = none ↔ ∀ d ∈ ds, d.index ≠ n := by
  unfold look; rw [List.find?_eq_none]; simp
theorem look_some {ds : List Dev} {n : Int} {d : Dev} (h : look ds n = some d) : d ∈ ds ∧ d.index = n := by
  unfold look at h
  exact ⟨List.mem_of_find?_eq_some h, by simpa using List.find?_some h⟩

theorem place_look : ∀ (ds : List Dev) (n : Int), (look ds n = none ∧ place ds n = -1) ∨ ∃ (k : Nat) (d : Dev), look ds n = some d ∧ place ds n = (k : Int) ∧ ds[k]? = some d
  | [], n => .inl ⟨rfl, rfl⟩
  | x :: t, n => by
    by_cases hx : x.index = n
    · exact .inr ⟨0, x, by simp [look, hx], by simp [place, hx], rfl⟩
    · have e1 : look (x :: t) n = look t n := by simp [look, hx]
      rw [e1]
      rcases place_look t n with ⟨h1, h2⟩ | ⟨k, d, h1, h2, h3⟩
      · exact .inl ⟨h1, by simp [place, hx, h2]⟩
      · refine .inr ⟨k + 1, d, h1, ?_, by simpa using h3⟩
        have : ¬ ((k : Int) < 0) := by omega
        simp [place, hx, h2, this]

theorem place_neg {ds : List Dev} {n : Int} : place ds n < 0 ↔ look ds n = none := by
  rcases place_look ds n with ⟨h1, h2⟩ | ⟨k, d, h1, h2, h3⟩
  · simp [h1, h2]
  · simp only [h1, h2]; constructor
    · intro h; omega
    · intro h; cases h
theorem devOf_look {ds : List Dev} {n : Int} {d : Dev} (h : look ds n = some d) : devOf ds n = d := by
  rcases place_look ds n with ⟨h1, h2⟩ | ⟨k, e, h1, h2, h3⟩
  · rw [h] at h1; cases h1
  · rw [h] at h1; cases h1
    unfold devOf
    rw [h2, if_neg (by omega), Int.toNat_natCast, h3]; rfl
theorem devOf_none {ds : List Dev} {n : Int} (h : look ds n = none) : devOf ds n = Dev.zero := by
  unfold devOf; rw [if_pos (place_neg.2 h)]

/-- A device and its ancestors, as far as the fuel goes. -/
def chainK (ds : List Dev) : Nat → Int → List Dev
  | 0, _ => []
  | k + 1, n => match look ds n with
    | none => []
    | some d => d :: chainK ds k d.parent
def chain (ds : List Dev) (n : Int) : List Dev := chainK ds ds.length n
def origin (ds : List Dev) (n : Int) : List ByteArray := ((chain ds n).map Dev.orig).reverse

theorem chainK_len (ds : List Dev) : ∀ (k : Nat) (n : Int), (chainK ds k n).length ≤ k
  | 0, _ => by simp [chainK]
  | k + 1, n => by
    unfold chainK
    cases look ds n with
    | none => simp
    | some d => have := chainK_len ds k d.parent; simp only [List.length_cons]; omega
theorem chain_len (ds : List Dev) (n : Int) : (chain ds n).length ≤ ds.length := chainK_len ds _ n
theorem chainK_mem (ds : List Dev) : ∀ (k : Nat) (n : Int) (d : Dev), d ∈ chainK ds k n → d ∈ ds
  | 0, _, d, h => by simp [chainK] at h
  | k + 1, n, d, h => by
    unfold chainK at h
    cases e : look ds n with
    | none => rw [e] at h; simp at h
    | some x =>
      rw [e] at h
      rcases List.mem_cons.1 h with h | h
      · subst h; exact (look_some e).1
      · exact chainK_mem ds k _ d h
theorem chain_mem {ds : List Dev} {n : Int} {d : Dev} (h : d ∈ chain ds n) : d ∈ ds := chainK_mem ds _ n d h
theorem chainK_none {ds : List Dev} {n : Int} (h : look ds n = none) (k : Nat) : chainK ds k n = [] := by
  cases k <;> simp [chainK, h]

/-- The chain of n is l, whole. -/
inductive Ch (ds : List Dev) : Int → List Dev → Prop
  | nil {n : Int} (h : look ds n = none) : Ch ds n []
  | cons {n : Int} {d : Dev} {l : List Dev} (h : look ds n = some d) (t : Ch ds d.parent l) : Ch ds n (d :: l)

theorem Ch.fuel {ds : List Dev} {n : Int} {l : List Dev} (h : Ch ds n l) : ∀ k, l.length ≤ k → chainK ds k n = l := by
  induction h with
  | nil h => intro k _; exact chainK_none h k
  | cons h t ih =>
    intro k hk
    cases k with
    | zero => simp at hk
    | succ k => unfold chainK; rw [h]; simp only [List.length_cons] at hk; simp only [ih k (by omega)]
theorem Ch.det {ds : List Dev} {n : Int} {l l' : List Dev} (h : Ch ds n l) (h' : Ch ds n l') : l = l' := by
  have e1 := h.fuel (max l.length l'.length) (by omega)
  have e2 := h'.fuel (max l.length l'.length) (by omega)
  exact e1.symm.trans e2
theorem Ch.mem {ds : List Dev} {n : Int} {l : List Dev} (h : Ch ds n l) : ∀ d ∈ l, d ∈ ds := by
  intro d hd
  rw [← h.fuel l.length (Nat.le_refl _)] at hd
  exact chainK_mem ds _ n d hd

/-- Every device's parent is 0 or stands ahead of it; the Indexes are different and positive. -/
structure TreeOk (ds : List Dev) : Prop where
  nd : (ds.map Dev.index).Nodup
  ix : ∀ d ∈ ds, 1 ≤ d.index ∧ d.index ≤ 1073741824
  pa : ∀ (k : Nat) (d : Dev), ds[k]? = some d → d.parent = 0 ∨ ∃ (j : Nat) (e : Dev), j < k ∧ ds[j]? = some e ∧ e.index = d.parent
  nm : ∀ d ∈ ds, OkN d.orig

theorem TreeOk.sz {ds : List Dev} (h : TreeOk ds) : ∀ d ∈ ds, d.orig.size ≤ 32 := fun d hd => (h.nm d hd).1
theorem TreeOk.nil : TreeOk [] := ⟨by simp, by simp, by simp, by simp⟩

section
variable {ds : List Dev}
theorem look_of_nodup : ∀ {ds : List Dev}, (ds.map Dev.index).Nodup → ∀ {d : Dev}, d ∈ ds → look ds d.index = some d
  | [], _, d, h => by simp at h
  | x :: t, hn, d, h => by
    simp only [List.map_cons, List.nodup_cons] at hn
    rcases List.mem_cons.1 h with h | h
    · subst h; simp [look]
    · have : x.index ≠ d.index := by
        intro e; apply hn.1; rw [e]; exact List.mem_map_of_mem h
      have h1 := look_of_nodup hn.2 h
      unfold look at h1 ⊢
      simp [this, h1]
theorem TreeOk.lk (h : TreeOk ds) {d : Dev} (hd : d ∈ ds) : look ds d.index = some d := look_of_nodup h.nd hd
theorem TreeOk.zero (h : TreeOk ds) : look ds 0 = none := look_none.2 fun d hd e => by have := (h.ix d hd).1; omega
theorem TreeOk.ch (h : TreeOk ds) : ∀ (k : Nat) (d : Dev), ds[k]? = some d → ∃ l, Ch ds d.index l ∧ l.length ≤ k + 1 := by
  intro k
  induction k using Nat.strongRecOn with
  | ind k ih =>
    intro d hd
    have hm := List.mem_of_getElem? hd
    rcases h.pa k d hd with h0 | ⟨j, e, hj, he, hi⟩
    · refine ⟨[d], .cons (h.lk hm) ?_, by simp⟩
      rw [h0]; exact .nil h.zero
    · obtain ⟨l, hl, hlen⟩ := ih j hj e he
      refine ⟨d :: l, .cons (h.lk hm) (by rw [← hi]; exact hl), by simp only [List.length_cons]; omega⟩
/-- The chain of a device: itself, and its parent's. -/
theorem TreeOk.chn (h : TreeOk ds) {n : Int} {d : Dev} (hl : look ds n = some d) : Ch ds n (chain ds n) := by
  obtain ⟨hd, rfl⟩ := look_some hl
  obtain ⟨k, hk⟩ := List.getElem?_of_mem hd
  obtain ⟨l, h1, h2⟩ := h.ch k d hk
  have hlt : k < ds.length := (List.getElem?_eq_some_iff.1 hk).1
  have e : chain ds d.index = l := h1.fuel ds.length (by omega)
  rw [e]; exact h1
theorem TreeOk.chn0 (h : TreeOk ds) (n : Int) : Ch ds n (chain ds n) := by
  cases e : look ds n with
  | none => rw [show chain ds n = [] from chainK_none e _]; exact .nil e
  | some d => exact h.chn e
theorem TreeOk.chain_cons (h : TreeOk ds) {n : Int} {d : Dev} (hl : look ds n = some d) : chain ds n = d :: chain ds d.parent := by
  exact (h.chn hl).det (.cons hl (h.chn0 _))
theorem TreeOk.chain_none {n : Int} (hl : look ds n = none) : chain ds n = [] := chainK_none hl _
theorem TreeOk.origin_cons (h : TreeOk ds) {n : Int} {d : Dev} (hl : look ds n = some d) : origin ds n = origin ds d.parent ++ [d.orig] := by
  unfold origin; rw [h.chain_cons hl]; simp
theorem TreeOk.origin_none {n : Int} (hl : look ds n = none) : origin ds n = [] := by
  unfold origin; rw [TreeOk.chain_none hl]; rfl
end

/-- The list with d at a place. -/
def insAt (ds : List Dev) (k : Nat) (d : Dev) : List Dev := ds.take k ++ d :: ds.drop k

theorem insAt_mem {ds : List Dev} {k : Nat} {d e : Dev} : e ∈ insAt ds k d ↔ e = d ∨ e ∈ ds := by
  unfold insAt
  have h : e ∈ ds ↔ e ∈ ds.take k ∨ e ∈ ds.drop k := by rw [← List.mem_append, List.take_append_drop]
  rw [List.mem_append, List.mem_cons, h]
  constructor
  · rintro (h | h | h)
    · exact .inr (.inl h)
    · exact .inl h
    · exact .inr (.inr h)
  · rintro (h | h | h)
    · exact .inr (.inl h)
    · exact .inl h
    · exact .inr (.inr h)
theorem insAt_len {ds : List Dev} {k : Nat} {d : Dev} : (insAt ds k d).length = ds.length + 1 := by
  unfold insAt
  have := congrArg List.length (List.take_append_drop k ds)
  simp only [List.length_append, List.length_cons] at this ⊢
  omega
theorem insAt_lo {ds : List Dev} {k i : Nat} {d : Dev} (hk : k ≤ ds.length) (hi : i < k) : (insAt ds k d)[i]? = ds[i]? := by
  unfold insAt
  rw [List.getElem?_append_left (by simp; omega), List.getElem?_take_of_lt hi]
theorem insAt_at {ds : List Dev} {k : Nat} {d : Dev} (hk : k ≤ ds.length) : (insAt ds k d)[k]? = some d := by
  unfold insAt
  rw [List.getElem?_append_right (by simp; omega)]
  simp [Nat.min_eq_left hk]
theorem insAt_hi {ds : List Dev} {k i : Nat} {d : Dev} (hk : k ≤ ds.length) (hi : k ≤ i) : (insAt ds k d)[i + 1]? = ds[i]? := by
  unfold insAt
  rw [List.getElem?_append_right (by simp; omega)]
  simp only [List.length_take, Nat.min_eq_left hk]
  rw [show i + 1 - k = (i - k) + 1 from by omega]
  simp only [List.getElem?_cons_succ, List.getElem?_drop]
  rw [show k + (i - k) = i from by omega]

theorem TreeOk.insert {ds : List Dev} (h : TreeOk ds) {k : Nat} {d : Dev} (hk : k ≤ ds.length) (hnew : look ds d.index = none) (hi : 1 ≤ d.index ∧ d.index ≤ 1073741824) (hs : OkN d.orig)
    (hp : d.parent = 0 ∨ ∃ (j : Nat) (e : Dev), j < k ∧ ds[j]? = some e ∧ e.index = d.parent) : TreeOk (insAt ds k d) := by
  have hno := look_none.1 hnew
  refine ⟨?_, ?_, ?_, ?_⟩
  · unfold insAt
    have h1 := h.nd
    rw [← List.take_append_drop k ds, List.map_append] at h1
    rw [List.map_append, List.map_cons]
    have h2 : ((d :: (ds.take k ++ ds.drop k)).map Dev.index).Nodup := by
      rw [List.map_cons, List.nodup_cons]
      refine ⟨?_, by rwa [List.map_append]⟩
      rw [List.take_append_drop]
      intro hm
      obtain ⟨e, he, hee⟩ := List.mem_map.1 hm
      exact hno e he hee
    rw [List.map_cons, List.map_append] at h2
    exact (List.perm_middle.nodup_iff).2 h2
  · intro e he
    rcases insAt_mem.1 he with rfl | he
    · exact hi
    · exact h.ix e he
  · intro i e he
    rcases Nat.lt_trichotomy i k with hik | rfl | hik
    · rw [insAt_lo hk hik] at he
      rcases h.pa i e he with h0 | ⟨j, f, hj, hf, hfi⟩
      · exact .inl h0
      · exact .inr ⟨j, f, hj, by rw [insAt_lo hk (by omega)]; exact hf, hfi⟩
    · rw [insAt_at hk] at he
      cases he
      rcases hp with h0 | ⟨j, f, hj, hf, hfi⟩
      · exact .inl h0
      · exact .inr ⟨j, f, hj, by rw [insAt_lo hk hj]; exact hf, hfi⟩
    · obtain ⟨i, rfl⟩ : ∃ m, i = m + 1 := ⟨i - 1, by omega⟩
      rw [insAt_hi hk (by omega)] at he
      rcases h.pa i e he with h0 | ⟨j, f, hj, hf, hfi⟩
      · exact .inl h0
      · by_cases hjk : j < k
        · exact .inr ⟨j, f, by omega, by rw [insAt_lo hk hjk]; exact hf, hfi⟩
        · exact .inr ⟨j + 1, f, by omega, by rw [insAt_hi hk (by omega)]; exact hf, hfi⟩
  · intro e he
    rcases insAt_mem.1 he with rfl | he
    · exact hs
    · exact h.nm e he
end Go.Proofs.YtcibciippghooaaGreatDoor
/- What an insertion makes of chains and origins. Plain laws. -/
namespace Go.Proofs.YtcibciippghooaaGreatDoor
set_option linter.unusedVariables false

theorem look_ins {ds : List Dev} {k : Nat} {d : Dev} (hnd : ((insAt ds k d).map Dev.index).Nodup) (hnew : look ds d.index = none) (n : Int) : look (insAt ds k d) n = if n = d.index then some d else look ds n := by
  split
  · rename_i e; subst e
    exact look_of_nodup hnd (insAt_mem.2 (.inl rfl))
  · rename_i hne
    cases hl : look ds n with
    | none =>
      rw [look_none] at hl ⊢
      intro e he
      rcases insAt_mem.1 he with rfl | he
      · exact fun h => hne h.symm
      · exact hl e he
    | some e =>
      obtain ⟨he, rfl⟩ := look_some hl
      exact look_of_nodup hnd (insAt_mem.2 (.inr he))

theorem Ch.ins {ds : List Dev} {k : Nat} {d : Dev} (hT : TreeOk ds) (hnd : ((insAt ds k d).map Dev.index).Nodup) (hnew : look ds d.index = none) (hi : 1 ≤ d.index) {n : Int} {l : List Dev} (h : Ch ds n l) (hn : n ≠ d.index) : Ch (insAt ds k d) n l := by
  induction h with
  | nil h => exact .nil (by rw [look_ins hnd hnew, if_neg hn]; exact h)
  | @cons n e l h t ih =>
    refine .cons (by rw [look_ins hnd hnew, if_neg hn]; exact h) (ih ?_)
    obtain ⟨he, _⟩ := look_some h
    obtain ⟨j, hj⟩ := List.getElem?_of_mem he
    rcases hT.pa j e hj with h0 | ⟨j', f, _, hf, hfi⟩
    · rw [h0]; omega
    · rw [← hfi]; exact look_none.1 hnew f (List.mem_of_getElem? hf)

/-- A tree whose origins are different and not too deep. -/
structure TreeWf (ds : List Dev) : Prop where
  ok : TreeOk ds
  uo : ∀ d ∈ ds, ∀ e ∈ ds, origin ds d.index = origin ds e.index → d = e
  dp : ∀ d ∈ ds, (origin ds d.index).length ≤ 7
theorem TreeWf.nil : TreeWf [] := ⟨TreeOk.nil, by simp, by simp⟩

theorem chain_of_ch {ds : List Dev} (hT : TreeOk ds) {n : Int} {l : List Dev} (h : Ch ds n l) : chain ds n = l := (hT.chn0 n).det h

theorem TreeWf.insert {ds : List Dev} (h : TreeWf ds) {k : Nat} {d : Dev} (hk : k ≤ ds.length) (hnew : look ds d.index = none) (hi : 1 ≤ d.index ∧ d.index ≤ 1073741824) (hs : OkN d.orig) (hne : d.parent ≠ d.index)
    (hp : d.parent = 0 ∨ ∃ (j : Nat) (e : Dev), j < k ∧ ds[j]? = some e ∧ e.index = d.parent) (ho : ∀ e ∈ ds, origin ds e.index ≠ origin ds d.parent ++ [d.orig]) (hd : (origin ds d.parent).length < 7) :
    TreeWf (insAt ds k d) ∧ (∀ n, n ≠ d.index → chain (insAt ds k d) n = chain ds n) ∧ chain (insAt ds k d) d.index = d :: chain ds d.parent := by
  have hT := h.ok.insert hk hnew hi hs hp
  have hold : ∀ n, n ≠ d.index → chain (insAt ds k d) n = chain ds n := fun n hn => chain_of_ch hT ((h.ok.chn0 n).ins h.ok hT.nd hnew hi.1 hn)
  have hself : chain (insAt ds k d) d.index = d :: chain ds d.parent := by
    rw [hT.chain_cons (hT.lk (insAt_mem.2 (.inl rfl))), hold _ hne]
  have oold : ∀ n, n ≠ d.index → origin (insAt ds k d) n = origin ds n := fun n hn => by unfold origin; rw [hold n hn]
  have oself : origin (insAt ds k d) d.index = origin ds d.parent ++ [d.orig] := by unfold origin; rw [hself]; simp
  have hno := look_none.1 hnew
  refine ⟨⟨hT, ?_, ?_⟩, hold, hself⟩
  · intro x hx y hy he
    rcases insAt_mem.1 hx with ex | hx'
    · rcases insAt_mem.1 hy with ey | hy'
      · rw [ex, ey]
      · rw [ex, oself, oold _ (hno y hy')] at he
        exact absurd he.symm (ho y hy')
    · rcases insAt_mem.1 hy with ey | hy'
      · rw [ey, oself, oold _ (hno x hx')] at he
        exact absurd he (ho x hx')
      · rw [oold _ (hno x hx'), oold _ (hno y hy')] at he
        exact h.uo x hx' y hy' he
  · intro x hx
    rcases insAt_mem.1 hx with ex | hx'
    · rw [ex, oself]; simp; omega
    · rw [oold _ (hno x hx')]; exact h.dp x hx'
end Go.Proofs.YtcibciippghooaaGreatDoor
/- Plain laws of chains: a chain without its own device. -/
namespace Go.Proofs.YtcibciippghooaaGreatDoor
open Go.RowKit
set_option linter.unusedVariables false

theorem Ch.sub {ds : List Dev} {n : Int} {l : List Dev} (h : Ch ds n l) : ∀ x ∈ l, ∃ m, Ch ds x.index m ∧ m.length ≤ l.length := by
  induction h with
  | nil h => intro x hx; cases hx
  | @cons n d l h t ih =>
    intro x hx
    rcases List.mem_cons.1 hx with rfl | hx
    · obtain ⟨_, rfl⟩ := look_some h
      exact ⟨_, .cons h t, Nat.le_refl _⟩
    · obtain ⟨m, h1, h2⟩ := ih x hx
      exact ⟨m, h1, by simp only [List.length_cons]; omega⟩
theorem Ch.ne {ds : List Dev} {n : Int} {d : Dev} {l : List Dev} (h : Ch ds n (d :: l)) : ∀ x ∈ l, x.index ≠ n := by
  intro x hx e
  cases h with
  | cons h t =>
    obtain ⟨m, h1, h2⟩ := t.sub x hx
    rw [e] at h1
    have := congrArg List.length (h1.det (.cons h t))
    simp only [List.length_cons] at this
    omega
/-- What the program's Ancestors gathers is the reference's chain without its first. -/
theorem TreeOk.anc {ds : List Dev} (h : TreeOk ds) (n : Int) : (chain ds n).filter (fun d => d.index != n) = (chain ds n).tail := by
  have hc := h.chn0 n
  generalize chain ds n = l at hc
  cases l with
  | nil => rfl
  | cons d l =>
    have h1 := hc.ne
    cases hc with
    | cons hl t =>
      obtain ⟨_, rfl⟩ := look_some hl
      rw [List.filter_cons]
      simp only [bne_self_eq_false, Bool.false_eq_true, if_false, List.tail_cons]
      exact List.filter_eq_self.2 fun x hx => by simpa using h1 x hx
end Go.Proofs.YtcibciippghooaaGreatDoor
