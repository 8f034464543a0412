/- Texts: in, Printable, Valid, Text, Interface: each returns some truth value and leaves the world. name.Valid and coldplugref01.Valid: the same test. name.Split, name.Under, exactly. -/
import Derived.Test.YtmieegcgeolckaaGreatDoorZV1
import Derived.Test.YtmieegcgeolckaaGreatDoorStrs
import Derived.Lib.IndexAny
import Derived.Laws.Rows
import Derived.Test.YtmieegcgeolckaaGreatDoorZV3
import Derived.Test.YtmieegcgeolckaaGreatDoorZV2
import Derived.Test.YtmieegcgeolckaaGreatDoorStrs2
import Derived.Lib.SplitLaws
import Derived.Laws.EntriesVeiled
namespace Go.Proofs.YtmieegcgeolckaaGreatDoor
open Go.RowKit
set_option linter.unusedVariables false

/-- Some truth value is returned. -/
def RetB (e : Ending) : Prop := ∃ b, e = .returned (.bool b)
theorem RetB.mk (b : Bool) : RetB (.returned (.bool b)) := ⟨b, rfl⟩
/-- A truth value is returned; if it is true, then p. -/
def RetIf (p : Prop) (e : Ending) : Prop := ∃ b, e = .returned (.bool b) ∧ (b = true → p)
theorem RetIf.no (p : Prop) : RetIf p (.returned (.bool false)) := ⟨false, rfl, fun h => by cases h⟩
theorem RetIf.yes {p : Prop} (h : p) (b : Bool) : RetIf p (.returned (.bool b)) := ⟨b, rfl, fun _ => h⟩

set_option maxHeartbeats 400000 in
theorem t_in (s set : ByteArray) (w : World) (hs : s.size ≤ maxLen) :
    Calls Tryz.prog 158 #[.string s, .string set] w fun e w' => RetB e ∧ w = w' := by
  have hm : s.size ≤ 9223372036854775807 := by unfold maxLen at hs; omega
  go_enter Tryz.func158, Tryz.ntmps158
  go_wp2
  go_loop [5] (fun i => ∃ k : Nat, k ≤ s.size ∧ i = .int .i64 k) (fun i => s.size - (intOf i).toNat)
  case atStart => exact ⟨0, by omega, rfl⟩
  case round =>
    obtain ⟨k, hk, rfl⟩ := hrel
    by_cases hlt : k < s.size
    · go_wp2_with fail
      refine (Tryz.strings_IndexByte set _ _).mono ?_
      rintro e w1 ⟨rfl, rfl⟩
      generalize Lib.indexByte _ _ = q
      by_cases hq : q < 0
      · go_wp2
        go_ret
        exact ⟨RetB.mk false, rfl⟩
      · go_wp2
        go_round
        case rel => exact ⟨k + 1, by omega, by go_num⟩
        case measure => simp [intOf]; omega
    · go_wp2
      go_ret
      exact ⟨RetB.mk true, rfl⟩

def inSet (s set : ByteArray) : Bool := s.data.toList.all set.data.toList.contains
def nameBA : ByteArray := ⟨#[65, 66, 67, 68, 69, 70, 71, 72, 73, 74, 75, 76, 77, 78, 79, 80, 81, 82, 83, 84, 85, 86, 87, 88, 89, 90, 97, 98, 99, 100, 101, 102, 103, 104, 105, 106, 107, 108, 109, 110, 111, 112, 113, 114, 115, 116, 117, 118, 119, 120, 121, 122, 48, 49, 50, 51, 52, 53, 54, 55, 56, 57, 95, 46, 58, 43, 45, 33]⟩
/-- A name. -/
def isName (s : ByteArray) : Bool := !decide (s.toList = []) && decide (s.size ≤ 32) && inSet s nameBA && !decide (s.toList = [46]) && !decide (s.toList = [46, 46])
theorem all_take_succ (p : UInt8 → Bool) (l : List UInt8) (k : Nat) (x : UInt8) (h : l[k]? = some x) (h1 : (l.take k).all p = true) (h2 : p x = true) : (l.take (k + 1)).all p = true := by
  rw [List.take_add_one, h, List.all_append, h1]
  simp [h2]
theorem all_no (p : UInt8 → Bool) (l : List UInt8) (k : Nat) (x : UInt8) (h : l[k]? = some x) (h2 : p x = false) : l.all p = false := by
  rw [List.all_eq_false]
  exact ⟨x, List.mem_of_getElem? h, by simp [h2]⟩

set_option maxHeartbeats 400000 in
theorem v_in (s set : ByteArray) (w : World) (hs : s.size ≤ maxLen) :
    Calls Tryz.prog 158 #[.string s, .string set] w fun e w' => e = .returned (.bool (inSet s set)) ∧ w = w' := by
  have hm : s.size ≤ 9223372036854775807 := by unfold maxLen at hs; omega
  go_enter Tryz.func158, Tryz.ntmps158
  go_wp2
  go_loop [5] (fun i => ∃ k : Nat, k ≤ s.size ∧ i = .int .i64 k ∧ Hid ((s.data.toList.take k).all set.data.toList.contains = true)) (fun i => s.size - (intOf i).toNat)
  case atStart => exact ⟨0, by omega, rfl, by unfold Hid; simp⟩
  case round =>
    obtain ⟨k, hk, rfl, hno⟩ := hrel
    by_cases hlt : k < s.size
    · go_wp2_with fail
      refine (Tryz.strings_IndexByte set _ _).mono ?_
      rintro e w1 ⟨rfl, rfl⟩
      have hx : s.data.toList[k]? = some s[k] := by
        rw [Array.getElem?_toList]; exact Array.getElem?_eq_getElem (by simpa using hlt)
      have hq : set.data.toList.contains s[k] = decide (0 ≤ Lib.indexByte set.data.toList ((s[k].toNat : Int)).toNat.toUInt8) := by
        rw [Lib.contains_iff_indexByte]; simp
      have Hx := Lib.hid hx
      have Hq := Lib.hid hq
      clear hx hq
      generalize Lib.indexByte _ _ = q at *
      by_cases hq0 : q < 0
      · go_wp2
        go_ret
        refine ⟨ret_bool ?_, rfl⟩
        exact (all_no _ _ _ _ Hx.out (by rw [Hq.out]; simp; omega)).symm
      · go_wp2
        go_round
        case rel => exact ⟨k + 1, by omega, by go_num, all_take_succ _ _ _ _ Hx.out hno.out (by rw [Hq.out]; simp; omega)⟩
        case measure => simp [intOf]; omega
    · go_wp2
      go_ret
      refine ⟨ret_bool ?_, rfl⟩
      have := hno.out
      rw [List.take_of_length_le (by simp; omega)] at this
      unfold inSet
      rw [this]

set_option maxHeartbeats 1000000 in
theorem v_valid (s : ByteArray) (w : World) (hs : s.size ≤ maxLen) :
    Calls Tryz.prog 122 #[.string s] w fun e w' => e = .returned (.bool (isName s)) ∧ w = w' := by
  have hm : s.size ≤ 9223372036854775807 := by unfold maxLen at hs; omega
  by_cases h0 : s.toList = []
  · have H : Hid (isName s = false) := by unfold Hid isName; simp [h0]
    go_enter Tryz.func122, Tryz.ntmps122
    go_wp2_with fail
    all_goals (go_ret; exact ⟨ret_bool H.out.symm, rfl⟩)
  · by_cases h1 : s.size ≤ 32
    · go_enter Tryz.func122, Tryz.ntmps122
      go_wp2_with fail
      refine (v_in s _ _ hs).mono ?_
      rintro e w1 ⟨rfl, rfl⟩
      generalize hb : inSet s _ = b
      have hb' : inSet s nameBA = b := hb
      clear hb
      by_cases h2 : s.toList = [46]
      · have H : Hid (isName s = false) := by unfold Hid isName; simp [h2]
        cases b
        all_goals
          go_wp2_with fail
          all_goals (go_ret; exact ⟨ret_bool H.out.symm, rfl⟩)
      · by_cases h3 : s.toList = [46, 46]
        · have H : Hid (isName s = false) := by unfold Hid isName; simp [h3]
          cases b
          all_goals
            go_wp2_with fail
            all_goals (go_ret; exact ⟨ret_bool H.out.symm, rfl⟩)
        · have H : Hid (isName s = b) := by unfold Hid isName; simp [h0, h1, h2, h3, hb']
          have e0 : s.toList.isEmpty = false := by simp [h0]
          have e2 : (s.toList == [46]) = false := by simp [h2]
          have e3 : (s.toList == [46, 46]) = false := by simp [h3]
          clear hb' h0 h2 h3
          cases b
          all_goals
            go_wp2_with fail
            all_goals (go_ret; exact ⟨ret_bool H.out.symm, rfl⟩)
    · have H : Hid (isName s = false) := by unfold Hid isName; simp [h1]
      go_enter Tryz.func122, Tryz.ntmps122
      go_wp2_with fail
      all_goals (go_ret; exact ⟨ret_bool H.out.symm, rfl⟩)
theorem isName_ok {s : ByteArray} (h : isName s = true) : OkN s := by
  unfold isName at h
  simp only [Bool.and_eq_true, decide_eq_true_eq] at h
  obtain ⟨⟨⟨⟨_, h1⟩, h2⟩, _⟩, _⟩ := h
  refine ⟨h1, fun b hb e => ?_⟩
  unfold inSet at h2
  rw [List.all_eq_true] at h2
  have := h2 b hb
  subst e
  revert this
  decide
theorem t_valid (s : ByteArray) (w : World) (hs : s.size ≤ maxLen) :
    Calls Tryz.prog 122 #[.string s] w fun e w' => RetIf (OkN s) e ∧ w = w' :=
  (v_valid s w hs).mono fun e w' ⟨h1, h2⟩ => ⟨⟨_, h1, isName_ok⟩, h2⟩

theorem t_contains (s : ByteArray) (c : UInt8) (w : World) :
    Calls Tryz.prog 32 #[.string s, .string ⟨#[c]⟩] w fun e w' => RetB e ∧ w = w' :=
  (Tryz.strings_Contains_one s c w).mono fun e w' ⟨h1, h2⟩ => ⟨⟨_, h1⟩, h2.symm⟩

end Go.Proofs.YtmieegcgeolckaaGreatDoor
namespace Go.Proofs.YtmieegcgeolckaaGreatDoor
open Go.RowKit
set_option linter.unusedVariables false

/-- A set of bytes as a value: 256 truth values. -/
def bits (f : UInt8 → Bool) : Array Value := Array.ofFn (n := 256) fun i => .bool (f (UInt8.ofNat i.val))
def allB (f : UInt8 → Bool) (s : ByteArray) : Bool := s.data.toList.all f
theorem bits_size (f : UInt8 → Bool) : (bits f).size = 256 := by simp [bits]
theorem bits_one (g : UInt8 → Bool) : (bits g).all (·.oneCell') = true := by
  rw [Array.all_eq_true_iff_forall_mem]
  intro v hv
  obtain ⟨i, rfl⟩ := (Array.mem_ofFn).1 hv
  rfl
theorem bits_at (f : UInt8 → Bool) (c : UInt8) : (bits f)[c.toNat]? = some (.bool (f c)) := by
  have : c.toNat < 256 := c.toNat_lt
  rw [Array.getElem?_eq_getElem (by rw [bits_size]; exact this)]
  simp [bits]
theorem bits_set (f : UInt8 → Bool) (c : UInt8) : (bits f).setIfInBounds c.toNat (.bool true) = bits (fun x => f x || x == c) := by
  have : c.toNat < 256 := c.toNat_lt
  apply Array.ext
  · simp [bits_size]
  · intro i h1 h2
    rw [bits_size] at h2
    rw [Array.getElem_setIfInBounds (by rw [bits_size]; exact h2)]
    simp only [bits, Array.getElem_ofFn]
    by_cases e : c.toNat = i
    · subst e; simp
    · rw [if_neg e]
      have : (UInt8.ofNat i == c) = false := by
        rw [beq_eq_false_iff_ne]; intro h; subst h; apply e; simp; omega
      rw [this, Bool.or_false]

set_option maxRecDepth 100000 in
set_option maxHeartbeats 1000000 in
theorem nset_has (f : UInt8 → Bool) (s : ByteArray) (w : World) (hs : s.size ≤ maxLen) :
    Calls Tryz.prog 93 #[.agg (bits f), .string s] w fun e w' => e = .returned (.bool (allB f s)) ∧ Fr No w w' := by
  have hm : s.size ≤ 9223372036854775807 := by unfold maxLen at hs; omega
  have hx : Fr No w (w.alloc (.cells (bits f) 125)) := (Fr.refl _ _).alloc _
  have hb := block_alloc w (.cells (bits f) 125)
  have c0 : ∀ c : UInt8, (w.alloc (.cells (bits f) 125)).cell? ⟨w.heap.size, c.toNat, none⟩ = some (.bool (f c)) := fun c => (cell_of_block hb _).trans (bits_at f c)
  go_enter Tryz.func93, Tryz.ntmps93
  go_wp2
  generalize w.alloc (.cells (bits f) 125) = W0 at *
  go_loop [8] (fun i => ∃ k : Nat, k ≤ s.size ∧ i = .int .i64 k ∧ Hid ((s.data.toList.take k).all f = true)) (fun i => s.size - (intOf i).toNat)
  case atStart => exact ⟨0, by omega, rfl, by unfold Hid; simp⟩
  case round =>
    obtain ⟨k, hk, rfl, hno⟩ := hrel
    by_cases hlt : k < s.size
    · have hx' : s.data.toList[k]? = some s[k] := by
        rw [Array.getElem?_toList]; exact Array.getElem?_eq_getElem (by simpa using hlt)
      have Hx := Lib.hid hx'
      have hc1 : ((s[k].toNat : Nat) : Int) < 256 := by have := s[k].toNat_lt; omega
      have hc := c0 s[k]
      rcases hq : f s[k] with _ | _
      · rw [hq] at hc
        have Hq := Lib.hid hq
        clear hq hx' c0
        go_wp2
        go_ret
        exact ⟨ret_bool (all_no _ _ _ _ Hx.out Hq.out).symm, hx⟩
      · rw [hq] at hc
        have Hq := Lib.hid hq
        clear hq hx' c0
        go_wp2
        go_round
        case rel => exact ⟨k + 1, by omega, by go_num, all_take_succ _ _ _ _ Hx.out hno.out Hq.out⟩
        case measure => simp [intOf]; omega
    · go_wp2
      go_ret
      refine ⟨ret_bool ?_, hx⟩
      have := hno.out
      rw [List.take_of_length_le (by simp; omega)] at this
      unfold allB
      rw [this]

set_option maxRecDepth 100000 in
set_option maxHeartbeats 1000000 in
theorem nset_plus (f : UInt8 → Bool) (s : ByteArray) (w : World) (hs : s.size ≤ maxLen) :
    Calls Tryz.prog 92 #[.agg (bits f), .string s] w fun e w' => e = .returned (.agg (bits fun c => f c || s.data.toList.contains c)) ∧ Fr No w w' := by
  have hm : s.size ≤ 9223372036854775807 := by unfold maxLen at hs; omega
  have hx : Fr No w (w.alloc (.cells (bits f) 125)) := (Fr.refl _ _).alloc _
  have hb := block_alloc w (.cells (bits f) 125)
  have hi : (Tryz.prog.info? 125).map (·.size) = some 256 := by kernel_rfl
  have hz : Tryz.zeroCells125.size = 256 := by kernel_rfl
  have p0 := block_alloc1 w (.cells (bits f) 125) (.cells Tryz.zeroCells125 125)
  have p1 := block_alloc2 w (.cells (bits f) 125) (.cells Tryz.zeroCells125 125)
  have h2 : Fr No w ((w.alloc (.cells (bits f) 125)).alloc (.cells Tryz.zeroCells125 125)) := hx.alloc _
  clear hx hb
  go_enter Tryz.func92, Tryz.ntmps92
  go_wp2
  generalize (w.alloc (.cells (bits f) 125)).alloc (.cells Tryz.zeroCells125 125) = W0 at *
  go_loopw [8] (fun i wr => ∃ k : Nat, k ≤ s.size ∧ i = .int .i64 k ∧ Hid (wr.heap[w.heap.size]? = some (.cells (bits fun c => f c || (s.data.toList.take k).contains c) 125)) ∧ Hid (wr.heap[w.heap.size + 1]? = some (.cells Tryz.zeroCells125 125)) ∧ Fr No w wr) (fun i _ => s.size - (intOf i).toNat)
  case atStart => exact ⟨0, by omega, rfl, by unfold Hid; simpa using p0, p1, h2⟩
  case round =>
    obtain ⟨k, hk, rfl, hb0, hb1, hfr⟩ := hrel
    clear p0 p1 h2
    by_cases hlt : k < s.size
    · have hx' : s.data.toList[k]? = some s[k] := by
        rw [Array.getElem?_toList]; exact Array.getElem?_eq_getElem (by simpa using hlt)
      have Hx := Lib.hid hx'
      have hc1 : ((s[k].toNat : Nat) : Int) < 256 := by have := s[k].toNat_lt; omega
      have c0 := (cell_of_block hb0.out s[k].toNat).trans (bits_at _ _)
      have f0 := free_of_block hb0.out s[k].toNat
      have hfr1 : Fr No w (wr.setCell ⟨w.heap.size, s[k].toNat, none⟩ (.bool true)) := hfr.setCell (by simp) _
      have q0 := block_setCell hb0.out s[k].toNat (.bool true)
      rw [bits_set] at q0
      have q1 := (Fr.setAt (Fr.refl (Is w.heap.size) wr) (i := s[k].toNat) (.bool true)).heap hb1.out (fun e => by unfold Is at e; omega)
      have Q := Lib.hid (And.intro q0 (And.intro q1 hfr1))
      clear q0 q1 hfr1 hx'
      go_wp2
      go_roundw
      case rel =>
        refine ⟨k + 1, by omega, by go_num, ?_, Q.out.2.1, Q.out.2.2⟩
        unfold Hid
        rw [Q.out.1, List.take_add_one, Hx.out]
        congr 3
        funext c
        have e : (c == s[k]) = decide (c = s[k]) := by by_cases h : c = s[k] <;> simp [h]
        simp [Bool.or_assoc, e]
      case measure => simp [intOf]; omega
    · obtain rfl : k = s.size := by omega
      have q0 := hb0.out
      rw [List.take_of_length_le (by simp)] at q0
      have q0' := Lib.hid q0
      clear hb0 q0
      go_wp2_with (first
        | (refine wpList_load_row rfl 125 _ rfl w.heap.size rfl 125 _ (0, 0) _ q0'.out Tryz.underlying125 rfl (by rw [bits_size]; exact hi) ?_)
        | (refine wpList_store_row rfl 125 _ _ rfl (w.heap.size + 1) _ rfl rfl 125 _ hb1.out (by rw [bits_size]; exact hi) (by rw [bits_size]; exact hz) (bits_one _) ?_))
      have hg := setRow_heap wr (w.heap.size + 1) _ (bits fun c => f c || s.data.toList.contains c) 125 (0, 0) hb1.out
      refine bodyPost_ret (v := .agg (bits fun c => f c || s.data.toList.contains c)) (results_cell_row rfl _ _ (w.heap.size + 1) 125 _ (0, 0) _ rfl hg Tryz.underlying125 rfl (by rw [bits_size]; exact hi)) rfl ?_
      refine ⟨rfl, hfr.step (T := Is (w.heap.size + 1)) ⟨rfl, rfl, rfl, by simp, fun b _ hb => setRow_other _ _ _ _ (fun e => hb e)⟩ (fun b hb e => by unfold Is at e; omega)⟩

/-- The bytes of names but '!'. -/
def commonF : UInt8 → Bool := fun c => ((((false || [65, 66, 67, 68, 69, 70, 71, 72, 73, 74, 75, 76, 77, 78, 79, 80, 81, 82, 83, 84, 85, 86, 87, 88, 89, 90].contains c) || [97, 98, 99, 100, 101, 102, 103, 104, 105, 106, 107, 108, 109, 110, 111, 112, 113, 114, 115, 116, 117, 118, 119, 120, 121, 122].contains c) || [48, 49, 50, 51, 52, 53, 54, 55, 56, 57].contains c) || [95, 46, 58, 43, 45].contains c)
theorem zero_bits : Tryz.zeroCells125 = bits (fun _ => false) := by kernel_rfl

theorem nset_plus0 (s : ByteArray) (w : World) (hs : s.size ≤ maxLen) :
    Calls Tryz.prog 92 #[.agg Tryz.zeroCells125, .string s] w fun e w' => e = .returned (.agg (bits fun c => false || s.data.toList.contains c)) ∧ Fr No w w' := by
  rw [zero_bits]
  exact nset_plus _ s w hs
def upperBA : ByteArray := ⟨#[65, 66, 67, 68, 69, 70, 71, 72, 73, 74, 75, 76, 77, 78, 79, 80, 81, 82, 83, 84, 85, 86, 87, 88, 89, 90]⟩
theorem lower_upper (w : World) :
    Calls Tryz.prog 125 #[.string ⟨#[65, 66, 67, 68, 69, 70, 71, 72, 73, 74, 75, 76, 77, 78, 79, 80, 81, 82, 83, 84, 85, 86, 87, 88, 89, 90]⟩] w fun e w' => e = .returned (.string ⟨#[97, 98, 99, 100, 101, 102, 103, 104, 105, 106, 107, 108, 109, 110, 111, 112, 113, 114, 115, 116, 117, 118, 119, 120, 121, 122]⟩) ∧ Fr No w w' := by
  have h : ∀ b ∈ upperBA.data.toList, b.toNat < 128 := by decide
  refine (Tryz.strings_ToLower_ascii upperBA w (by decide) (fun j b hb => h b (List.mem_of_getElem? hb))).mono ?_
  rintro e w' ⟨rfl, hb⟩
  exact ⟨by congr 2, Fr.of_below_size hb⟩

set_option maxRecDepth 100000 in
set_option maxHeartbeats 1000000 in
theorem nset_common (w : World) :
    Calls Tryz.prog 91 #[] w fun e w' => e = .returned (.agg (bits commonF)) ∧ Fr No w w' := by
  have hi : (Tryz.prog.info? 125).map (·.size) = some 256 := by kernel_rfl
  have hz : Tryz.zeroCells125.size = 256 := by kernel_rfl
  have h0 : Fr No w (w.alloc (.cells Tryz.zeroCells125 125)) := (Fr.refl _ _).alloc _
  have p0 := block_alloc w (.cells Tryz.zeroCells125 125)
  have P0 := Lib.hid (And.intro p0 h0)
  clear p0 h0
  go_enter Tryz.func91, Tryz.ntmps91
  go_wp2_with fail
  refine (nset_plus0 _ _ (by decide)).mono ?_
  rintro e w1 ⟨rfl, hf1⟩
  go_wp2_with fail
  refine (lower_upper _).mono ?_
  rintro e w2 ⟨rfl, hf2⟩
  go_wp2_with fail
  refine (nset_plus _ _ _ (by decide)).mono ?_
  rintro e w3 ⟨rfl, hf3⟩
  go_wp2_with fail
  refine (nset_plus _ _ _ (by decide)).mono ?_
  rintro e w4 ⟨rfl, hf4⟩
  go_wp2_with fail
  refine (nset_plus _ _ _ (by decide)).mono ?_
  rintro e w5 ⟨rfl, hf5⟩
  have hfr := ((((P0.out.2.step hf1 (fun _ _ h => h)).step hf2 (fun _ _ h => h)).step hf3 (fun _ _ h => h)).step hf4 (fun _ _ h => h)).step hf5 (fun _ _ h => h)
  have p5 := hf5.heap (hf4.heap (hf3.heap (hf2.heap (hf1.heap P0.out.1 id) id) id) id) id
  obtain ⟨F, hF⟩ : ∃ F, F = commonF := ⟨_, rfl⟩
  go_wp2_with (refine wpList_store_row rfl 125 _ _ rfl w.heap.size (bits commonF) rfl rfl 125 _ p5 (by rw [bits_size]; exact hi) (by rw [bits_size]; exact hz) (bits_one _) ?_)
  have hg := setRow_heap w5 w.heap.size _ (bits commonF) 125 (0, 0) p5
  refine bodyPost_ret (v := .agg (bits commonF)) (results_cell_row rfl _ _ w.heap.size 125 _ (0, 0) _ rfl hg Tryz.underlying125 rfl (by rw [bits_size]; exact hi)) rfl ?_
  exact ⟨rfl, hfr.step (T := Is w.heap.size) ⟨rfl, rfl, rfl, by simp, fun b _ hb => setRow_other _ _ _ _ (fun e => hb e)⟩ (fun b hb e => by unfold Is at e; omega)⟩

set_option maxHeartbeats 1000000 in
theorem name_dots (s : ByteArray) (w : World) :
    Calls Tryz.prog 90 #[.string s] w fun e w' => e = .returned (.bool (decide (s.toList = [46]) || decide (s.toList = [46, 46]))) ∧ w = w' := by
  by_cases h2 : s.toList = [46]
  · have H : Hid ((decide (s.toList = [46]) || decide (s.toList = [46, 46])) = true) := by unfold Hid; simp [h2]
    go_enter Tryz.func90, Tryz.ntmps90
    go_wp2_with fail
    all_goals (go_ret; exact ⟨ret_bool H.out.symm, rfl⟩)
  · by_cases h3 : s.toList = [46, 46]
    · have H : Hid ((decide (s.toList = [46]) || decide (s.toList = [46, 46])) = true) := by unfold Hid; simp [h3]
      go_enter Tryz.func90, Tryz.ntmps90
      go_wp2_with fail
      all_goals (go_ret; exact ⟨ret_bool H.out.symm, rfl⟩)
    · have H : Hid ((decide (s.toList = [46]) || decide (s.toList = [46, 46])) = false) := by unfold Hid; simp [h2, h3]
      have e2 : (s.toList == [46]) = false := by simp [h2]
      have e3 : (s.toList == [46, 46]) = false := by simp [h3]
      clear h2 h3
      go_enter Tryz.func90, Tryz.ntmps90
      go_wp2_with fail
      all_goals (go_ret; exact ⟨ret_bool H.out.symm, rfl⟩)

theorem common_name (s : ByteArray) : s.data.toList.all (fun c => commonF c || [33].contains c) = inSet s nameBA := by
  unfold inSet
  congr 1
  funext c
  have : nameBA.data.toList = (((([65, 66, 67, 68, 69, 70, 71, 72, 73, 74, 75, 76, 77, 78, 79, 80, 81, 82, 83, 84, 85, 86, 87, 88, 89, 90] ++ [97, 98, 99, 100, 101, 102, 103, 104, 105, 106, 107, 108, 109, 110, 111, 112, 113, 114, 115, 116, 117, 118, 119, 120, 121, 122]) ++ [48, 49, 50, 51, 52, 53, 54, 55, 56, 57]) ++ [95, 46, 58, 43, 45]) ++ [33]) := rfl
  rw [this]
  unfold commonF
  simp only [List.contains_eq_mem, List.mem_append, Bool.false_or, Bool.decide_or]

set_option maxRecDepth 100000 in
set_option maxHeartbeats 1000000 in
theorem name_valid (s : ByteArray) (w : World) (hs : s.size ≤ maxLen) :
    Calls Tryz.prog 63 #[.string s] w fun e w' => e = .returned (.bool (isName s)) ∧ Fr No w w' := by
  have hm : s.size ≤ 9223372036854775807 := by unfold maxLen at hs; omega
  by_cases h0 : s.toList = []
  · have H : Hid (isName s = false) := by unfold Hid isName; simp [h0]
    go_enter Tryz.func63, Tryz.ntmps63
    go_wp2_with fail
    all_goals (go_ret; exact ⟨ret_bool H.out.symm, Fr.refl _ _⟩)
  · by_cases h1 : s.size ≤ 32
    · go_enter Tryz.func63, Tryz.ntmps63
      go_wp2_with fail
      refine (name_dots s _).mono ?_
      rintro e w1 ⟨rfl, rfl⟩
      rcases hd : (decide (s.toList = [46]) || decide (s.toList = [46, 46])) with _ | _
      · have hd' : s.toList ≠ [46] ∧ s.toList ≠ [46, 46] := by simpa using hd
        have H : Hid (isName s = inSet s nameBA) := by unfold Hid isName; simp [h0, h1, hd'.1, hd'.2]
        clear hd hd'
        go_wp2_with fail
        refine (nset_common _).mono ?_
        rintro e w2 ⟨rfl, hf2⟩
        go_wp2_with fail
        refine (nset_plus commonF _ _ (by decide)).mono ?_
        rintro e w3 ⟨rfl, hf3⟩
        go_wp2_with fail
        refine (nset_has _ s _ hs).mono ?_
        rintro e w4 ⟨rfl, hf4⟩
        have hfr := (hf2.step hf3 (fun _ _ h => h)).step hf4 (fun _ _ h => h)
        have hb : allB (fun c => commonF c || decide (c = 33)) s = isName s := by
          rw [H.out, ← common_name]
          unfold allB
          congr 1
          funext c
          simp
        have e0 : s.toList.isEmpty = false := by simp [h0]
        clear h0
        have Hb := Lib.hid hb
        clear hb H
        generalize hq : allB _ s = q
        have Hq : Hid (q = isName s) := hq.symm.trans Hb.out
        clear hq Hb
        cases q
        all_goals
          go_wp2_with fail
          all_goals (go_ret; exact ⟨ret_bool Hq.out, hfr⟩)
      · have H : Hid (isName s = false) := by
          unfold Hid isName
          rw [Bool.or_eq_true, decide_eq_true_eq, decide_eq_true_eq] at hd
          rcases hd with h | h <;> simp [h]
        clear hd
        go_wp2_with fail
        all_goals (go_ret; exact ⟨ret_bool H.out.symm, Fr.refl _ _⟩)
    · have H : Hid (isName s = false) := by unfold Hid isName; simp [h1]
      go_enter Tryz.func63, Tryz.ntmps63
      go_wp2_with fail
      all_goals (go_ret; exact ⟨ret_bool H.out.symm, Fr.refl _ _⟩)
end Go.Proofs.YtmieegcgeolckaaGreatDoor
namespace Go.Proofs.YtmieegcgeolckaaGreatDoor
open Go.RowKit Go.Maps
set_option linter.unusedVariables false

/-! ### Cut at a byte -/
def spl (c : UInt8) : List UInt8 → List (List UInt8)
  | [] => [[]]
  | x :: t => if x = c then [] :: spl c t else match spl c t with
    | [] => [[x]]
    | h :: r => (x :: h) :: r
theorem spl_ne (c : UInt8) : ∀ s, spl c s ≠ []
  | [] => by simp [spl]
  | x :: t => by
    unfold spl
    split
    · simp
    · split <;> simp
theorem splitK_spl (c : UInt8) : ∀ s : List UInt8, Lib.splitK [c] 0 (s.count c) s = spl c s
  | [] => rfl
  | x :: t => by
    have ih := splitK_spl c t
    by_cases hx : x = c
    · subst hx
      have hi : Lib.index (x :: t) [x] = 0 := by
        unfold Lib.index
        rw [if_pos (by simp)]
      have e : spl x (x :: t) = [] :: spl x t := by rw [spl, if_pos rfl]
      rw [List.count_cons_self, Lib.splitK, hi, e, ← ih]
      rfl
    · have hc : (x :: t).count c = t.count c := List.count_cons_of_ne hx
      have hp : ([c].isPrefixOf (x :: t)) = false := by
        have h1 : (c == x) = false := by simpa using fun h => hx h.symm
        simp [List.isPrefixOf, h1]
      have hs : spl c (x :: t) = (match spl c t with | [] => [[x]] | h :: r => (x :: h) :: r) := by
        rw [spl, if_neg hx]
      rw [hc, hs, ← ih]
      cases hk : t.count c with
      | zero => simp [Lib.splitK]
      | succ k =>
        have hi : Lib.index (x :: t) [c] = if Lib.index t [c] == -1 then -1 else Lib.index t [c] + 1 := by
          rw [Lib.index, if_neg (by rw [hp]; simp)]
        rw [Lib.splitK, Lib.splitK, hi]
        by_cases h1 : (Lib.index t [c] == -1) = true
        · simp [h1]
        · have h2 := Lib.index_ge t [c]
          have h3 : Lib.index t [c] ≠ -1 := by simpa using h1
          obtain ⟨n, hn⟩ := Int.eq_ofNat_of_zero_le (show 0 ≤ Lib.index t [c] by omega)
          rw [if_neg h1, if_neg h1, hn]
          rw [if_neg (by simp; omega)]
          rw [show ((n : Int) + 1).toNat = n + 1 by omega, show ((n : Int)).toNat = n by omega]
          simp
theorem spl_none {c : UInt8} : ∀ {s : List UInt8}, (∀ x ∈ s, x ≠ c) → spl c s = [s]
  | [], _ => rfl
  | x :: t, h => by
    rw [spl, if_neg (h x (by simp)), spl_none (fun y hy => h y (by simp [hy]))]
theorem spl_app {c : UInt8} : ∀ {s : List UInt8} {t : List UInt8}, (∀ x ∈ s, x ≠ c) → spl c (s ++ c :: t) = s :: spl c t
  | [], t, _ => by simp [spl]
  | x :: s, t, h => by
    rw [List.cons_append, spl, if_neg (h x (by simp)), spl_app (fun y hy => h y (by simp [hy]))]
theorem spl_join {c : UInt8} : ∀ (l : List (List UInt8)), l ≠ [] → (∀ x ∈ l, ∀ b ∈ x, b ≠ c) → spl c (Lib.join l [c]) = l
  | [], h, _ => absurd rfl h
  | [x], _, h => by simp [Lib.join]; exact spl_none (h x (by simp))
  | x :: y :: t, _, h => by
    have ih := spl_join (y :: t) (by simp) (fun z hz => h z (by simp [hz]))
    have e : Lib.join (x :: y :: t) [c] = x ++ c :: Lib.join (y :: t) [c]   := by simp [Lib.join]
    rw [e, spl_app (h x (by simp)), ih]

/-- The names of a path. -/
def sparts (s : ByteArray) : List ByteArray := (spl 47 (Lib.trimPrefix s.data.toList [47])).map fun x => ⟨x.toArray⟩
def goodPath (s : ByteArray) : Bool := Lib.hasPrefix s.data.toList [47] && (sparts s).all isName
theorem sparts_ne (s : ByteArray) : sparts s ≠ [] := by
  unfold sparts
  intro h
  exact spl_ne _ _ (List.map_eq_nil_iff.1 h)
theorem spl_le (c : UInt8) : ∀ (s : List UInt8), ∀ x ∈ spl c s, x.length ≤ s.length
  | [], x, h => by simp [spl] at h; subst h; simp
  | y :: t, x, h => by
    have ih := spl_le c t
    unfold spl at h
    split at h
    · rcases List.mem_cons.1 h with rfl | h
      · simp
      · have := ih x h; simp; omega
    · split at h
      · simp at h; subst h; simp
      · rename_i a r e
        rcases List.mem_cons.1 h with rfl | h
        · have := ih a (by rw [e]; simp); simp; omega
        · have := ih x (by rw [e]; simp [h]); simp; omega
theorem trim_le (s p : List UInt8) : (Lib.trimPrefix s p).length ≤ s.length := by
  unfold Lib.trimPrefix
  split <;> simp
theorem sparts_size (s : ByteArray) : ∀ x ∈ sparts s, x.size ≤ s.size := by
  intro x hx
  obtain ⟨y, hy, rfl⟩ := List.mem_map.1 hx
  have h1 := spl_le 47 _ y hy
  have h2 := trim_le s.data.toList [47]
  have h3 : s.data.toList.length = s.size := (Lib.size_eq s).symm
  simp only [ByteArray.size, List.size_toArray] at h3 ⊢
  omega
theorem split_parts (s : ByteArray) : Lib.splitB ⟨#[47]⟩ 0 (Lib.countB s ⟨#[47]⟩) s = (spl 47 s.data.toList).map fun x => ⟨x.toArray⟩ := by
  have h1 := Lib.splitB_data ⟨#[47]⟩ 0 (Lib.countB s ⟨#[47]⟩) s
  have h2 : Lib.countB s ⟨#[47]⟩ = s.data.toList.count 47 := Lib.count_one 47 s.data.toList
  have h3 : (⟨#[47]⟩ : ByteArray).data.toList = [47] := rfl
  rw [h3] at h1
  rw [h2] at h1 ⊢
  rw [splitK_spl] at h1
  rw [← h1, List.map_map]
  symm
  rw [List.map_congr_left (g := id)]
  · simp
  · intro x _; simp
theorem split_len (s : ByteArray) : Lib.countB s ⟨#[47]⟩ + 1 = ((spl 47 s.data.toList).map fun x => (⟨x.toArray⟩ : ByteArray)).length := by
  rw [← split_parts, Lib.splitB_all ⟨#[47]⟩ (by decide) 0 _ _ rfl]

/-! ### The walks -/
theorem Strs.new (w : World) (l : List ByteArray) (T : TypeId) (hl : l.length ≤ maxLen) : Strs (w.alloc (.cells (l.map Value.string).toArray T)) (some ⟨w.heap.size, 0, none⟩) l.length l := by
  refine ⟨Nat.le_refl _, hl, (fun e => by cases e), ?_⟩
  intro ad e hne
  cases e
  refine ⟨rfl, by simp, fun i x hi => ?_⟩
  rw [cell_of_block (block_alloc _ _)]
  simp [hi]

set_option maxRecDepth 100000 in
set_option maxHeartbeats 1000000 in
theorem allv_has (bt : Nat) (s : ByteArray) (w : World) (hb : w.cell? ⟨bt, 0, none⟩ = some (.func (.func 63) #[] #[])) (hs : s.size ≤ maxLen) :
    Calls Tryz.prog 204 #[.string s, .pointer (some ⟨bt, 0, none⟩)] w fun e w' => e = .returned (.bool (!isName s)) ∧ Fr No w w' := by
  go_enter Tryz.func204, Tryz.ntmps204
  go_wp2_with fail
  refine (name_valid s _ hs).mono ?_
  rintro e w1 ⟨rfl, hf1⟩
  go_wp2_with fail
  go_ret
  exact ⟨rfl, hf1⟩

set_option maxHeartbeats 1000000 in
theorem allv_index (bt : Nat) (la : Option Addr) (lc : Nat) (l : List ByteArray) (w : World) (hb : w.cell? ⟨bt, 0, none⟩ = some (.func (.func 63) #[] #[])) (hi : Strs w la lc l) (hs : ∀ x ∈ l, x.size ≤ maxLen) :
    Calls Tryz.prog 215 #[.slice la l.length lc, .func (.func 204) #[] #[.pointer (some ⟨bt, 0, none⟩)]] w fun e w' => (∃ r : Int, e = .returned (.int .i64 r) ∧ decide (0 ≤ r) = !l.all isName) ∧ Fr No w w' := by
  have hm := hi.lenmax
  go_enter Tryz.func215, Tryz.ntmps215
  go_wp2_with fail
  go_loopw [8] (fun i wr => ∃ k : Nat, k ≤ l.length ∧ i = .int .i64 k ∧ Hid ((l.take k).all isName = true) ∧ Fr No w wr) (fun i _ => l.length - (intOf i).toNat)
  case atStart => exact ⟨0, by omega, rfl, by unfold Hid; simp, Fr.refl _ _⟩
  case round =>
    obtain ⟨k, hk, rfl, hno, hfr⟩ := hrel
    by_cases hlt : k < l.length
    · have hlt' : (k : Int) < l.length := by omega
      obtain ⟨bb, off, x, rfl, hx, hc⟩ := (hi.no hfr (fun _ => id)).at hlt
      have hxs := hs x (List.mem_of_getElem? hx)
      have Htk : Hid (l.take (k + 1) = l.take k ++ [x]) := by unfold Hid; rw [List.take_add_one, hx]; rfl
      have Hmem := Lib.hid (List.mem_of_getElem? hx)
      clear hx
      go_wp2_with fail
      refine (allv_has bt x _ (hfr.cell hb id) hxs).mono ?_
      rintro e w1 ⟨rfl, hf1⟩
      have hfr1 := hfr.step hf1 (fun _ _ h => h)
      clear hc
      cases hp : isName x
      · have Hr : Hid (l.all isName = false) := by unfold Hid; rw [List.all_eq_false]; exact ⟨x, Hmem.out, by rw [hp]; simp⟩
        clear hp
        go_wp2_with fail
        go_ret
        exact ⟨⟨(k : Int), rfl, by rw [Hr.out]; simp⟩, hfr1⟩
      · have Hn : Hid ((l.take (k + 1)).all isName = true) := by unfold Hid; rw [Htk.out, List.all_append, hno.out]; simp [hp]
        clear hp
        go_wp2_with fail
        go_roundw
        case rel => exact ⟨k + 1, by omega, by go_num, Hn, hfr1⟩
        case measure => simp [intOf]; omega
    · have h := hno.out
      rw [List.take_of_length_le (by omega)] at h
      have Hp := Lib.hid h
      clear h
      go_wp2_with fail
      go_ret
      exact ⟨⟨-1, rfl, by rw [Hp.out]; rfl⟩, hfr⟩

set_option maxRecDepth 100000 in
set_option maxHeartbeats 1000000 in
theorem name_all (la : Option Addr) (lc : Nat) (l : List ByteArray) (w : World) (hi : Strs w la lc l) (hs : ∀ x ∈ l, x.size ≤ maxLen) :
    Calls Tryz.prog 174 #[.slice la l.length lc, .func (.func 63) #[] #[]] w fun e w' => e = .returned (.bool (l.all isName)) ∧ Fr No w w' := by
  have hx : Fr No w (w.alloc (.cells #[.func (.func 63) #[] #[]] 102)) := (Fr.refl _ _).alloc _
  have q3 := block_alloc w (.cells #[.func (.func 63) #[] #[]] 102)
  have hi0 := hi.no hx (fun _ => id)
  go_enter Tryz.func174, Tryz.ntmps174
  go_wp2_with fail
  generalize w.alloc (.cells #[.func (.func 63) #[] #[]] 102) = W0 at *
  refine (show Calls Tryz.prog 203 _ _ (fun e w' => e = .returned (.bool (!l.all isName)) ∧ Fr No W0 w') from ?_).mono ?_
  · go_enter Tryz.func203, Tryz.ntmps203
    go_wp2_with fail
    refine (allv_index w.heap.size la lc l _ (cell_of_block q3 0) hi0 hs).mono ?_
    rintro e w1 ⟨⟨r, rfl, hr⟩, hf1⟩
    have Hr := Lib.hid hr
    clear hr
    go_wp2_with fail
    go_ret
    exact ⟨ret_bool Hr.out, hf1⟩
  · rintro e w1 ⟨rfl, hf1⟩
    go_wp2_with fail
    go_ret
    exact ⟨ret_bool (by simp), hx.step hf1 (fun _ _ h => h)⟩

def SplitR (s : ByteArray) (e : Ending) (w' : World) (B : Nat) : Prop :=
  (goodPath s = false ∧ e = .returned (.tuple #[.slice none 0 0, .int .i64 10])) ∨
  (goodPath s = true ∧ ∃ ad, e = .returned (.tuple #[.slice (some ad) (sparts s).length (sparts s).length, .int .i64 0]) ∧ Strs w' (some ad) (sparts s).length (sparts s) ∧ B ≤ ad.block)

set_option maxRecDepth 100000 in
set_option maxHeartbeats 1000000 in
theorem n_split (s : ByteArray) (m : Int) (w : World) (hs : s.size ≤ 1000000) (hm : w.cell? ⟨0, 0, none⟩ = some (.int .i64 m)) :
    Calls Tryz.prog 135 #[.string s] w fun e w' => SplitR s e w' w.heap.size ∧ Fr No w w' := by
  have hml : (1000001 : Nat) ≤ maxLen := by unfold maxLen; omega
  have hcut := Tryz.strings_CutPrefix s ⟨#[47]⟩ w
  obtain ⟨rest, hrest⟩ : ∃ r, r = (⟨(Lib.trimPrefix s.data.toList [47]).toArray⟩ : ByteArray) := ⟨_, rfl⟩
  have hrs : rest.size ≤ 1000000 := by
    rw [hrest]
    have h2 := trim_le s.data.toList [47]
    simp only [ByteArray.size, List.size_toArray]
    simp at h2
    omega
  have hps : sparts s = (spl 47 rest.data.toList).map fun x => ⟨x.toArray⟩ := by rw [hrest]; rfl
  obtain ⟨pp, hpp⟩ : ∃ pp, pp = sparts s := ⟨_, rfl⟩
  have hg : goodPath s = (Lib.hasPrefix s.data.toList [47] && pp.all isName) := by rw [hpp]; rfl
  have hsz : ∀ x ∈ pp, x.size ≤ maxLen := fun x hx => by rw [hpp] at hx; have := sparts_size s x hx; omega
  have hcnt := split_len rest
  have hspl := split_parts rest
  rw [← hps, ← hpp] at hcnt hspl
  have hle := Lib.countB_le ⟨#[47]⟩ (by decide) rest.size rest (Nat.le_refl _)
  have hpl : pp.length ≤ maxLen := by omega
  have hcut' : Calls Tryz.prog 173 #[.string s, .string ⟨#[47]⟩] w fun e w' => e = .returned (.tuple #[.string rest, .bool (Lib.hasPrefix s.data.toList [47])]) ∧ w' = w := by rw [hrest]; exact hcut
  have Hg := Lib.hid hg
  have Hpp := Lib.hid hpp
  have Hspl := Lib.hid hspl
  have Hcnt := Lib.hid hcnt
  clear hcut hrest hps hpp hg hcnt hspl
  generalize Lib.hasPrefix s.data.toList [47] = pre at *
  go_enter Tryz.func135, Tryz.ntmps135
  go_wp2_with fail
  refine hcut'.mono ?_
  rintro e w1 ⟨rfl, rfl⟩
  go_wp2_with fail
  refine (Tryz.strings_Split rest ⟨#[47]⟩ m _ (by omega) hm (by decide)).mono ?_
  rintro e w2 ⟨rfl, rfl⟩
  rw [Hspl.out, Hcnt.out]
  have hx : Fr No w1 (w1.alloc (.cells ((pp.map Value.string).toArray) 9)) := (Fr.refl _ _).alloc _
  have hS := Strs.new w1 pp 9 hpl
  have hb0 : w1.heap.size < (w1.alloc (.cells ((pp.map Value.string).toArray) 9)).heap.size := by simp
  clear hm hle
  generalize w1.alloc (.cells ((pp.map Value.string).toArray) 9) = W2 at *
  cases pre with
  | false =>
    have Hb : Hid (goodPath s = false) := by unfold Hid; rw [Hg.out]; rfl
    go_wp2_with fail
    go_ret2
    exact ⟨.inl ⟨Hb.out, rfl⟩, hx⟩
  | true =>
    have Hx := Lib.hid hx
    have HS := Lib.hid hS
    clear hx
    go_wp2_with fail
    refine (name_all _ _ pp _ hS hsz).mono ?_
    rintro e w3 ⟨rfl, hf3⟩
    have HS3 := Lib.hid (HS.out.no hf3 (fun _ => id))
    have Hf3 := Lib.hid (Hx.out.step hf3 (fun _ _ h => h))
    clear hS hsz hf3
    cases hal : pp.all isName with
    | false =>
      have Hb : Hid (goodPath s = false) := by unfold Hid; rw [Hg.out, hal]; rfl
      clear hal
      go_wp2_with fail
      go_ret2
      exact ⟨.inl ⟨Hb.out, rfl⟩, Hf3.out⟩
    | true =>
      have Hb : Hid (goodPath s = true) := by unfold Hid; rw [Hg.out, hal]; rfl
      clear hal
      go_wp2_with fail
      go_ret2
      refine ⟨.inr ⟨Hb.out, ⟨w1.heap.size, 0, none⟩, ?_, ?_, Nat.le_refl _⟩, Hf3.out⟩
      · rw [← Hpp.out]; rfl
      · rw [← Hpp.out]; exact HS3.out

def errP (b : Bool) : Int := if b = true then 0 else 10
/-- A path lies below another one. -/
def underB (d p : ByteArray) : Bool := goodPath d && goodPath p && decide ((sparts d).length < (sparts p).length) && decide ((sparts p).take (sparts d).length = sparts d)

end Go.Proofs.YtmieegcgeolckaaGreatDoor
