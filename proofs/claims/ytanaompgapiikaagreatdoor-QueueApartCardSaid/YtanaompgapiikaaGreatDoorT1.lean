/- Texts: in, Printable, Valid, Text, Interface: each returns some truth value and leaves the world. -/
import Derived.Test.YtanaompgapiikaaGreatDoorD1
import Derived.Test.YtanaompgapiikaaGreatDoorStrs
import Derived.Lib.IndexAny
namespace Go.Proofs.YtanaompgapiikaaGreatDoor
open Go.RowKit
set_option linter.unusedVariables false

/-- Some truth value is returned. -/
def RetB (e : Ending) : Prop := ∃ b, e = .returned (.bool b)
theorem RetB.mk (b : Bool) : RetB (.returned (.bool b)) := ⟨b, rfl⟩
/-- A truth value is returned; if it is true, then p. -/
def RetIf (p : Prop) (e : Ending) : Prop := ∃ b, e = .returned (.bool b) ∧ (b = true → p)
theorem RetIf.no (p : Prop) : RetIf p (.returned (.bool false)) := ⟨false, rfl, fun h => by cases h⟩
theorem RetIf.yes {p : Prop} (h : p) (b : Bool) : RetIf p (.returned (.bool b)) := ⟨b, rfl, fun _ => h⟩

set_option maxHeartbeats 400000 in
theorem t_in (s set : ByteArray) (w : World) (hs : s.size ≤ maxLen) :
    Calls Tryz.prog 194 #[.string s, .string set] w fun e w' => RetB e ∧ w = w' := by
  have hm : s.size ≤ 9223372036854775807 := by unfold maxLen at hs; omega
  go_enter Tryz.func194, Tryz.ntmps194
  go_wp2
  go_loop [5] (fun i => ∃ k : Nat, k ≤ s.size ∧ i = .int .i64 k) (fun i => s.size - (intOf i).toNat)
  case atStart => exact ⟨0, by omega, rfl⟩
  case round =>
    obtain ⟨k, hk, rfl⟩ := hrel
    by_cases hlt : k < s.size
    · go_wp2_with fail
      refine (Tryz.strings_IndexByte set _ _).mono ?_
      rintro e w1 ⟨rfl, rfl⟩
      generalize Lib.indexByte _ _ = q
      by_cases hq : q < 0
      · go_wp2
        go_ret
        exact ⟨RetB.mk false, rfl⟩
      · go_wp2
        go_round
        case rel => exact ⟨k + 1, by omega, by go_num⟩
        case measure => simp [intOf]; omega
    · go_wp2
      go_ret
      exact ⟨RetB.mk true, rfl⟩

set_option maxHeartbeats 400000 in
theorem t_printable (s : ByteArray) (w : World) (hs : s.size ≤ maxLen) :
    Calls Tryz.prog 195 #[.string s] w fun e w' => RetB e ∧ w = w' := by
  have hm : s.size ≤ 9223372036854775807 := by unfold maxLen at hs; omega
  go_enter Tryz.func195, Tryz.ntmps195
  go_wp2
  go_loop [3] (fun i => ∃ k : Nat, k ≤ s.size ∧ i = .int .i64 k) (fun i => s.size - (intOf i).toNat)
  case atStart => exact ⟨0, by omega, rfl⟩
  case round =>
    obtain ⟨k, hk, rfl⟩ := hrel
    by_cases hlt : k < s.size
    · go_wp2
      all_goals first
        | (go_ret; exact ⟨RetB.mk false, rfl⟩)
        | (go_round
           case rel => exact ⟨k + 1, by omega, by go_num⟩
           case measure => simp [intOf]; omega)
    · go_wp2
      go_ret
      exact ⟨RetB.mk true, rfl⟩

def inSet (s set : ByteArray) : Bool := s.data.toList.all set.data.toList.contains
def nameBA : ByteArray := ⟨#[65, 66, 67, 68, 69, 70, 71, 72, 73, 74, 75, 76, 77, 78, 79, 80, 81, 82, 83, 84, 85, 86, 87, 88, 89, 90, 97, 98, 99, 100, 101, 102, 103, 104, 105, 106, 107, 108, 109, 110, 111, 112, 113, 114, 115, 116, 117, 118, 119, 120, 121, 122, 48, 49, 50, 51, 52, 53, 54, 55, 56, 57, 95, 46, 58, 43, 45, 33]⟩
/-- A name. -/
def isName (s : ByteArray) : Bool := !decide (s.toList = []) && decide (s.size ≤ 32) && inSet s nameBA && !decide (s.toList = [46]) && !decide (s.toList = [46, 46])
theorem all_take_succ (p : UInt8 → Bool) (l : List UInt8) (k : Nat) (x : UInt8) (h : l[k]? = some x) (h1 : (l.take k).all p = true) (h2 : p x = true) : (l.take (k + 1)).all p = true := by
  rw [List.take_add_one, h, List.all_append, h1]
  simp [h2]
theorem all_no (p : UInt8 → Bool) (l : List UInt8) (k : Nat) (x : UInt8) (h : l[k]? = some x) (h2 : p x = false) : l.all p = false := by
  rw [List.all_eq_false]
  exact ⟨x, List.mem_of_getElem? h, by simp [h2]⟩

set_option maxHeartbeats 400000 in
theorem v_in (s set : ByteArray) (w : World) (hs : s.size ≤ maxLen) :
    Calls Tryz.prog 194 #[.string s, .string set] w fun e w' => e = .returned (.bool (inSet s set)) ∧ w = w' := by
  have hm : s.size ≤ 9223372036854775807 := by unfold maxLen at hs; omega
  go_enter Tryz.func194, Tryz.ntmps194
  go_wp2
  go_loop [5] (fun i => ∃ k : Nat, k ≤ s.size ∧ i = .int .i64 k ∧ Hid ((s.data.toList.take k).all set.data.toList.contains = true)) (fun i => s.size - (intOf i).toNat)
  case atStart => exact ⟨0, by omega, rfl, by unfold Hid; simp⟩
  case round =>
    obtain ⟨k, hk, rfl, hno⟩ := hrel
    by_cases hlt : k < s.size
    · go_wp2_with fail
      refine (Tryz.strings_IndexByte set _ _).mono ?_
      rintro e w1 ⟨rfl, rfl⟩
      have hx : s.data.toList[k]? = some s[k] := by
        rw [Array.getElem?_toList]; exact Array.getElem?_eq_getElem (by simpa using hlt)
      have hq : set.data.toList.contains s[k] = decide (0 ≤ Lib.indexByte set.data.toList ((s[k].toNat : Int)).toNat.toUInt8) := by
        rw [Lib.contains_iff_indexByte]; simp
      have Hx := Lib.hid hx
      have Hq := Lib.hid hq
      clear hx hq
      generalize Lib.indexByte _ _ = q at *
      by_cases hq0 : q < 0
      · go_wp2
        go_ret
        refine ⟨ret_bool ?_, rfl⟩
        exact (all_no _ _ _ _ Hx.out (by rw [Hq.out]; simp; omega)).symm
      · go_wp2
        go_round
        case rel => exact ⟨k + 1, by omega, by go_num, all_take_succ _ _ _ _ Hx.out hno.out (by rw [Hq.out]; simp; omega)⟩
        case measure => simp [intOf]; omega
    · go_wp2
      go_ret
      refine ⟨ret_bool ?_, rfl⟩
      have := hno.out
      rw [List.take_of_length_le (by simp; omega)] at this
      unfold inSet
      rw [this]

set_option maxHeartbeats 1000000 in
theorem v_valid (s : ByteArray) (w : World) (hs : s.size ≤ maxLen) :
    Calls Tryz.prog 147 #[.string s] w fun e w' => e = .returned (.bool (isName s)) ∧ w = w' := by
  have hm : s.size ≤ 9223372036854775807 := by unfold maxLen at hs; omega
  by_cases h0 : s.toList = []
  · have H : Hid (isName s = false) := by unfold Hid isName; simp [h0]
    go_enter Tryz.func147, Tryz.ntmps147
    go_wp2_with fail
    all_goals (go_ret; exact ⟨ret_bool H.out.symm, rfl⟩)
  · by_cases h1 : s.size ≤ 32
    · go_enter Tryz.func147, Tryz.ntmps147
      go_wp2_with fail
      refine (v_in s _ _ hs).mono ?_
      rintro e w1 ⟨rfl, rfl⟩
      generalize hb : inSet s _ = b
      have hb' : inSet s nameBA = b := hb
      clear hb
      by_cases h2 : s.toList = [46]
      · have H : Hid (isName s = false) := by unfold Hid isName; simp [h2]
        cases b
        all_goals
          go_wp2_with fail
          all_goals (go_ret; exact ⟨ret_bool H.out.symm, rfl⟩)
      · by_cases h3 : s.toList = [46, 46]
        · have H : Hid (isName s = false) := by unfold Hid isName; simp [h3]
          cases b
          all_goals
            go_wp2_with fail
            all_goals (go_ret; exact ⟨ret_bool H.out.symm, rfl⟩)
        · have H : Hid (isName s = b) := by unfold Hid isName; simp [h0, h1, h2, h3, hb']
          have e0 : s.toList.isEmpty = false := by simp [h0]
          have e2 : (s.toList == [46]) = false := by simp [h2]
          have e3 : (s.toList == [46, 46]) = false := by simp [h3]
          clear hb' h0 h2 h3
          cases b
          all_goals
            go_wp2_with fail
            all_goals (go_ret; exact ⟨ret_bool H.out.symm, rfl⟩)
    · have H : Hid (isName s = false) := by unfold Hid isName; simp [h1]
      go_enter Tryz.func147, Tryz.ntmps147
      go_wp2_with fail
      all_goals (go_ret; exact ⟨ret_bool H.out.symm, rfl⟩)
theorem isName_ok {s : ByteArray} (h : isName s = true) : OkN s := by
  unfold isName at h
  simp only [Bool.and_eq_true, decide_eq_true_eq] at h
  obtain ⟨⟨⟨⟨_, h1⟩, h2⟩, _⟩, _⟩ := h
  refine ⟨h1, fun b hb e => ?_⟩
  unfold inSet at h2
  rw [List.all_eq_true] at h2
  have := h2 b hb
  subst e
  revert this
  decide
theorem t_valid (s : ByteArray) (w : World) (hs : s.size ≤ maxLen) :
    Calls Tryz.prog 147 #[.string s] w fun e w' => RetIf (OkN s) e ∧ w = w' :=
  (v_valid s w hs).mono fun e w' ⟨h1, h2⟩ => ⟨⟨_, h1, isName_ok⟩, h2⟩

set_option maxHeartbeats 400000 in
theorem t_text (s : ByteArray) (w : World) (hs : s.size ≤ maxLen) :
    Calls Tryz.prog 148 #[.string s] w fun e w' => RetB e ∧ w = w' := by
  have hm : s.size ≤ 9223372036854775807 := by unfold maxLen at hs; omega
  go_enter Tryz.func148, Tryz.ntmps148
  go_wp2_with fail
  refine (t_printable s _ hs).mono ?_
  rintro e w1 ⟨⟨b, rfl⟩, rfl⟩
  cases b
  all_goals
    go_wp2
    all_goals
      go_ret
      exact ⟨RetB.mk _, rfl⟩

theorem t_contains (s : ByteArray) (c : UInt8) (w : World) :
    Calls Tryz.prog 51 #[.string s, .string ⟨#[c]⟩] w fun e w' => RetB e ∧ w = w' :=
  (Tryz.strings_Contains_one s c w).mono fun e w' ⟨h1, h2⟩ => ⟨⟨_, h1⟩, h2.symm⟩

set_option maxHeartbeats 400000 in
theorem t_interface (s : ByteArray) (w : World) (hs : s.size ≤ maxLen) :
    Calls Tryz.prog 149 #[.string s] w fun e w' => RetB e ∧ w = w' := by
  have hm : s.size ≤ 9223372036854775807 := by unfold maxLen at hs; omega
  go_enter Tryz.func149, Tryz.ntmps149
  go_wp2_with fail
  refine (t_valid s _ hs).mono ?_
  rintro e w1 ⟨⟨b, rfl, _⟩, rfl⟩
  by_cases h15 : s.size ≤ 15
  all_goals
    cases b
    all_goals
      go_wp2_with fail
  all_goals first
    | (go_ret; exact ⟨RetB.mk _, rfl⟩)
    | (refine (t_contains s 58 _).mono ?_
       rintro e w1 ⟨⟨q, rfl⟩, rfl⟩
       cases q
       all_goals
         go_wp2_with fail
       all_goals first
         | (go_ret; exact ⟨RetB.mk _, rfl⟩)
         | (refine (t_contains s 33 _).mono ?_
            rintro e w1 ⟨⟨q, rfl⟩, rfl⟩
            go_wp2_with fail
            go_ret
            exact ⟨RetB.mk _, rfl⟩))
end Go.Proofs.YtanaompgapiikaaGreatDoor
