/- Texts: in, Printable, Valid, Text, Interface: each returns some truth value and leaves the world. -/
import Derived.Test.YtanaompgapiikaaGreatDoorD1
import Derived.Test.YtanaompgapiikaaGreatDoorStrs
namespace Go.Proofs.YtanaompgapiikaaGreatDoor
open Go.RowKit
set_option linter.unusedVariables false

/-- Some truth value is returned. -/
def RetB (e : Ending) : Prop := ∃ b, e = .returned (.bool b)
theorem RetB.mk (b : Bool) : RetB (.returned (.bool b)) := ⟨b, rfl⟩
/-- A truth value is returned; if it is true, then p. -/
def RetIf (p : Prop) (e : Ending) : Prop := ∃ b, e = .returned (.bool b) ∧ (b = true → p)
theorem RetIf.no (p : Prop) : RetIf p (.returned (.bool false)) := ⟨false, rfl, fun h => by cases h⟩
theorem RetIf.yes {p : Prop} (h : p) (b : Bool) : RetIf p (.returned (.bool b)) := ⟨b, rfl, fun _ => h⟩

set_option maxHeartbeats 400000 in
theorem t_in (s set : ByteArray) (w : World) (hs : s.size ≤ maxLen) :
    Calls Tryz.prog 194 #[.string s, .string set] w fun e w' => RetB e ∧ w = w' := by
  have hm : s.size ≤ 9223372036854775807 := by unfold maxLen at hs; omega
  go_enter Tryz.func194, Tryz.ntmps194
  go_wp2
  go_loop [5] (fun i => ∃ k : Nat, k ≤ s.size ∧ i = .int .i64 k) (fun i => s.size - (intOf i).toNat)
  case atStart => exact ⟨0, by omega, rfl⟩
  case round =>
    obtain ⟨k, hk, rfl⟩ := hrel
    by_cases hlt : k < s.size
    · go_wp2_with fail
      refine (Tryz.strings_IndexByte set _ _).mono ?_
      rintro e w1 ⟨rfl, rfl⟩
      generalize Lib.indexByte _ _ = q
      by_cases hq : q < 0
      · go_wp2
        go_ret
        exact ⟨RetB.mk false, rfl⟩
      · go_wp2
        go_round
        case rel => exact ⟨k + 1, by omega, by go_num⟩
        case measure => simp [intOf]; omega
    · go_wp2
      go_ret
      exact ⟨RetB.mk true, rfl⟩

set_option maxHeartbeats 400000 in
theorem t_printable (s : ByteArray) (w : World) (hs : s.size ≤ maxLen) :
    Calls Tryz.prog 195 #[.string s] w fun e w' => RetB e ∧ w = w' := by
  have hm : s.size ≤ 9223372036854775807 := by unfold maxLen at hs; omega
  go_enter Tryz.func195, Tryz.ntmps195
  go_wp2
  go_loop [3] (fun i => ∃ k : Nat, k ≤ s.size ∧ i = .int .i64 k) (fun i => s.size - (intOf i).toNat)
  case atStart => exact ⟨0, by omega, rfl⟩
  case round =>
    obtain ⟨k, hk, rfl⟩ := hrel
    by_cases hlt : k < s.size
    · go_wp2
      all_goals first
        | (go_ret; exact ⟨RetB.mk false, rfl⟩)
        | (go_round
           case rel => exact ⟨k + 1, by omega, by go_num⟩
           case measure => simp [intOf]; omega)
    · go_wp2
      go_ret
      exact ⟨RetB.mk true, rfl⟩

set_option maxHeartbeats 400000 in
theorem t_valid (s : ByteArray) (w : World) (hs : s.size ≤ maxLen) :
    Calls Tryz.prog 147 #[.string s] w fun e w' => RetIf (s.size ≤ 32) e ∧ w = w' := by
  have hm : s.size ≤ 9223372036854775807 := by unfold maxLen at hs; omega
  have hyes : s.size ≤ 32 → Hid (s.size ≤ 32) := id
  by_cases h1 : s.size ≤ 32
  · have H1 := hyes h1
    clear hyes
    go_enter Tryz.func147, Tryz.ntmps147
    go_wp2_with fail
    · go_ret
      exact ⟨⟨_, rfl, fun _ => by first | exact H1.out | trivial⟩, rfl⟩
    · refine (t_in s _ _ hs).mono ?_
      rintro e w1 ⟨⟨b, rfl⟩, rfl⟩
      cases b
      all_goals
        go_wp2
        all_goals
          go_ret
          exact ⟨⟨_, rfl, fun _ => by first | exact H1.out | trivial⟩, rfl⟩
  · clear hyes
    go_enter Tryz.func147, Tryz.ntmps147
    go_wp2_with fail
    all_goals
      go_ret
      exact ⟨RetIf.no _, rfl⟩

set_option maxHeartbeats 400000 in
theorem t_text (s : ByteArray) (w : World) (hs : s.size ≤ maxLen) :
    Calls Tryz.prog 148 #[.string s] w fun e w' => RetB e ∧ w = w' := by
  have hm : s.size ≤ 9223372036854775807 := by unfold maxLen at hs; omega
  go_enter Tryz.func148, Tryz.ntmps148
  go_wp2_with fail
  refine (t_printable s _ hs).mono ?_
  rintro e w1 ⟨⟨b, rfl⟩, rfl⟩
  cases b
  all_goals
    go_wp2
    all_goals
      go_ret
      exact ⟨RetB.mk _, rfl⟩

theorem t_contains (s : ByteArray) (c : UInt8) (w : World) :
    Calls Tryz.prog 51 #[.string s, .string ⟨#[c]⟩] w fun e w' => RetB e ∧ w = w' :=
  (Tryz.strings_Contains_one s c w).mono fun e w' ⟨h1, h2⟩ => ⟨⟨_, h1⟩, h2.symm⟩

set_option maxHeartbeats 400000 in
theorem t_interface (s : ByteArray) (w : World) (hs : s.size ≤ maxLen) :
    Calls Tryz.prog 149 #[.string s] w fun e w' => RetB e ∧ w = w' := by
  have hm : s.size ≤ 9223372036854775807 := by unfold maxLen at hs; omega
  go_enter Tryz.func149, Tryz.ntmps149
  go_wp2_with fail
  refine (t_valid s _ hs).mono ?_
  rintro e w1 ⟨⟨b, rfl, _⟩, rfl⟩
  by_cases h15 : s.size ≤ 15
  all_goals
    cases b
    all_goals
      go_wp2_with fail
  all_goals first
    | (go_ret; exact ⟨RetB.mk _, rfl⟩)
    | (refine (t_contains s 58 _).mono ?_
       rintro e w1 ⟨⟨q, rfl⟩, rfl⟩
       cases q
       all_goals
         go_wp2_with fail
       all_goals first
         | (go_ret; exact ⟨RetB.mk _, rfl⟩)
         | (refine (t_contains s 33 _).mono ?_
            rintro e w1 ⟨⟨q, rfl⟩, rfl⟩
            go_wp2_with fail
            go_ret
            exact ⟨RetB.mk _, rfl⟩))
end Go.Proofs.YtanaompgapiikaaGreatDoor
