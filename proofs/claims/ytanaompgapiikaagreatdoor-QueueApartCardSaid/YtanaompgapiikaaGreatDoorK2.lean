/- name.Valid and coldplugref01.Valid: the same test. -/
import Derived.Test.YtanaompgapiikaaGreatDoorT1
import Derived.Test.YtanaompgapiikaaGreatDoorD1
import Derived.Lib.IndexAny
import Derived.Laws.Rows
namespace Go.Proofs.YtanaompgapiikaaGreatDoor
open Go.RowKit
set_option linter.unusedVariables false

/-- A set of bytes as a value: 256 truth values. -/
def bits (f : UInt8 → Bool) : Array Value := Array.ofFn (n := 256) fun i => .bool (f (UInt8.ofNat i.val))
def allB (f : UInt8 → Bool) (s : ByteArray) : Bool := s.data.toList.all f
theorem bits_size (f : UInt8 → Bool) : (bits f).size = 256 := by simp [bits]
theorem bits_one (g : UInt8 → Bool) : (bits g).all (·.oneCell') = true := by
  rw [Array.all_eq_true_iff_forall_mem]
  intro v hv
  obtain ⟨i, rfl⟩ := (Array.mem_ofFn).1 hv
  rfl
theorem bits_at (f : UInt8 → Bool) (c : UInt8) : (bits f)[c.toNat]? = some (.bool (f c)) := by
  have : c.toNat < 256 := c.toNat_lt
  rw [Array.getElem?_eq_getElem (by rw [bits_size]; exact this)]
  simp [bits]
theorem bits_set (f : UInt8 → Bool) (c : UInt8) : (bits f).setIfInBounds c.toNat (.bool true) = bits (fun x => f x || x == c) := by
  have : c.toNat < 256 := c.toNat_lt
  apply Array.ext
  · simp [bits_size]
  · intro i h1 h2
    rw [bits_size] at h2
    rw [Array.getElem_setIfInBounds (by rw [bits_size]; exact h2)]
    simp only [bits, Array.getElem_ofFn]
    by_cases e : c.toNat = i
    · subst e; simp
    · rw [if_neg e]
      have : (UInt8.ofNat i == c) = false := by
        rw [beq_eq_false_iff_ne]; intro h; subst h; apply e; simp; omega
      rw [this, Bool.or_false]

set_option maxRecDepth 100000 in
set_option maxHeartbeats 1000000 in
theorem nset_has (f : UInt8 → Bool) (s : ByteArray) (w : World) (hs : s.size ≤ maxLen) :
    Calls Tryz.prog 258 #[.agg (bits f), .string s] w fun e w' => e = .returned (.bool (allB f s)) ∧ Fr No w w' := by
  have hm : s.size ≤ 9223372036854775807 := by unfold maxLen at hs; omega
  have hx : Fr No w (w.alloc (.cells (bits f) 277)) := (Fr.refl _ _).alloc _
  have hb := block_alloc w (.cells (bits f) 277)
  have c0 : ∀ c : UInt8, (w.alloc (.cells (bits f) 277)).cell? ⟨w.heap.size, c.toNat, none⟩ = some (.bool (f c)) := fun c => (cell_of_block hb _).trans (bits_at f c)
  go_enter Tryz.func258, Tryz.ntmps258
  go_wp2
  generalize w.alloc (.cells (bits f) 277) = W0 at *
  go_loop [8] (fun i => ∃ k : Nat, k ≤ s.size ∧ i = .int .i64 k ∧ Hid ((s.data.toList.take k).all f = true)) (fun i => s.size - (intOf i).toNat)
  case atStart => exact ⟨0, by omega, rfl, by unfold Hid; simp⟩
  case round =>
    obtain ⟨k, hk, rfl, hno⟩ := hrel
    by_cases hlt : k < s.size
    · have hx' : s.data.toList[k]? = some s[k] := by
        rw [Array.getElem?_toList]; exact Array.getElem?_eq_getElem (by simpa using hlt)
      have Hx := Lib.hid hx'
      have hc1 : ((s[k].toNat : Nat) : Int) < 256 := by have := s[k].toNat_lt; omega
      have hc := c0 s[k]
      rcases hq : f s[k] with _ | _
      · rw [hq] at hc
        have Hq := Lib.hid hq
        clear hq hx' c0
        go_wp2
        go_ret
        exact ⟨ret_bool (all_no _ _ _ _ Hx.out Hq.out).symm, hx⟩
      · rw [hq] at hc
        have Hq := Lib.hid hq
        clear hq hx' c0
        go_wp2
        go_round
        case rel => exact ⟨k + 1, by omega, by go_num, all_take_succ _ _ _ _ Hx.out hno.out Hq.out⟩
        case measure => simp [intOf]; omega
    · go_wp2
      go_ret
      refine ⟨ret_bool ?_, hx⟩
      have := hno.out
      rw [List.take_of_length_le (by simp; omega)] at this
      unfold allB
      rw [this]

set_option maxRecDepth 100000 in
set_option maxHeartbeats 1000000 in
theorem nset_plus (f : UInt8 → Bool) (s : ByteArray) (w : World) (hs : s.size ≤ maxLen) :
    Calls Tryz.prog 257 #[.agg (bits f), .string s] w fun e w' => e = .returned (.agg (bits fun c => f c || s.data.toList.contains c)) ∧ Fr No w w' := by
  have hm : s.size ≤ 9223372036854775807 := by unfold maxLen at hs; omega
  have hx : Fr No w (w.alloc (.cells (bits f) 277)) := (Fr.refl _ _).alloc _
  have hb := block_alloc w (.cells (bits f) 277)
  have hi : (Tryz.prog.info? 277).map (·.size) = some 256 := by kernel_rfl
  have hz : Tryz.zeroCells277.size = 256 := by kernel_rfl
  have p0 := block_alloc1 w (.cells (bits f) 277) (.cells Tryz.zeroCells277 277)
  have p1 := block_alloc2 w (.cells (bits f) 277) (.cells Tryz.zeroCells277 277)
  have h2 : Fr No w ((w.alloc (.cells (bits f) 277)).alloc (.cells Tryz.zeroCells277 277)) := hx.alloc _
  clear hx hb
  go_enter Tryz.func257, Tryz.ntmps257
  go_wp2
  generalize (w.alloc (.cells (bits f) 277)).alloc (.cells Tryz.zeroCells277 277) = W0 at *
  go_loopw [8] (fun i wr => ∃ k : Nat, k ≤ s.size ∧ i = .int .i64 k ∧ Hid (wr.heap[w.heap.size]? = some (.cells (bits fun c => f c || (s.data.toList.take k).contains c) 277)) ∧ Hid (wr.heap[w.heap.size + 1]? = some (.cells Tryz.zeroCells277 277)) ∧ Fr No w wr) (fun i _ => s.size - (intOf i).toNat)
  case atStart => exact ⟨0, by omega, rfl, by unfold Hid; simpa using p0, p1, h2⟩
  case round =>
    obtain ⟨k, hk, rfl, hb0, hb1, hfr⟩ := hrel
    clear p0 p1 h2
    by_cases hlt : k < s.size
    · have hx' : s.data.toList[k]? = some s[k] := by
        rw [Array.getElem?_toList]; exact Array.getElem?_eq_getElem (by simpa using hlt)
      have Hx := Lib.hid hx'
      have hc1 : ((s[k].toNat : Nat) : Int) < 256 := by have := s[k].toNat_lt; omega
      have c0 := (cell_of_block hb0.out s[k].toNat).trans (bits_at _ _)
      have f0 := free_of_block hb0.out s[k].toNat
      have hfr1 : Fr No w (wr.setCell ⟨w.heap.size, s[k].toNat, none⟩ (.bool true)) := hfr.setCell (by simp) _
      have q0 := block_setCell hb0.out s[k].toNat (.bool true)
      rw [bits_set] at q0
      have q1 := (Fr.setAt (Fr.refl (Is w.heap.size) wr) (i := s[k].toNat) (.bool true)).heap hb1.out (fun e => by unfold Is at e; omega)
      have Q := Lib.hid (And.intro q0 (And.intro q1 hfr1))
      clear q0 q1 hfr1 hx'
      go_wp2
      go_roundw
      case rel =>
        refine ⟨k + 1, by omega, by go_num, ?_, Q.out.2.1, Q.out.2.2⟩
        unfold Hid
        rw [Q.out.1, List.take_add_one, Hx.out]
        congr 3
        funext c
        have e : (c == s[k]) = decide (c = s[k]) := by by_cases h : c = s[k] <;> simp [h]
        simp [Bool.or_assoc, e]
      case measure => simp [intOf]; omega
    · obtain rfl : k = s.size := by omega
      have q0 := hb0.out
      rw [List.take_of_length_le (by simp)] at q0
      have q0' := Lib.hid q0
      clear hb0 q0
      go_wp2_with (first
        | (refine wpList_load_row rfl 277 _ rfl w.heap.size rfl 277 _ (0, 0) _ q0'.out Tryz.underlying277 rfl (by rw [bits_size]; exact hi) ?_)
        | (refine wpList_store_row rfl 277 _ _ rfl (w.heap.size + 1) _ rfl rfl 277 _ hb1.out (by rw [bits_size]; exact hi) (by rw [bits_size]; exact hz) (bits_one _) ?_))
      have hg := setRow_heap wr (w.heap.size + 1) _ (bits fun c => f c || s.data.toList.contains c) 277 (0, 0) hb1.out
      refine bodyPost_ret (v := .agg (bits fun c => f c || s.data.toList.contains c)) (results_cell_row rfl _ _ (w.heap.size + 1) 277 _ (0, 0) _ rfl hg Tryz.underlying277 rfl (by rw [bits_size]; exact hi)) rfl ?_
      refine ⟨rfl, hfr.step (T := Is (w.heap.size + 1)) ⟨rfl, rfl, rfl, by simp, fun b _ hb => setRow_other _ _ _ _ (fun e => hb e)⟩ (fun b hb e => by unfold Is at e; omega)⟩

/-- The bytes of names but '!'. -/
def commonF : UInt8 → Bool := fun c => ((((false || [65, 66, 67, 68, 69, 70, 71, 72, 73, 74, 75, 76, 77, 78, 79, 80, 81, 82, 83, 84, 85, 86, 87, 88, 89, 90].contains c) || [97, 98, 99, 100, 101, 102, 103, 104, 105, 106, 107, 108, 109, 110, 111, 112, 113, 114, 115, 116, 117, 118, 119, 120, 121, 122].contains c) || [48, 49, 50, 51, 52, 53, 54, 55, 56, 57].contains c) || [95, 46, 58, 43, 45].contains c)
theorem zero_bits : Tryz.zeroCells277 = bits (fun _ => false) := by kernel_rfl

theorem nset_plus0 (s : ByteArray) (w : World) (hs : s.size ≤ maxLen) :
    Calls Tryz.prog 257 #[.agg Tryz.zeroCells277, .string s] w fun e w' => e = .returned (.agg (bits fun c => false || s.data.toList.contains c)) ∧ Fr No w w' := by
  rw [zero_bits]
  exact nset_plus _ s w hs
def upperBA : ByteArray := ⟨#[65, 66, 67, 68, 69, 70, 71, 72, 73, 74, 75, 76, 77, 78, 79, 80, 81, 82, 83, 84, 85, 86, 87, 88, 89, 90]⟩
theorem lower_upper (w : World) :
    Calls Tryz.prog 283 #[.string ⟨#[65, 66, 67, 68, 69, 70, 71, 72, 73, 74, 75, 76, 77, 78, 79, 80, 81, 82, 83, 84, 85, 86, 87, 88, 89, 90]⟩] w fun e w' => e = .returned (.string ⟨#[97, 98, 99, 100, 101, 102, 103, 104, 105, 106, 107, 108, 109, 110, 111, 112, 113, 114, 115, 116, 117, 118, 119, 120, 121, 122]⟩) ∧ Fr No w w' := by
  have h : ∀ b ∈ upperBA.data.toList, b.toNat < 128 := by decide
  refine (Tryz.strings_ToLower_ascii upperBA w (by decide) (fun j b hb => h b (List.mem_of_getElem? hb))).mono ?_
  rintro e w' ⟨rfl, hb⟩
  exact ⟨by congr 2, Fr.of_below_size hb⟩

set_option maxRecDepth 100000 in
set_option maxHeartbeats 1000000 in
theorem nset_common (w : World) :
    Calls Tryz.prog 256 #[] w fun e w' => e = .returned (.agg (bits commonF)) ∧ Fr No w w' := by
  have hi : (Tryz.prog.info? 277).map (·.size) = some 256 := by kernel_rfl
  have hz : Tryz.zeroCells277.size = 256 := by kernel_rfl
  have h0 : Fr No w (w.alloc (.cells Tryz.zeroCells277 277)) := (Fr.refl _ _).alloc _
  have p0 := block_alloc w (.cells Tryz.zeroCells277 277)
  have P0 := Lib.hid (And.intro p0 h0)
  clear p0 h0
  go_enter Tryz.func256, Tryz.ntmps256
  go_wp2_with fail
  refine (nset_plus0 _ _ (by decide)).mono ?_
  rintro e w1 ⟨rfl, hf1⟩
  go_wp2_with fail
  refine (lower_upper _).mono ?_
  rintro e w2 ⟨rfl, hf2⟩
  go_wp2_with fail
  refine (nset_plus _ _ _ (by decide)).mono ?_
  rintro e w3 ⟨rfl, hf3⟩
  go_wp2_with fail
  refine (nset_plus _ _ _ (by decide)).mono ?_
  rintro e w4 ⟨rfl, hf4⟩
  go_wp2_with fail
  refine (nset_plus _ _ _ (by decide)).mono ?_
  rintro e w5 ⟨rfl, hf5⟩
  have hfr := ((((P0.out.2.step hf1 (fun _ _ h => h)).step hf2 (fun _ _ h => h)).step hf3 (fun _ _ h => h)).step hf4 (fun _ _ h => h)).step hf5 (fun _ _ h => h)
  have p5 := hf5.heap (hf4.heap (hf3.heap (hf2.heap (hf1.heap P0.out.1 id) id) id) id) id
  obtain ⟨F, hF⟩ : ∃ F, F = commonF := ⟨_, rfl⟩
  go_wp2_with (refine wpList_store_row rfl 277 _ _ rfl w.heap.size (bits commonF) rfl rfl 277 _ p5 (by rw [bits_size]; exact hi) (by rw [bits_size]; exact hz) (bits_one _) ?_)
  have hg := setRow_heap w5 w.heap.size _ (bits commonF) 277 (0, 0) p5
  refine bodyPost_ret (v := .agg (bits commonF)) (results_cell_row rfl _ _ w.heap.size 277 _ (0, 0) _ rfl hg Tryz.underlying277 rfl (by rw [bits_size]; exact hi)) rfl ?_
  exact ⟨rfl, hfr.step (T := Is w.heap.size) ⟨rfl, rfl, rfl, by simp, fun b _ hb => setRow_other _ _ _ _ (fun e => hb e)⟩ (fun b hb e => by unfold Is at e; omega)⟩

set_option maxHeartbeats 1000000 in
theorem name_dots (s : ByteArray) (w : World) :
    Calls Tryz.prog 255 #[.string s] w fun e w' => e = .returned (.bool (decide (s.toList = [46]) || decide (s.toList = [46, 46]))) ∧ w = w' := by
  by_cases h2 : s.toList = [46]
  · have H : Hid ((decide (s.toList = [46]) || decide (s.toList = [46, 46])) = true) := by unfold Hid; simp [h2]
    go_enter Tryz.func255, Tryz.ntmps255
    go_wp2_with fail
    all_goals (go_ret; exact ⟨ret_bool H.out.symm, rfl⟩)
  · by_cases h3 : s.toList = [46, 46]
    · have H : Hid ((decide (s.toList = [46]) || decide (s.toList = [46, 46])) = true) := by unfold Hid; simp [h3]
      go_enter Tryz.func255, Tryz.ntmps255
      go_wp2_with fail
      all_goals (go_ret; exact ⟨ret_bool H.out.symm, rfl⟩)
    · have H : Hid ((decide (s.toList = [46]) || decide (s.toList = [46, 46])) = false) := by unfold Hid; simp [h2, h3]
      have e2 : (s.toList == [46]) = false := by simp [h2]
      have e3 : (s.toList == [46, 46]) = false := by simp [h3]
      clear h2 h3
      go_enter Tryz.func255, Tryz.ntmps255
      go_wp2_with fail
      all_goals (go_ret; exact ⟨ret_bool H.out.symm, rfl⟩)

theorem common_name (s : ByteArray) : s.data.toList.all (fun c => commonF c || [33].contains c) = inSet s nameBA := by
  unfold inSet
  congr 1
  funext c
  have : nameBA.data.toList = (((([65, 66, 67, 68, 69, 70, 71, 72, 73, 74, 75, 76, 77, 78, 79, 80, 81, 82, 83, 84, 85, 86, 87, 88, 89, 90] ++ [97, 98, 99, 100, 101, 102, 103, 104, 105, 106, 107, 108, 109, 110, 111, 112, 113, 114, 115, 116, 117, 118, 119, 120, 121, 122]) ++ [48, 49, 50, 51, 52, 53, 54, 55, 56, 57]) ++ [95, 46, 58, 43, 45]) ++ [33]) := rfl
  rw [this]
  unfold commonF
  simp only [List.contains_eq_mem, List.mem_append, Bool.false_or, Bool.decide_or]

set_option maxRecDepth 100000 in
set_option maxHeartbeats 1000000 in
theorem name_valid (s : ByteArray) (w : World) (hs : s.size ≤ maxLen) :
    Calls Tryz.prog 207 #[.string s] w fun e w' => e = .returned (.bool (isName s)) ∧ Fr No w w' := by
  have hm : s.size ≤ 9223372036854775807 := by unfold maxLen at hs; omega
  by_cases h0 : s.toList = []
  · have H : Hid (isName s = false) := by unfold Hid isName; simp [h0]
    go_enter Tryz.func207, Tryz.ntmps207
    go_wp2_with fail
    all_goals (go_ret; exact ⟨ret_bool H.out.symm, Fr.refl _ _⟩)
  · by_cases h1 : s.size ≤ 32
    · go_enter Tryz.func207, Tryz.ntmps207
      go_wp2_with fail
      refine (name_dots s _).mono ?_
      rintro e w1 ⟨rfl, rfl⟩
      rcases hd : (decide (s.toList = [46]) || decide (s.toList = [46, 46])) with _ | _
      · have hd' : s.toList ≠ [46] ∧ s.toList ≠ [46, 46] := by simpa using hd
        have H : Hid (isName s = inSet s nameBA) := by unfold Hid isName; simp [h0, h1, hd'.1, hd'.2]
        clear hd hd'
        go_wp2_with fail
        refine (nset_common _).mono ?_
        rintro e w2 ⟨rfl, hf2⟩
        go_wp2_with fail
        refine (nset_plus commonF _ _ (by decide)).mono ?_
        rintro e w3 ⟨rfl, hf3⟩
        go_wp2_with fail
        refine (nset_has _ s _ hs).mono ?_
        rintro e w4 ⟨rfl, hf4⟩
        have hfr := (hf2.step hf3 (fun _ _ h => h)).step hf4 (fun _ _ h => h)
        have hb : allB (fun c => commonF c || decide (c = 33)) s = isName s := by
          rw [H.out, ← common_name]
          unfold allB
          congr 1
          funext c
          simp
        have e0 : s.toList.isEmpty = false := by simp [h0]
        clear h0
        have Hb := Lib.hid hb
        clear hb H
        generalize hq : allB _ s = q
        have Hq : Hid (q = isName s) := hq.symm.trans Hb.out
        clear hq Hb
        cases q
        all_goals
          go_wp2_with fail
          all_goals (go_ret; exact ⟨ret_bool Hq.out, hfr⟩)
      · have H : Hid (isName s = false) := by
          unfold Hid isName
          rw [Bool.or_eq_true, decide_eq_true_eq, decide_eq_true_eq] at hd
          rcases hd with h | h <;> simp [h]
        clear hd
        go_wp2_with fail
        all_goals (go_ret; exact ⟨ret_bool H.out.symm, Fr.refl _ _⟩)
    · have H : Hid (isName s = false) := by unfold Hid isName; simp [h1]
      go_enter Tryz.func207, Tryz.ntmps207
      go_wp2_with fail
      all_goals (go_ret; exact ⟨ret_bool H.out.symm, Fr.refl _ _⟩)
end Go.Proofs.YtanaompgapiikaaGreatDoor
