/- coldplugref07: ID, until, number. Attributes in memory; Sorted, Node. Node, Link. Check of a device. Compare, Beneath, clash. clash. Insert of the reference. tree.Find. One, Contents. -/
import Derived.Test.YtcibciippghooaaGreatDoorZL5
import Derived.Test.YtcibciippghooaaGreatDoorZL3
import Derived.Test.YtcibciippghooaaGreatDoorZL4
import Derived.Lib.ReplaceLaws
import Derived.Deep.DeepCutAuto
import Derived.Laws.AppendOwnNone
import Derived.Lib.SliceRun
namespace Go.Proofs.YtcibciippghooaaGreatDoor
open Go.RowKit Go.Maps
set_option linter.unusedVariables false

def idBA : ByteArray := ⟨#[65, 66, 67, 68, 69, 70, 71, 72, 73, 74, 75, 76, 77, 78, 79, 80, 81, 82, 83, 84, 85, 86, 87, 88, 89, 90, 97, 98, 99, 100, 101, 102, 103, 104, 105, 106, 107, 108, 109, 110, 111, 112, 113, 114, 115, 116, 117, 118, 119, 120, 121, 122, 48, 49, 50, 51, 52, 53, 54, 55, 56, 57, 95, 46, 45]⟩
theorem id_contains (b : UInt8) : idBA.data.toList.contains b = idByte b := by
  have h : ∀ n : Fin 256, idBA.data.toList.contains (UInt8.ofNat n.val) = idByte (UInt8.ofNat n.val) := by decide +kernel
  have h2 := h ⟨b.toNat, b.toNat_lt⟩
  simpa using h2
theorem byte_in (set : ByteArray) (b : UInt8) : set.data.toList.contains b = decide (0 ≤ Lib.indexByte set.data.toList ((b.toNat : Int)).toNat.toUInt8) := by
  rw [Lib.contains_iff_indexByte]; simp
theorem upto_at {ends l : List UInt8} {k : Nat} {x : UInt8} (hno : ∀ y ∈ l.take k, ends.contains y = false) (hx : l[k]? = some x) (hc : ends.contains x = true) : upto ends l = l.take k ∧ past ends l = l.drop k := by
  have hk : k < l.length := (List.getElem?_eq_some_iff.1 hx).1
  have e : l = l.take k ++ x :: l.drop (k + 1) := by
    have h1 : l.drop k = x :: l.drop (k + 1) := by
      rw [List.drop_eq_getElem_cons hk]
      congr 1
      exact (List.getElem?_eq_some_iff.1 hx).2
    rw [← h1, List.take_append_drop]
  have u := upto_stop (ends := ends) (w := l.take k) (b := x) (t := l.drop (k + 1)) hno hc
  rw [← e] at u
  refine ⟨u.1, ?_⟩
  rw [u.2, List.drop_eq_getElem_cons hk]
  congr 1
  exact ((List.getElem?_eq_some_iff.1 hx).2).symm
theorem ext0 (s : ByteArray) (k : Nat) : s.extract 0 k = baL (s.data.toList.take k) := by
  apply ByteArray.ext
  apply Array.ext'
  rw [Lib.extract_from_zero]; rfl
theorem extE (s : ByteArray) (k : Nat) : s.extract k s.size = baL (s.data.toList.drop k) := by
  apply ByteArray.ext
  apply Array.ext'
  rw [Lib.extract_to_end]; rfl

set_option maxRecDepth 100000 in
set_option maxHeartbeats 1000000 in
theorem r_id (s : ByteArray) (w : World) (hs : s.size ≤ maxLen) :
    Calls Tryz.prog 100 #[.string s] w fun e w' => e = .returned (.bool (isId s)) ∧ w = w' := by
  have hm : s.size ≤ 9223372036854775807 := by unfold maxLen at hs; omega
  have hil : (bl s).length = s.size := (Lib.size_eq s).symm
  go_enter Tryz.func100, Tryz.ntmps100
  go_wp2
  go_loop [3] (fun i => ∃ k : Nat, k ≤ s.size ∧ i = .int .i64 k ∧ Hid ((s.data.toList.take k).all idByte = true)) (fun i => s.size - (intOf i).toNat)
  case atStart => exact ⟨0, by omega, rfl, by unfold Hid; simp⟩
  case round =>
    obtain ⟨k, hk, rfl, hno⟩ := hrel
    by_cases hlt : k < s.size
    · go_wp2_with fail
      refine (Tryz.strings_IndexByte idBA _ _).mono ?_
      rintro e w1 ⟨rfl, rfl⟩
      have hx : s.data.toList[k]? = some s[k] := by
        rw [Array.getElem?_toList]; exact Array.getElem?_eq_getElem (by simpa using hlt)
      have Hx := Lib.hid hx
      have Hq := Lib.hid (byte_in idBA s[k])
      clear hx
      generalize Lib.indexByte _ _ = q at *
      by_cases hq0 : q < 0
      · go_wp2
        go_ret
        refine ⟨ret_bool ?_, rfl⟩
        have h1 := all_no idByte _ _ _ Hx.out (by rw [← id_contains, Hq.out]; simp; omega)
        unfold isId
        rw [show (bl s).all idByte = false from h1]; simp
      · go_wp2
        go_round
        case rel => exact ⟨k + 1, by omega, by go_num, all_take_succ _ _ _ _ Hx.out hno.out (by rw [← id_contains, Hq.out]; simp; omega)⟩
        case measure => simp [intOf]; omega
    · obtain rfl : k = s.size := by omega
      have Hall : Hid (isId s = (!s.toList.isEmpty && decide (s.size ≤ 16))) := by
        unfold Hid
        have h1 := hno.out
        rw [List.take_of_length_le (by rw [← Lib.size_eq]; omega)] at h1
        unfold isId
        rw [ByteArray.toList_eq, h1, hil, Bool.and_true]
      clear hno
      rcases he : s.toList.isEmpty with _ | _
      · go_wp2
        go_ret
        refine ⟨ret_bool ?_, rfl⟩
        rw [Hall.out, he]
        simp
        omega
      · go_wp2
        go_ret
        refine ⟨ret_bool ?_, rfl⟩
        rw [Hall.out, he]
        rfl

theorem take_no {set : ByteArray} {l : List UInt8} {k : Nat} {x : UInt8} (h : ∀ y ∈ l.take k, (bl set).contains y = false) (hx : l[k]? = some x) (hc : (bl set).contains x = false) : ∀ y ∈ l.take (k + 1), (bl set).contains y = false := by
  intro y hy
  rw [List.take_add_one, hx] at hy
  rcases List.mem_append.1 hy with hy | hy
  · exact h y hy
  · simp at hy; subst hy; exact hc

set_option maxRecDepth 100000 in
set_option maxHeartbeats 1000000 in
theorem r_until (s set : ByteArray) (w : World) (hs : s.size ≤ maxLen) :
    Calls Tryz.prog 68 #[.string s, .string set] w fun e w' => e = .returned (.tuple #[.string (baL (upto (bl set) (bl s))), .string (baL (past (bl set) (bl s)))]) ∧ Fr No w w' := by
  have hm : s.size ≤ 9223372036854775807 := by unfold maxLen at hs; omega
  have hil : (bl s).length = s.size := (Lib.size_eq s).symm
  have Hil := Lib.hid hil
  clear hil hs
  go_enter Tryz.func68, Tryz.ntmps68
  go_wp2
  go_loop [6] (fun i => ∃ k : Nat, k ≤ s.size ∧ i = .int .i64 k ∧ Hid (∀ y ∈ s.data.toList.take k, (bl set).contains y = false)) (fun i => s.size - (intOf i).toNat)
  case atStart => exact ⟨0, by omega, rfl, by unfold Hid; simp⟩
  case round =>
    obtain ⟨k, hk, rfl, hno⟩ := hrel
    by_cases hlt : k < s.size
    · have hk' : (k : Int) ≤ s.size := by omega
      go_wp2_with fail
      refine (Tryz.strings_IndexByte set _ _).mono ?_
      rintro e w1 ⟨rfl, rfl⟩
      have hx : s.data.toList[k]? = some s[k] := by
        rw [Array.getElem?_toList]; exact Array.getElem?_eq_getElem (by simpa using hlt)
      have Hx := Lib.hid hx
      have Hq := Lib.hid (byte_in set s[k])
      clear hx
      generalize Lib.indexByte _ _ = q at *
      by_cases hq0 : 0 ≤ q
      · have Hup : Hid (upto (bl set) (bl s) = (bl s).take k ∧ past (bl set) (bl s) = (bl s).drop k) := upto_at hno.out Hx.out (by rw [Hq.out]; simp [hq0])
        go_wp2_with fail
        refine region_sig No [(0, false), (1, false), (2, false), (3, false), (4, false), (5, false), (6, false), (7, false)] (by kernel_rfl) (by kernel_rfl) (fun w0 hf0 => ?_)
        repeat (apply sig_q; exact rfl; exact rfl; exact rfl; intro K hK; go_big_quiet_op; go_big_quiet_on)
        refine sig_end ?_
        go_wp2_with fail
        refine bodyPost_ret (v := .tuple #[.string (s.extract 0 k), .string (s.extract k s.size)]) (by simp [results, Tryz.results68, go_sem]) rfl ?_
        refine ⟨?_, hf0⟩
        rw [Hup.out.1, Hup.out.2, ext0, extE]
      · go_wp2
        go_round
        case rel => exact ⟨k + 1, by omega, by go_num, take_no hno.out Hx.out (by rw [Hq.out]; simp [hq0])⟩
        case measure => simp [intOf]; omega
    · obtain rfl : k = s.size := by omega
      have Hup : Hid (upto (bl set) (bl s) = bl s ∧ past (bl set) (bl s) = []) := by
        unfold Hid
        have h1 := hno.out
        rw [List.take_of_length_le (by rw [← Lib.size_eq]; omega)] at h1
        exact upto_end h1
      clear hno
      go_wp2_with fail
      refine bodyPost_ret (v := .tuple #[.string s, .string ⟨#[]⟩]) (by simp [results, Tryz.results68, go_sem]) rfl ?_
      refine ⟨?_, Fr.refl _ _⟩
      rw [Hup.out.1, Hup.out.2, baL_bl]; rfl

/-! ### number -/
def digB (x : UInt8) : Bool := decide (48 ≤ x) && decide (x ≤ 57)
theorem rNum_eq (l : List UInt8) : rNum l = if 2 < l.length then 0 else match l with
  | [] => 0
  | b :: t => if b = 48 then 0 else if (b :: t).all digB = true then (b :: t).foldl (fun (n : Int) x => 10 * n + ((x.toNat : Int) - 48)) 0 else 0 := rfl
def digS (l : List UInt8) : Int := l.foldl (fun (n : Int) x => 10 * n + ((x.toNat : Int) - 48)) 0
theorem digS_snoc (l : List UInt8) (x : UInt8) : digS (l ++ [x]) = 10 * digS l + ((x.toNat : Int) - 48) := by
  unfold digS; rw [List.foldl_append]; rfl
theorem digS_bound : ∀ l : List UInt8, l.all digB = true → l.length ≤ 2 → 0 ≤ digS l ∧ digS l ≤ 99
  | [], _, _ => by simp [digS]
  | [a], h, _ => by
    simp only [List.all_cons, List.all_nil, digB, Bool.and_true, Bool.and_eq_true, decide_eq_true_eq] at h
    have h1 : 48 ≤ a.toNat := by simpa [UInt8.le_iff_toNat_le] using h.1
    have h2 : a.toNat ≤ 57 := by simpa [UInt8.le_iff_toNat_le] using h.2
    simp [digS]; omega
  | [a, b], h, _ => by
    simp only [List.all_cons, List.all_nil, digB, Bool.and_true, Bool.and_eq_true, decide_eq_true_eq] at h
    have h1 : 48 ≤ a.toNat := by simpa [UInt8.le_iff_toNat_le] using h.1.1
    have h2 : a.toNat ≤ 57 := by simpa [UInt8.le_iff_toNat_le] using h.1.2
    have h3 : 48 ≤ b.toNat := by simpa [UInt8.le_iff_toNat_le] using h.2.1
    have h4 : b.toNat ≤ 57 := by simpa [UInt8.le_iff_toNat_le] using h.2.2
    simp [digS]; omega
  | _ :: _ :: _ :: _, _, h => by simp at h

theorem digB_nat (x : UInt8) : digB x = decide (48 ≤ x.toNat ∧ x.toNat ≤ 57) := by
  unfold digB
  rw [Bool.eq_iff_iff]
  simp [UInt8.le_iff_toNat_le]
theorem at_zero {s : ByteArray} (h : 0 < s.size) : ∃ b t, bl s = b :: t ∧ b = s[0] := by
  have hx : (bl s)[0]? = some s[0] := by
    rw [Array.getElem?_toList]; exact Array.getElem?_eq_getElem (by simpa using h)
  cases hl : bl s with
  | nil => rw [hl] at hx; simp at hx
  | cons b t => rw [hl] at hx; simp at hx; exact ⟨b, t, rfl, hx⟩
set_option maxRecDepth 100000 in
set_option maxHeartbeats 1000000 in
theorem r_number (s : ByteArray) (w : World) (hs : s.size ≤ maxLen) :
    Calls Tryz.prog 70 #[.string s] w fun e w' => e = .returned (.int .i64 (rNum (bl s))) ∧ w = w' := by
  have hm : s.size ≤ 9223372036854775807 := by unfold maxLen at hs; omega
  have hil : (bl s).length = s.size := (Lib.size_eq s).symm
  obtain ⟨r, hr⟩ : ∃ r, r = rNum (bl s) := ⟨_, rfl⟩
  rw [← hr]
  have Hr := Lib.hid hr
  have Hil := Lib.hid hil
  clear hr hil hs
  go_enter Tryz.func70, Tryz.ntmps70
  by_cases h2 : 2 < s.size
  · have Hz : Hid (r = 0) := by unfold Hid; rw [Hr.out, rNum_eq, if_pos (by rw [Hil.out]; exact h2)]
    have h2' : (2 : Int) < s.size := by omega
    go_wp2_with fail
    go_ret
    exact ⟨by rw [Hz.out]; rfl, rfl⟩
  have h2' : ¬ (2 : Int) < s.size := by omega
  by_cases h0 : s.size = 0
  · have Hz : Hid (r = 0) := by
      unfold Hid
      rw [Hr.out, rNum_eq, if_neg (by rw [Hil.out]; omega)]
      have : bl s = [] := List.eq_nil_of_length_eq_zero (by rw [Hil.out]; exact h0)
      rw [this]
    have he : s.toList.isEmpty = true := by
      rw [ByteArray.toList_eq, show s.data.toList = [] from List.eq_nil_of_length_eq_zero (by rw [Hil.out]; exact h0)]; rfl
    clear h0
    go_wp2_with fail
    go_ret
    exact ⟨by rw [Hz.out]; rfl, rfl⟩
  have hp : 0 < s.size := by omega
  have hp' : (0 : Int) < s.size := by omega
  have he : s.toList.isEmpty = false := by
    rw [ByteArray.toList_eq]
    cases hl : s.data.toList with
    | nil => have := Hil.out; rw [show bl s = [] from hl] at this; simp at this; omega
    | cons => rfl
  obtain ⟨b, t, hbt, hb0⟩ := at_zero hp
  have Hbt := Lib.hid hbt
  have Hb0 := Lib.hid hb0
  have Hrn : Hid (r = if b = 48 then 0 else if (b :: t).all digB = true then digS (b :: t) else 0) := by
    unfold Hid
    rw [Hr.out, rNum_eq, if_neg (by rw [Hil.out]; omega), Hbt.out]; rfl
  clear hbt hb0 h0
  obtain ⟨N, hN⟩ : ∃ N : Nat, (s[0]'hp).toNat = N := ⟨_, rfl⟩
  have HN := Lib.hid hN
  by_cases h48 : N = 48
  · have Hz : Hid (r = 0) := by
      unfold Hid
      rw [Hrn.out, if_pos]
      rw [Hb0.out]
      apply UInt8.toNat.inj
      rw [HN.out, h48]; rfl
    subst h48
    go_wp2_with fail
    go_ret
    exact ⟨by rw [Hz.out]; rfl, rfl⟩
  have h48' : ¬ (N : Int) = 48 := by omega
  have hb48 : Hid (¬ b = 48) := by
    intro h
    apply h48
    rw [← HN.out, ← Hb0.out, h]; rfl
  go_wp2_with fail
  go_loop [3, 4] (fun n i => ∃ k : Nat, k ≤ s.size ∧ i = .int .i64 k ∧ Hid (((bl s).take k).all digB = true) ∧ n = .int .i64 (digS ((bl s).take k))) (fun _ i => s.size - (intOf i).toNat)
  case atStart => exact ⟨0, by omega, rfl, by unfold Hid; simp, rfl⟩
  case round =>
    obtain ⟨k, hk, rfl, hall, rfl⟩ := hrel
    by_cases hlt : k < s.size
    · have hx : (bl s)[k]? = some s[k] := by
        rw [Array.getElem?_toList]; exact Array.getElem?_eq_getElem (by simpa using hlt)
      obtain ⟨M, hM⟩ : ∃ M : Nat, (s[k]'hlt).toNat = M := ⟨_, rfl⟩
      have hdb := digB_nat (s[k]'hlt)
      have hbd := digS_bound _ hall.out (by rw [List.length_take, Hil.out]; omega)
      have htk : (bl s).take (k + 1) = (bl s).take k ++ [s[k]'hlt] := by rw [List.take_add_one, hx]; rfl
      have hds := digS_snoc ((bl s).take k) (s[k]'hlt)
      rw [← htk, hM] at hds
      rw [hM] at hdb
      have hlt' : (k : Int) < s.size := by omega
      have Hx := Lib.hid hx
      have Hdb := Lib.hid hdb
      have Hds := Lib.hid hds
      have Htk := Lib.hid htk
      have Hall := Lib.hid (show (bl s) = b :: t from Hbt.out)
      obtain ⟨D, hD⟩ : ∃ D, D = digS ((bl s).take k) := ⟨_, rfl⟩
      rw [← hD] at hbd ⊢
      have HD := Lib.hid hD
      have hbd1 := hbd.1
      have hbd2 := hbd.2
      have hM8 : M < 256 := by rw [← hM]; exact UInt8.toNat_lt _
      clear hx hdb hds htk hD hbd hN HN
      by_cases hd : 48 ≤ M ∧ M ≤ 57
      · obtain ⟨d1, d2⟩ := hd
        have Hg : Hid (digB (s[k]'hlt) = true) := by unfold Hid; rw [Hdb.out]; exact decide_eq_true ⟨d1, d2⟩
        have n1 : ¬ (M : Int) < 48 := by omega
        have n2 : ¬ 57 < (M : Int) := by omega
        go_wp2_with fail
        go_round
        case rel => exact ⟨k + 1, by omega, by go_num, by unfold Hid; rw [Htk.out, List.all_append, hall.out]; simp [Hg.out], by rw [Hds.out, ← HD.out]⟩
        case measure => simp [intOf]; omega
      · have Hg : Hid (r = 0) := by
          unfold Hid
          rw [Hrn.out, if_neg hb48.out, if_neg]
          intro h
          rw [← Hall.out, List.all_eq_true] at h
          have h2 := h _ (List.mem_of_getElem? Hx.out)
          rw [Hdb.out] at h2
          exact hd (of_decide_eq_true h2)
        have n12 : (M : Int) < 48 ∨ 57 < (M : Int) := by omega
        clear hd
        rcases n12 with n1 | n2
        · go_wp2_with fail
          go_ret
          exact ⟨by rw [Hg.out]; rfl, rfl⟩
        · have n1 : ¬ (M : Int) < 48 := by omega
          go_wp2_with fail
          go_ret
          exact ⟨by rw [Hg.out]; rfl, rfl⟩
    · obtain rfl : k = s.size := by omega
      have Hg : Hid (r = digS ((bl s).take s.size)) := by
        unfold Hid
        have h1 := hall.out
        rw [List.take_of_length_le (by rw [Hil.out]; omega)] at h1 ⊢
        rw [Hrn.out, if_neg hb48.out, ← Hbt.out, if_pos h1]
      generalize digS ((bl s).take s.size) = D at *
      go_wp2_with fail
      go_ret
      exact ⟨by rw [Hg.out]; rfl, rfl⟩
end Go.Proofs.YtcibciippghooaaGreatDoor
namespace Go.Proofs.YtcibciippghooaaGreatDoor
open Go.RowKit
set_option linter.unusedVariables false

/-- A slice of attributes: its elements are 'l' (name, value). -/
structure Atts (w : World) (a : Option Addr) (cap : Nat) (l : List (ByteArray × ByteArray)) : Prop where
  len : l.length ≤ cap
  max : cap ≤ maxLen
  isNil : a = none → l = [] ∧ cap = 0
  wf : ∀ x ∈ l, x.1.size ≤ maxLen ∧ x.2.size ≤ maxLen
  cell : ∀ ad, a = some ad → l ≠ [] → ad.spot = none ∧ ad.block < w.heap.size ∧ ∀ i x, l[i]? = some x → w.cell? ⟨ad.block, ad.off + i * 2, none⟩ = some (.string x.1) ∧ w.cell? ⟨ad.block, ad.off + i * 2 + 1, none⟩ = some (.string x.2)

theorem Atts.at {w : World} {a : Option Addr} {cap : Nat} {l : List (ByteArray × ByteArray)} (h : Atts w a cap l) {k : Nat} (hk : k < l.length) :
    ∃ b off x y, a = some ⟨b, off, none⟩ ∧ l[k]? = some (x, y) ∧ x.size ≤ maxLen ∧ y.size ≤ maxLen ∧ w.cell? ⟨b, off + k * 2, none⟩ = some (.string x) ∧ w.cell? ⟨b, off + k * 2 + 1, none⟩ = some (.string y) := by
  cases a with
  | none => obtain ⟨rfl, _⟩ := h.isNil rfl; simp at hk
  | some ad =>
    obtain ⟨b, off, sp⟩ := ad
    obtain ⟨h1, h2, h3⟩ := h.cell _ rfl (by intro e; subst e; simp at hk)
    simp at h1; subst h1
    have h4 := h3 k _ (List.getElem?_eq_getElem hk)
    have h5 := h.wf l[k] (List.getElem_mem hk)
    exact ⟨b, off, l[k].1, l[k].2, rfl, List.getElem?_eq_getElem hk, h5.1, h5.2, h4.1, h4.2⟩
theorem Atts.lenmax {w : World} {a : Option Addr} {cap : Nat} {l : List (ByteArray × ByteArray)} (h : Atts w a cap l) : l.length ≤ 9223372036854775807 := by
  have h1 := h.len; have h2 := h.max; unfold maxLen at h2; omega
theorem Atts.fr {S : Nat → Prop} {w w' : World} {a : Option Addr} {cap : Nat} {l : List (ByteArray × ByteArray)} (h : Atts w a cap l) (hf : Fr S w w') (hS : ∀ ad, a = some ad → l ≠ [] → ¬ S ad.block) : Atts w' a cap l :=
  ⟨h.len, h.max, h.isNil, h.wf, fun ad e hne => by
    obtain ⟨h1, h2, h3⟩ := h.cell ad e hne
    exact ⟨h1, Nat.lt_of_lt_of_le h2 hf.size, fun i x hi => ⟨hf.cell (h3 i x hi).1 (hS ad e hne), hf.cell (h3 i x hi).2 (hS ad e hne)⟩⟩⟩
theorem Atts.no {S : Nat → Prop} {w w' : World} {a : Option Addr} {cap : Nat} {l : List (ByteArray × ByteArray)} (h : Atts w a cap l) (hf : Fr S w w') (hS : ∀ k, ¬ S k) : Atts w' a cap l := h.fr hf (fun _ _ _ => hS _)
theorem Atts.nil (w : World) : Atts w none 0 [] := ⟨by simp, by simp, fun _ => ⟨rfl, rfl⟩, by simp, fun _ e _ => by cases e⟩

end Go.Proofs.YtcibciippghooaaGreatDoor
namespace Go.Proofs.YtcibciippghooaaGreatDoor
open Go.RowKit
set_option linter.unusedVariables false

theorem replaceK_len (old new : List UInt8) : ∀ (k : Nat) (s : List UInt8), (Lib.replaceK old new k s).length ≤ s.length + k * new.length
  | 0, s => by simp [Lib.replaceK]
  | k + 1, s => by
    unfold Lib.replaceK
    split
    · omega
    · have h := replaceK_len old new k (s.drop ((Lib.index s old).toNat + old.length))
      simp only [List.length_append, List.length_take, List.length_drop] at h ⊢
      have e : (k + 1) * new.length = k * new.length + new.length := Nat.succ_mul _ _
      omega
theorem replaceAll_len (s old new : List UInt8) : (Lib.replaceAll s old new).length ≤ s.length + (s.length + 1) * new.length := by
  unfold Lib.replaceAll Lib.replace
  split
  · omega
  · have h := replaceK_len old new (Lib.replaceNum s old (-1)) s
    have h2 : Lib.replaceNum s old (-1) ≤ s.length + 1 := by
      unfold Lib.replaceNum
      rw [if_pos (.inl (by omega))]
      exact Lib.count_le s old
    have h3 := Nat.mul_le_mul_right new.length h2
    omega

theorem splitB_size (sep : ByteArray) : ∀ (k : Nat) (s x : ByteArray), x ∈ Lib.splitB sep 0 k s → x.size ≤ s.size
  | 0, s, x, h => by
    rw [Lib.splitB_zero] at h
    simp at h; subst h; exact Nat.le_refl _
  | k + 1, s, x, h => by
    unfold Lib.splitB at h
    split at h
    · simp at h; subst h; exact Nat.le_refl _
    · rcases List.mem_cons.1 h with h | h
      · subst h; rw [ByteArray.size_extract]; omega
      · have h1 := splitB_size sep k _ x h
        rw [ByteArray.size_extract] at h1
        omega

end Go.Proofs.YtcibciippghooaaGreatDoor
namespace Go.Proofs.YtcibciippghooaaGreatDoor
open Go.RowKit
set_option linter.unusedVariables false

/-- What Check's 0 says (as far as it is used). -/
structure Okay (d : Dev) : Prop where
  lo : 1 ≤ d.index
  hi : d.index ≤ 1073741824
  plo : 0 ≤ d.parent
  ne : d.parent ≠ d.index
  orig : OkN d.orig
/-- An error number is returned; 0 only for what is okay. -/
def RetE (p : Prop) (e : Ending) : Prop := ∃ er, e = .returned (.int .i64 er) ∧ (er = 0 → p)
theorem RetE.no {p : Prop} {er : Int} (h : er ≠ 0) : RetE p (.returned (.int .i64 er)) := ⟨er, rfl, fun e => absurd e h⟩
/-- The texts of a device are no longer than any text. -/
structure Sized (d : Dev) : Prop where
  name : d.name.size ≤ maxLen
  orig : d.orig.size ≤ maxLen
  sub : d.sub.size ≤ maxLen
  drv : d.drv.size ≤ maxLen
  ali : d.ali.size ≤ maxLen

end Go.Proofs.YtcibciippghooaaGreatDoor
namespace Go.Proofs.YtcibciippghooaaGreatDoor
open Go.RowKit Go.Maps
set_option linter.unusedVariables false

theorem strEq (x y : ByteArray) : (x.toList == y.toList) = decide (x = y) := by
  rw [ByteArray.toList_eq, ByteArray.toList_eq, Bool.eq_iff_iff, decide_eq_true_iff]
  constructor
  · intro h
    cases x; cases y
    have := eq_of_beq h
    simp only at this
    congr 1
    exact Array.toList_inj.1 this
  · rintro rfl; simp
theorem compareBytes_zero : ∀ (a b : List UInt8), Lib.compareBytes a b = 0 → a = b
  | [], [], _ => rfl
  | [], _ :: _, h => by simp [Lib.compareBytes] at h
  | _ :: _, [], h => by simp [Lib.compareBytes] at h
  | a :: s, b :: t, h => by
    unfold Lib.compareBytes at h
    split at h
    · simp at h
    · rename_i h1
      split at h
      · simp at h
      · rename_i h2
        have : a = b := by
          have h3 := UInt8.not_lt.1 h1
          have h4 := UInt8.not_lt.1 h2
          exact UInt8.le_antisymm h4 h3
        rw [this, compareBytes_zero s t h]

/-- The order of two lists of names. -/
def cmpN : List ByteArray → List ByteArray → Int
  | [], [] => 0
  | [], _ :: _ => -1
  | _ :: _, [] => 1
  | a :: s, b :: t => if a = b then cmpN s t else Lib.compareBytes a.data.toList b.data.toList

theorem cmpN_zero : ∀ (a b : List ByteArray), cmpN a b = 0 → a = b
  | [], [], _ => rfl
  | [], _ :: _, h => by simp [cmpN] at h
  | _ :: _, [], h => by simp [cmpN] at h
  | a :: s, b :: t, h => by
    unfold cmpN at h
    split at h
    · rename_i e; rw [e, cmpN_zero s t h]
    · rename_i e
      exfalso; apply e
      have h1 := compareBytes_zero _ _ h
      cases a; cases b
      simp only at h1
      congr 1
      exact Array.toList_inj.1 h1
theorem cmpN_snoc : ∀ (a : List ByteArray) (x : ByteArray), cmpN a (a ++ [x]) = -1
  | [], _ => rfl
  | a :: s, x => by
    show cmpN (a :: s) (a :: (s ++ [x])) = -1
    unfold cmpN
    rw [if_pos rfl]; exact cmpN_snoc s x
theorem cmpN_app : ∀ (p a b : List ByteArray), cmpN (p ++ a) (p ++ b) = cmpN a b
  | [], _, _ => rfl
  | x :: p, a, b => by
    show cmpN (x :: (p ++ a)) (x :: (p ++ b)) = _
    rw [cmpN, if_pos rfl]; exact cmpN_app p a b
theorem cmpN_drop {a b : List ByteArray} {k : Nat} (h : a.take k = b.take k) : cmpN a b = cmpN (a.drop k) (b.drop k) := by
  have h1 := cmpN_app (a.take k) (a.drop k) (b.drop k)
  rw [List.take_append_drop, h, List.take_append_drop] at h1
  exact h1

end Go.Proofs.YtcibciippghooaaGreatDoor
namespace Go.Proofs.YtcibciippghooaaGreatDoor
open Go.RowKit Go.Maps
set_option linter.unusedVariables false

end Go.Proofs.YtcibciippghooaaGreatDoor
namespace Go.Proofs.YtcibciippghooaaGreatDoor
open Go.RowKit Go.Maps
set_option linter.unusedVariables false

/-- append onto a row of the call's own, the source nil or not. -/
theorem wpList_append_src {P : Program} {w : World} {ops : Array Oper} {rest : List Oper} {o : Oper} {a : Act} {Q : Exit → Act → World → Prop} (hgd : o.guard = none) (s x : Operand) (t : TypeId)
    (ho : o.op = .call { callee := .builtin .append, args := #[s, x], argTypes := #[t, t] })
    (base : Nat) (e : TypeId) (i : TypeInfo) (z : Value) (size bytes : Nat) (ht : P.underlying t = some (.slice e)) (hi : P.info? e = some i) (hz : i.zero = some z)
    (hsize : i.size = size) (hby : i.bytes = bytes) (hzs : z.cells.size = size) (hsz : 0 < size)
    (v : Value) (n : Nat) (xs : List Value) (hs : a.eval s = v) (hown : w.ownsRow base e size v n xs)
    (A : Option Addr) (m c : Nat) (news : List Value) (hx : a.eval x = .slice A m c) (hA : A = none → m = 0 ∧ c = 0) (hl : news.length = m * size)
    (hnews : ∀ ad, A = some ad → ∀ j u, news[j]? = some u → w.cell? (ad.add j) = some u) (h1 : ∀ u ∈ news, u.oneCell' = true)
    (h63 : n + m ≤ maxLen) (hbytes : (n + m) * bytes ≤ 140737488355328) (hbase : base ≤ w.heap.size)
    (h : ∀ v' w', w'.ownsRow base e size v' (n + m) (xs ++ news) → w.grownBy w' v.ownBlock → wpList P ops Q rest (a.put o.dst v') w') : wpList P ops Q (o :: rest) a w := by
  cases A with
  | none =>
    obtain ⟨rfl, rfl⟩ := hA rfl
    have hn : news = [] := List.eq_nil_of_length_eq_zero (by simpa using hl)
    subst hn
    exact wpList_append_own_none hgd s x t ho base e i size ht hi v n xs hs hown hx (h v w (by simpa using hown) (World.grownBy.refl w _))
  | some ad =>
    exact wpList_append_own w hgd s x t ho base e i z size bytes ht hi hz hsize hby hzs hsz v n xs hs hown ad m c news hx hl (hnews ad rfl) h1 h63 hbytes hbase (fun v' w' h2 h3 _ => h v' w' h2 h3)

theorem one_cell {w : World} {b : Nat} {v : Value} (h : w.cell? ⟨b, 0, none⟩ = some v) : ∀ j u, [v][j]? = some u → w.cell? ((⟨b, 0, none⟩ : Addr).add j) = some u := by
  intro j u hj
  match j, hj with
  | 0, hj => simp at hj; subst hj; rw [Addr.add_lit]; exact h

theorem flat_inv : ∀ (l : List Dev) (j : Nat) (u : Value), (flat l)[j]? = some u → ∃ i d jj, l[i]? = some d ∧ jj < 10 ∧ j = i * 10 + jj ∧ u = d.cell jj := by
  intro l j u h
  have hlt : j < (flat l).length := (List.getElem?_eq_some_iff.1 h).1
  rw [flat_len] at hlt
  have hi : j / 10 < l.length := by omega
  refine ⟨j / 10, l[j / 10], j % 10, List.getElem?_eq_getElem hi, by omega, by omega, ?_⟩
  have h1 := flat_at l (j / 10) l[j / 10] (List.getElem?_eq_getElem hi) (j % 10) (by omega)
  rw [show j / 10 * 10 + j % 10 = j from by omega, h] at h1
  exact Option.some.inj h1
theorem Devs.cell_of {W : World} {ad : Addr} {cap : Nat} {ds : List Dev} (h : Devs W (some ad) cap ds) {i : Nat} {d : Dev} (hd : ds[i]? = some d) {j : Nat} (hj : j < 10) : W.cell? (ad.add (i * 10 + j)) = some (d.cell j) := by
  obtain ⟨h1, _, h3⟩ := h.cell ad rfl (by intro e; subst e; simp at hd)
  obtain ⟨b, o, sp⟩ := ad
  simp at h1; subst h1
  rw [Addr.add_lit]; exact h3 i d hd j hj
theorem Devs.src_take {W : World} {a : Option Addr} {cap : Nat} {ds : List Dev} (h : Devs W a cap ds) (k : Nat) : ∀ ad, a = some ad → ∀ j u, (flat (ds.take k))[j]? = some u → W.cell? (ad.add j) = some u := by
  intro ad e j u hu
  subst e
  obtain ⟨i, d, jj, h1, h2, rfl, rfl⟩ := flat_inv _ _ _ hu
  refine h.cell_of ?_ h2
  rw [List.getElem?_take] at h1
  split at h1
  · exact h1
  · cases h1
theorem Devs.src_drop {W : World} {a : Option Addr} {cap : Nat} {ds : List Dev} (h : Devs W a cap ds) (k : Nat) : ∀ ad, a = some ad → ∀ j u, (flat (ds.drop k))[j]? = some u → W.cell? ((ad.add (k * 10)).add j) = some u := by
  intro ad e j u hu
  subst e
  obtain ⟨i, d, jj, h1, h2, rfl, rfl⟩ := flat_inv _ _ _ hu
  rw [List.getElem?_drop] at h1
  have h3 := h.cell_of h1 h2
  obtain ⟨hsp, _, _⟩ := h.cell ad rfl (by intro e; subst e; simp at h1)
  obtain ⟨b, o, sp⟩ := ad
  simp only at hsp
  subst hsp
  rw [Addr.add_lit] at h3
  rw [Addr.add_lit, Addr.add_lit, ← h3]
  congr 2
  omega

theorem own_fr {W w1 : World} {base : Nat} {e : TypeId} {size : Nat} {v : Value} {n : Nat} {xs : List Value} (h : W.ownsRow base e size v n xs) (hg : W.grownBy w1 v.ownBlock) : Fr (From base) W w1 :=
  (Fr.of_grown hg).mono (fun b _ e => ownsRow_blk h e)
theorem Devs.keep {W W' : World} {a : Option Addr} {cap : Nat} {ds : List Dev} (h : Devs W a cap ds) (hf : Fr (From W.heap.size) W W') : Devs W' a cap ds :=
  h.fr hf (fun ad e hne hS => by have := (h.cell ad e hne).2.1; unfold From at hS; omega)
theorem cells_fr {W W' : World} {b : Nat} {xs : List Value} (h : ∀ j u, xs[j]? = some u → W.cell? ((⟨b, 0, none⟩ : Addr).add j) = some u) (hf : Fr No W W') : ∀ j u, xs[j]? = some u → W'.cell? ((⟨b, 0, none⟩ : Addr).add j) = some u :=
  fun j u hu => hf.cell (h j u hu) id
theorem flat_ins (ds : List Dev) (q : Nat) (d : Dev) : flat (ds.take q) ++ d.vals.toList ++ flat (ds.drop q) = flat (insAt ds q d) := by
  unfold flat insAt
  rw [List.flatMap_append, List.flatMap_cons, List.append_assoc]
theorem ins_end {wr w0 W : World} {a' : Option Addr} {n c' : Nat} {xs : List Value} {T E : TypeId} (h0 : Fr No wr w0) (hf : Fr (From w0.heap.size) w0 W) (hb : W.heap[wr.heap.size]? = some (.cells #[.slice none 0 0] T)) (ho : W.ownsRow w0.heap.size E 10 (.slice a' n c') n xs) (hs : wr.heap.size < w0.heap.size) :
    (W.setCell ⟨wr.heap.size, 0, none⟩ (.slice a' n c')).heap[wr.heap.size]? = some (.cells #[.slice a' n c'] T) ∧ (W.setCell ⟨wr.heap.size, 0, none⟩ (.slice a' n c')).ownsRow wr.heap.size E 10 (.slice a' n c') n xs ∧ Fr (From wr.heap.size) wr (W.setCell ⟨wr.heap.size, 0, none⟩ (.slice a' n c')) := by
  have hx : Fr (Is wr.heap.size) W (W.setCell ⟨wr.heap.size, 0, none⟩ (.slice a' n c')) := Fr.setCell (S := Is wr.heap.size) (p := ⟨wr.heap.size, 0, none⟩) (Fr.refl _ _) (fun _ => rfl) _
  refine ⟨block_setCell hb 0 _, ownsRow_base (ownsRow_fr ho hx (fun b hb e => by unfold Is at e; omega)) (by omega), ?_⟩
  have h1 : Fr (From wr.heap.size) wr w0 := h0.mono (fun _ _ h => h.elim)
  exact (h1.step hf (fun b hb h => by unfold From at *; omega)).step hx (fun b hb e => by unfold Is at e; unfold From; omega)

section
variable {w W W' : World} {a : Option Addr} {n cap : Nat} {d : Dev}
end

end Go.Proofs.YtcibciippghooaaGreatDoor
namespace Go.Proofs.YtcibciippghooaaGreatDoor
open Go.RowKit Go.Maps
set_option linter.unusedVariables false

def aflat (l : List (ByteArray × ByteArray)) : List Value := l.flatMap (fun x => [.string x.1, .string x.2])
theorem aflat_len (l : List (ByteArray × ByteArray)) : (aflat l).length = l.length * 2 := by
  induction l with
  | nil => rfl
  | cons d t ih =>
    have : aflat (d :: t) = [.string d.1, .string d.2] ++ aflat t := by simp [aflat]
    rw [this, List.length_append, ih]
    simp; omega
theorem aflat_at : ∀ (l : List (ByteArray × ByteArray)) (i : Nat) (x : ByteArray × ByteArray), l[i]? = some x → (aflat l)[i * 2]? = some (.string x.1) ∧ (aflat l)[i * 2 + 1]? = some (.string x.2)
  | [], i, d, h => by simp at h
  | y :: t, 0, x, h => by
    simp at h; subst h
    exact ⟨rfl, rfl⟩
  | y :: t, i + 1, x, h => by
    have e : aflat (y :: t) = .string y.1 :: .string y.2 :: aflat t := by simp [aflat]
    have h1 := aflat_at t i x (by simpa using h)
    rw [e, show (i + 1) * 2 = i * 2 + 1 + 1 from by omega]
    exact h1
theorem aflat_inv (l : List (ByteArray × ByteArray)) (j : Nat) (u : Value) (h : (aflat l)[j]? = some u) : ∃ i x, l[i]? = some x ∧ ((j = i * 2 ∧ u = .string x.1) ∨ (j = i * 2 + 1 ∧ u = .string x.2)) := by
  have hlt : j < (aflat l).length := (List.getElem?_eq_some_iff.1 h).1
  rw [aflat_len] at hlt
  have hi : j / 2 < l.length := by omega
  have h1 := aflat_at l (j / 2) l[j / 2] (List.getElem?_eq_getElem hi)
  refine ⟨j / 2, l[j / 2], List.getElem?_eq_getElem hi, ?_⟩
  rcases (by omega : j = j / 2 * 2 ∨ j = j / 2 * 2 + 1) with e | e
  · left; refine ⟨e, ?_⟩
    rw [e, h1.1] at h; exact (Option.some.inj h).symm
  · right; refine ⟨e, ?_⟩
    rw [e, h1.2] at h; exact (Option.some.inj h).symm
theorem aflat_one (l : List (ByteArray × ByteArray)) : ∀ u ∈ aflat l, u.oneCell' = true := by
  intro u hu
  obtain ⟨x, _, hu⟩ := List.mem_flatMap.1 hu
  simp at hu
  rcases hu with rfl | rfl <;> rfl
theorem Atts.src {W : World} {a : Option Addr} {cap : Nat} {l : List (ByteArray × ByteArray)} (h : Atts W a cap l) : ∀ ad, a = some ad → ∀ j u, (aflat l)[j]? = some u → W.cell? (ad.add j) = some u := by
  intro ad e j u hu
  obtain ⟨i, x, hx, hj⟩ := aflat_inv _ _ _ hu
  obtain ⟨h1, _, h3⟩ := h.cell ad e (by intro e; subst e; simp at hx)
  obtain ⟨b, o, sp⟩ := ad
  simp only at h1; subst h1
  have h4 := h3 i x hx
  rw [Addr.add_lit]
  rcases hj with ⟨rfl, rfl⟩ | ⟨rfl, rfl⟩
  · exact h4.1
  · exact h4.2
theorem Atts.of_own {w : World} {base : Nat} {e : TypeId} {v : Value} {l : List (ByteArray × ByteArray)} (h : w.ownsRow base e 2 v l.length (aflat l)) (hw : ∀ x ∈ l, x.1.size ≤ maxLen ∧ x.2.size ≤ maxLen) :
    ∃ a cap, v = .slice a l.length cap ∧ Atts w a cap l ∧ ∀ ad, a = some ad → base ≤ ad.block := by
  obtain ⟨_, ⟨rfl, h2⟩ | ⟨g, cap, cur, rfl, hg, hb, h1, h2, h3, h4⟩⟩ := h
  · have : l = [] := List.eq_nil_of_length_eq_zero h2
    subst this
    exact ⟨none, 0, rfl, Atts.nil w, fun _ e => by cases e⟩
  · refine ⟨some ⟨g, 0, none⟩, cap, rfl, ⟨h1, h2, (fun e => by cases e), hw, ?_⟩, fun ad e => by cases e; exact hg⟩
    intro ad e hne
    cases e
    refine ⟨rfl, lt_of_block hb, fun i x hi => ?_⟩
    have hlt : i < l.length := (List.getElem?_eq_some_iff.1 hi).1
    have h5 := aflat_at l i x hi
    rw [cell_of_block hb, cell_of_block hb]
    simp only [Nat.zero_add]
    rw [← Array.getElem?_toList, ← Array.getElem?_toList]
    have e1 : ∀ j, j < l.length * 2 → cur.toList[j]? = (aflat l)[j]? := fun j hj => by
      rw [← h4, List.getElem?_take_of_lt hj]
    rw [e1 _ (by omega), e1 _ (by omega)]
    exact h5

end Go.Proofs.YtcibciippghooaaGreatDoor
namespace Go.Proofs.YtcibciippghooaaGreatDoor
open Go.RowKit Go.Maps
set_option linter.unusedVariables false

/-- One text of a list is handed back. -/
def OneOf (l : List ByteArray) (e : Ending) : Prop := ∃ s, e = .returned (.string s) ∧ s ∈ l

/-- The contents that Contents hands back. -/
def contents : List ByteArray := [
  ⟨#[]⟩,
  ⟨#[102, 115, 58, 102, 58]⟩,
  ⟨#[102, 115, 58, 103, 58, 76]⟩,
  ⟨#[114, 97, 105, 100, 58, 114, 58, 49, 47, 50, 47, 49, 40, 102, 115, 58, 102, 58, 41]⟩,
  ⟨#[114, 97, 105, 100, 58, 114, 58, 50, 47, 50, 47, 49, 40, 102, 115, 58, 102, 58, 41]⟩,
  ⟨#[99, 114, 121, 112, 116, 58, 99, 40, 102, 115, 58, 103, 58, 41]⟩,
  ⟨#[112, 118, 58, 118, 58, 49, 47, 49, 40, 102, 115, 58, 102, 58, 44, 99, 114, 121, 112, 116, 58, 99, 40, 102, 115, 58, 104, 58, 41, 41]⟩,
  ⟨#[116, 97, 98, 108, 101, 58, 116, 40, 102, 115, 58, 102, 58, 44, 99, 114, 121, 112, 116, 58, 99, 40, 114, 97, 105, 100, 58, 114, 58, 49, 47, 50, 47, 49, 40, 102, 115, 58, 120, 58, 41, 41, 41]⟩,
  ⟨#[116, 97, 98, 108, 101, 58, 116, 40, 114, 97, 105, 100, 58, 114, 58, 49, 47, 50, 47, 49, 40, 116, 97, 98, 108, 101, 58, 117, 40, 102, 115, 58, 102, 58, 41, 41, 44, 114, 97, 105, 100, 58, 114, 58, 50, 47, 50, 47, 49, 40, 116, 97, 98, 108, 101, 58, 117, 40, 102, 115, 58, 102, 58, 41, 41, 41]⟩,
  ⟨#[114, 97, 105, 100, 58, 114, 58, 49, 47, 49, 47, 49, 40, 114, 97, 105, 100, 58, 114, 58, 49, 47, 49, 47, 49, 40, 102, 115, 58, 102, 58, 41, 41]⟩,
  ⟨#[112, 118, 58, 118, 58, 49, 47, 50, 40, 102, 115, 58, 102, 58, 41]⟩,
  ⟨#[112, 118, 58, 118, 58, 50, 47, 50, 40, 102, 115, 58, 102, 58, 41]⟩,
  ⟨#[99, 114, 121, 112, 116, 58, 100, 40, 112, 118, 58, 118, 58, 49, 47, 49, 40, 114, 97, 105, 100, 58, 115, 58, 49, 47, 51, 47, 50, 40, 102, 115, 58, 121, 58, 41, 41, 41]⟩,
  ⟨#[114, 97, 105, 100, 58, 115, 58, 50, 47, 51, 47, 50, 40, 102, 115, 58, 121, 58, 41]⟩,
  ⟨#[114, 97, 105, 100, 58, 115, 58, 51, 47, 51, 47, 50, 40, 102, 115, 58, 121, 58, 41]⟩,
  ⟨#[110, 111, 110, 115, 101, 110, 115, 101]⟩]
theorem contents_size : ∀ s ∈ contents, s.size ≤ 256 := by decide
theorem contents_len : contents.length = 16 := rfl

theorem Strs.of_block {w : World} {b : Nat} {l : List ByteArray} {T : TypeId} {fz : Nat × Nat} (h : w.heap[b]? = some (.cells (l.map Value.string).toArray T fz)) (hm : l.length ≤ maxLen) : Strs w (some ⟨b, 0, none⟩) l.length l := by
  refine ⟨Nat.le_refl _, hm, (fun e => by cases e), fun ad e hne => ?_⟩
  cases e
  refine ⟨rfl, lt_of_block h, fun i x hi => ?_⟩
  rw [cell_of_block h]
  simp [hi]

set_option maxRecDepth 100000 in
set_option maxHeartbeats 1000000 in
theorem made_contents (w : World) :
    Calls Tryz.prog 7 #[] w fun e w' => e = .returned (.slice (some ⟨w.heap.size, 0, none⟩) 16 16) ∧ Strs w' (some ⟨w.heap.size, 0, none⟩) 16 contents ∧ Fr No w w' := by
  have hb := block_alloc w (.cells (contents.map Value.string).toArray 9)
  have hs := Strs.of_block hb (by rw [contents_len]; unfold maxLen; omega)
  rw [contents_len] at hs
  have hf : Fr No w (w.alloc (.cells (contents.map Value.string).toArray 9)) := (Fr.refl _ _).alloc _
  have H := Lib.hid (And.intro hs hf)
  clear hb hs hf
  go_enter Tryz.func7, Tryz.ntmps7
  go_wp2_with fail
  go_ret
  exact ⟨rfl, H.out⟩
end Go.Proofs.YtcibciippghooaaGreatDoor
/- Device: makes a device of any numbers. -/
namespace Go.Proofs.YtcibciippghooaaGreatDoor
open Go.RowKit Go.Maps
set_option linter.unusedVariables false

section
variable {w W W' : World} {B tb : Nat} {a : Option Addr} {n cap Bd : Nat} {i : Int} {k : Nat} {d : Dev} {l : List (ByteArray × ByteArray)}
end

/-- The tape's block, and what is new. -/
def TB (tb B0 : Nat) : Nat → Prop := fun x => x = tb ∨ B0 ≤ x
theorem Fr.swap {T : Nat → Prop} (w : World) (o o' : Obj) (h : T w.heap.size) : Fr T (w.alloc o) (w.alloc o') := by
  have f1 : Fr No w (w.alloc o) := (Fr.refl _ _).alloc _
  have f2 : Fr No w (w.alloc o') := (Fr.refl _ _).alloc _
  refine ⟨rfl, rfl, rfl, by simp, fun k hk hn => ?_⟩
  have hlt : k < w.heap.size := by
    rw [World.size_alloc] at hk
    by_cases e : k = w.heap.size
    · subst e; exact absurd h hn
    · omega
  exact (f2.block k hlt id).trans (f1.block k hlt id).symm

/-- What Device hands back. -/
structure DevTo (w w' : World) (B tb k' : Nat) (i : Int) (d : Dev) (l : List (ByteArray × ByteArray)) : Prop where
  fr : Fr (Is tb) w w'
  tape : Tape w' B tb k'
  ix : d.index = i
  drv : d.drv = ⟨#[]⟩
  sz : Sized d
  att : Atts w' d.aa d.ac l
  an : d.an = l.length
  afr : ∀ ad, d.aa = some ad → w.heap.size ≤ ad.block
  lb : l.length ≤ 1
def DevRes (w w' : World) (B tb K : Nat) (i : Int) (e : Ending) : Prop := ∃ k' d l, k' ≤ K ∧ e = .returned (.agg d.vals) ∧ DevTo w w' B tb k' i d l

/-- One of some texts, all short. -/
theorem OneOf.short {l : List ByteArray} {e : Ending} (h : OneOf l e) {N : Nat} (hl : (l.all fun s => decide (s.size ≤ N)) = true) : ∃ s, e = .returned (.string s) ∧ s.size ≤ N := by
  obtain ⟨s, h1, h2⟩ := h
  exact ⟨s, h1, by simpa using List.all_eq_true.1 hl s h2⟩

end Go.Proofs.YtcibciippghooaaGreatDoor
