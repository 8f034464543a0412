/- Compare, Beneath, clash. -/
import Derived.Test.YtanaompgapiikaaGreatDoorT4
import Derived.Test.YtanaompgapiikaaGreatDoorT5
namespace Go.Proofs.YtanaompgapiikaaGreatDoor
open Go.RowKit Go.Maps
set_option linter.unusedVariables false

theorem strEq (x y : ByteArray) : (x.toList == y.toList) = decide (x = y) := by
  rw [ByteArray.toList_eq, ByteArray.toList_eq, Bool.eq_iff_iff, decide_eq_true_iff]
  constructor
  · intro h
    cases x; cases y
    have := eq_of_beq h
    simp only at this
    congr 1
    exact Array.toList_inj.1 this
  · rintro rfl; simp
theorem compareBytes_zero : ∀ (a b : List UInt8), Lib.compareBytes a b = 0 → a = b
  | [], [], _ => rfl
  | [], _ :: _, h => by simp [Lib.compareBytes] at h
  | _ :: _, [], h => by simp [Lib.compareBytes] at h
  | a :: s, b :: t, h => by
    unfold Lib.compareBytes at h
    split at h
    · simp at h
    · rename_i h1
      split at h
      · simp at h
      · rename_i h2
        have : a = b := by
          have h3 := UInt8.not_lt.1 h1
          have h4 := UInt8.not_lt.1 h2
          exact UInt8.le_antisymm h4 h3
        rw [this, compareBytes_zero s t h]

/-- The order of two lists of names. -/
def cmpN : List ByteArray → List ByteArray → Int
  | [], [] => 0
  | [], _ :: _ => -1
  | _ :: _, [] => 1
  | a :: s, b :: t => if a = b then cmpN s t else Lib.compareBytes a.data.toList b.data.toList

theorem cmpN_zero : ∀ (a b : List ByteArray), cmpN a b = 0 → a = b
  | [], [], _ => rfl
  | [], _ :: _, h => by simp [cmpN] at h
  | _ :: _, [], h => by simp [cmpN] at h
  | a :: s, b :: t, h => by
    unfold cmpN at h
    split at h
    · rename_i e; rw [e, cmpN_zero s t h]
    · rename_i e
      exfalso; apply e
      have h1 := compareBytes_zero _ _ h
      cases a; cases b
      simp only at h1
      congr 1
      exact Array.toList_inj.1 h1
theorem cmpN_snoc : ∀ (a : List ByteArray) (x : ByteArray), cmpN a (a ++ [x]) = -1
  | [], _ => rfl
  | a :: s, x => by
    show cmpN (a :: s) (a :: (s ++ [x])) = -1
    unfold cmpN
    rw [if_pos rfl]; exact cmpN_snoc s x
theorem cmpN_app : ∀ (p a b : List ByteArray), cmpN (p ++ a) (p ++ b) = cmpN a b
  | [], _, _ => rfl
  | x :: p, a, b => by
    show cmpN (x :: (p ++ a)) (x :: (p ++ b)) = _
    rw [cmpN, if_pos rfl]; exact cmpN_app p a b
theorem cmpN_drop {a b : List ByteArray} {k : Nat} (h : a.take k = b.take k) : cmpN a b = cmpN (a.drop k) (b.drop k) := by
  have h1 := cmpN_app (a.take k) (a.drop k) (b.drop k)
  rw [List.take_append_drop, h, List.take_append_drop] at h1
  exact h1

set_option maxHeartbeats 2000000 in
theorem ref_compare (a : Option Addr) (cap : Nat) (l : List ByteArray) (a' : Option Addr) (cap' : Nat) (l' : List ByteArray) (w : World) (hl : Strs w a cap l) (hl' : Strs w a' cap' l') :
    Calls Tryz.prog 104 #[.slice a l.length cap, .slice a' l'.length cap'] w fun e w' => e = .returned (.int .i64 (cmpN l l')) ∧ Fr No w w' := by
  have hm := hl.lenmax
  have hm' := hl'.lenmax
  go_enter Tryz.func104, Tryz.ntmps104
  go_wp2
  go_loopw [5] (fun i wr => ∃ k : Nat, k ≤ l.length ∧ k ≤ l'.length ∧ i = .int .i64 k ∧ Hid (l.take k = l'.take k) ∧ Fr No w wr) (fun i _ => l.length - (intOf i).toNat)
  case atStart => exact ⟨0, by omega, by omega, rfl, by unfold Hid; simp, Fr.refl _ _⟩
  case round =>
    obtain ⟨k, hk, hk', rfl, hno, hfr⟩ := hrel
    by_cases hlt : k < l.length
    · by_cases hlt' : k < l'.length
      · have hlr := hl.no hfr (fun _ h => h)
        have hlr' := hl'.no hfr (fun _ h => h)
        obtain ⟨b, off, x, rfl, hx, hc⟩ := hlr.at hlt
        have Hx := Lib.hid hx
        clear hx
        obtain ⟨b', off', x', rfl, hx', hc'⟩ := hlr'.at hlt'
        have Hx' := Lib.hid hx'
        clear hx'
        have hd : Hid (l.drop k = x :: l.drop (k + 1)) := by
          have := Hx.out; unfold Hid; rw [List.drop_eq_getElem_cons hlt]; rw [List.getElem?_eq_getElem hlt] at this; rw [Option.some.inj this]
        have hd' : Hid (l'.drop k = x' :: l'.drop (k + 1)) := by
          have := Hx'.out; unfold Hid; rw [List.drop_eq_getElem_cons hlt']; rw [List.getElem?_eq_getElem hlt'] at this; rw [Option.some.inj this]
        by_cases hxn : x = x'
        · subst hxn
          have hn : Hid (l.take (k + 1) = l'.take (k + 1)) := by
            unfold Hid; rw [List.take_add_one, List.take_add_one, hno.out, Hx.out, Hx'.out]
          go_wp2
          go_quiet (fail)
          go_wp2
          go_roundw
          case rel => exact ⟨k + 1, by omega, by omega, by go_num, hn, hfr.drewN _⟩
          case measure => simp [intOf]; omega
        · have hres : Hid (Lib.compareBytes x.data.toList x'.data.toList = cmpN l l') := by
            unfold Hid; rw [cmpN_drop hno.out, hd.out, hd'.out, cmpN, if_neg hxn]
          have hb : (!x.toList == x'.toList) = true := by rw [strEq, decide_eq_false hxn]; rfl
          clear hxn
          go_wp2
          go_quiet (fail)
          go_wp2
          refine region_sig No [(0, false), (1, false), (2, false), (3, false), (4, false), (5, false), (6, false), (7, false), (8, true), (9, false)] (by kernel_rfl) (by kernel_rfl) (fun w0 hf0 => ?_)
          have hf1 := (hfr.drewN _).step hf0 (fun _ _ h => h)
          have c0 : ∀ g : Gr No w0, g.W.cell? ⟨b, off + k, none⟩ = some (.string x) := fun g => g.fr.cell (hf0.cell hc id) id
          have c1 : ∀ g : Gr No w0, g.W.cell? ⟨b', off' + k, none⟩ = some (.string x') := fun g => g.fr.cell (hf0.cell hc' id) id
          repeat (apply sig_q; exact rfl; exact rfl; exact rfl; intro K hK; go_big_quiet_op; go_big_quiet_on)
          apply sig_m
          exact rfl
          go_wp2_with fail
          refine (Tryz.strings_Compare x x' _).mono ?_
          rintro e w1 ⟨rfl, rfl⟩
          go_wp2_with fail
          refine OnlyN.mk ⟨Fr.refl _ _, ?_⟩
          repeat (apply sig_q; exact rfl; exact rfl; exact rfl; intro K hK; go_big_quiet_op; go_big_quiet_on)
          refine sig_end ?_
          go_wp2_with fail
          go_ret
          exact ⟨ret_int hres.out, hf1⟩
      · have h := hno.out
        have he : k = l'.length := by omega
        have hres : Hid ((1 : Int) = cmpN l l') := by
          unfold Hid
          rw [cmpN_drop h, List.drop_eq_getElem_cons hlt, List.drop_of_length_le (by omega : l'.length ≤ k)]
          simp [cmpN]
        have hgt : l'.length < l.length := by omega
        clear h he
        go_wp2
        go_ret
        exact ⟨ret_int hres.out, hfr⟩
    · have h := hno.out
      have he : k = l.length := by omega
      by_cases hlt' : k < l'.length
      · have hres : Hid ((-1 : Int) = cmpN l l') := by
          unfold Hid
          rw [cmpN_drop h, List.drop_eq_getElem_cons hlt', List.drop_of_length_le (by omega : l.length ≤ k)]
          simp [cmpN]
        have hgt : l.length < l'.length := by omega
        clear h he
        go_wp2
        go_ret
        exact ⟨ret_int hres.out, hfr⟩
      · have hres : Hid ((0 : Int) = cmpN l l') := by
          unfold Hid
          rw [cmpN_drop h, List.drop_of_length_le (by omega), List.drop_of_length_le (by omega)]
          simp [cmpN]
        have hgt : ¬ l.length < l'.length := by omega
        have hgt' : ¬ l'.length < l.length := by omega
        clear h he
        go_wp2
        go_ret
        exact ⟨ret_int hres.out, hfr⟩

set_option maxHeartbeats 400000 in
theorem t_beneath (s u : ByteArray) (w : World) (hs : s.size ≤ 3000000) (hu : u.size ≤ 3000000) :
    Calls Tryz.prog 154 #[.string s, .string u] w fun e w' => RetB e ∧ w = w' := by
  go_enter Tryz.func154, Tryz.ntmps154
  go_wp2_with fail
  refine (Tryz.strings_HasPrefix u _ _).mono ?_
  rintro e w1 ⟨rfl, rfl⟩
  go_wp2_with fail
  go_ret
  exact ⟨RetB.mk _, rfl⟩
end Go.Proofs.YtanaompgapiikaaGreatDoor
