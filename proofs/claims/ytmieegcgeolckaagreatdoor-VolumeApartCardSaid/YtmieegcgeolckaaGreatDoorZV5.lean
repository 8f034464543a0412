/- cmp.Compare, cmp.Or. cmp.Compare of strings. Attributes in memory; Sorted, Node. Node, Link. Check of a device. Compare, Beneath, clash. slices.Compare of strings. name.Compare. gather.ComparePaths. gather.Before. ahead. -/
import Derived.Test.YtmieegcgeolckaaGreatDoorZV4
import Derived.Test.YtmieegcgeolckaaGreatDoorZV2
import Derived.Lib.ReplaceLaws
import Derived.Deep.DeepCutAuto
import Derived.Test.YtmieegcgeolckaaGreatDoorZV3
namespace Go.Proofs.YtmieegcgeolckaaGreatDoor
open Go.RowKit Go.Maps
set_option linter.unusedVariables false

/-- The order of two ints. -/
def cmpI (x y : Int) : Int := if x < y then -1 else if y < x then 1 else 0
set_option maxHeartbeats 1000000 in
theorem nan_int (x : Int) (w : World) : Calls Tryz.prog 133 #[.int .i64 x] w fun e w' => e = .returned (.bool false) ∧ w = w' := by
  go_enter Tryz.func133, Tryz.ntmps133
  go_wp2_with fail
  go_ret
  simp
set_option maxHeartbeats 1000000 in
theorem nan_str (x : ByteArray) (w : World) : Calls Tryz.prog 175 #[.string x] w fun e w' => e = .returned (.bool false) ∧ w = w' := by
  have hb : (!x.toList == x.toList) = false := by simp
  go_enter Tryz.func175, Tryz.ntmps175
  go_wp2_with fail
  go_ret
  simp
set_option maxHeartbeats 1000000 in
theorem cmp_int (x y : Int) (w : World) : Calls Tryz.prog 104 #[.int .i64 x, .int .i64 y] w fun e w' => e = .returned (.int .i64 (cmpI x y)) ∧ w = w' := by
  obtain ⟨r, hr⟩ : ∃ r, r = cmpI x y := ⟨_, rfl⟩
  rw [← hr]
  have Hr := Lib.hid hr
  clear hr
  go_enter Tryz.func104, Tryz.ntmps104
  go_wp2_with fail
  refine (nan_int x _).mono ?_
  rintro e w1 ⟨rfl, rfl⟩
  go_wp2_with fail
  refine (nan_int y _).mono ?_
  rintro e w1 ⟨rfl, rfl⟩
  by_cases h1 : x < y
  · have H1 := Lib.hid h1
    go_wp2_with fail
    go_ret
    exact ⟨by rw [Hr.out, cmpI, if_pos H1.out]; rfl, rfl⟩
  · by_cases h2 : y < x
    · have H1 := Lib.hid h1
      have H2 := Lib.hid h2
      go_wp2_with fail
      go_ret
      exact ⟨by rw [Hr.out, cmpI, if_neg (by have := H1.out; omega), if_pos H2.out]; rfl, rfl⟩
    · have H1 := Lib.hid h1
      have H2 := Lib.hid h2
      go_wp2_with fail
      go_ret
      exact ⟨by rw [Hr.out, cmpI, if_neg (by have := H1.out; omega), if_neg (by have := H2.out; omega)]; rfl, rfl⟩
/-- The first that is not zero. -/
def orI (x y : Int) : Int := if x = 0 then y else x
set_option maxRecDepth 100000 in
set_option maxHeartbeats 2000000 in
theorem or_int (b : Nat) (x y : Int) (w : World) (h0 : w.cell? ⟨b, 0, none⟩ = some (.int .i64 x)) (h1 : w.cell? ⟨b, 1, none⟩ = some (.int .i64 y)) : Calls Tryz.prog 103 #[.slice (some ⟨b, 0, none⟩) 2 2] w fun e w' => e = .returned (.int .i64 (orI x y)) ∧ w = w' := by
  obtain ⟨r, hr⟩ : ∃ r, r = orI x y := ⟨_, rfl⟩
  rw [← hr]
  have Hr := Lib.hid hr
  clear hr
  go_enter Tryz.func103, Tryz.ntmps103
  go_wp2_with fail
  go_loop [8] (fun i => i = .int .i64 0 ∨ (i = .int .i64 1 ∧ Hid (x = 0)) ∨ (i = .int .i64 2 ∧ Hid (x = 0 ∧ y = 0))) (fun i => 2 - (intOf i).toNat)
  case atStart => exact .inl rfl
  case round =>
    rcases hrel with rfl | ⟨rfl, hx⟩ | ⟨rfl, hxy⟩
    · by_cases hx : x = 0
      · have Hx := Lib.hid hx
        go_wp2_with fail
        go_round
        case rel => exact .inr (.inl ⟨rfl, Hx⟩)
        case measure => decide
      · have Hx := Lib.hid hx
        go_wp2_with fail
        go_ret
        exact ⟨by rw [Hr.out, orI, if_neg Hx.out]; rfl, rfl⟩
    · by_cases hy : y = 0
      · have Hy := Lib.hid hy
        go_wp2_with fail
        go_round
        case rel => exact .inr (.inr ⟨rfl, hx.out, Hy.out⟩)
        case measure => decide
      · have Hy := Lib.hid hy
        go_wp2_with fail
        go_ret
        exact ⟨by rw [Hr.out, orI, if_pos hx.out]; rfl, rfl⟩
    · go_wp2_with fail
      go_ret
      exact ⟨by rw [Hr.out, orI, if_pos hxy.out.1, hxy.out.2]; rfl, rfl⟩
end Go.Proofs.YtmieegcgeolckaaGreatDoor
namespace Go.Proofs.YtmieegcgeolckaaGreatDoor
open Go.RowKit Go.Maps
set_option linter.unusedVariables false
theorem compareBytes_self : ∀ a : List UInt8, Lib.compareBytes a a = 0
  | [] => rfl
  | a :: s => by unfold Lib.compareBytes; rw [if_neg (UInt8.lt_irrefl _), if_neg (UInt8.lt_irrefl _)]; exact compareBytes_self s
theorem compare_less : ∀ a b : List UInt8, Lib.compareBytes a b = if Op.bytesLess a b = true then -1 else if a = b then 0 else 1
  | [], [] => by simp [Lib.compareBytes, Op.bytesLess]
  | [], _ :: _ => by simp [Lib.compareBytes, Op.bytesLess]
  | _ :: _, [] => by simp [Lib.compareBytes, Op.bytesLess]
  | a :: s, b :: t => by
    have ih := compare_less s t
    by_cases h1 : a < b
    · simp [Lib.compareBytes, Op.bytesLess, h1]
    · by_cases h2 : b < a
      · have h3 : a ≠ b := fun e => by subst e; exact absurd h2 (UInt8.lt_irrefl _)
        simp [Lib.compareBytes, Op.bytesLess, h1, h2, h3]
      · have h3 : a = b := UInt8.le_antisymm (UInt8.not_lt.1 h2) (UInt8.not_lt.1 h1)
        subst h3
        simp only [Lib.compareBytes, Op.bytesLess, if_neg h1, ih]
        simp [h1]
set_option maxHeartbeats 1000000 in
theorem cmp_str (x y : ByteArray) (w : World) : Calls Tryz.prog 136 #[.string x, .string y] w fun e w' => e = .returned (.int .i64 (Lib.compareBytes x.data.toList y.data.toList)) ∧ w = w' := by
  obtain ⟨r, hr⟩ : ∃ r, r = Lib.compareBytes x.data.toList y.data.toList := ⟨_, rfl⟩
  rw [← hr]
  have Hr := Lib.hid hr
  clear hr
  go_enter Tryz.func136, Tryz.ntmps136
  go_wp2_with fail
  refine (nan_str x _).mono ?_
  rintro e w1 ⟨rfl, rfl⟩
  go_wp2_with fail
  refine (nan_str y _).mono ?_
  rintro e w1 ⟨rfl, rfl⟩
  have hc := compare_less x.toList y.toList
  rw [ByteArray.toList_eq, ByteArray.toList_eq, ← Hr.out, ← ByteArray.toList_eq, ← ByteArray.toList_eq] at hc
  have Hc := Lib.hid hc
  clear hc
  cases hb : Op.bytesLess x.toList y.toList with
  | true =>
    have Hb := Lib.hid hb
    go_wp2_with fail
    go_ret
    exact ⟨by rw [Hc.out, if_pos Hb.out]; rfl, rfl⟩
  | false =>
    have Hb := Lib.hid hb
    cases he : (x.toList == y.toList) with
    | true =>
      have He := Lib.hid he
      go_wp2_with fail
      go_ret
      exact ⟨by rw [Hc.out, if_neg (by rw [Hb.out]; simp), if_pos (eq_of_beq He.out)]; rfl, rfl⟩
    | false =>
      have He := Lib.hid he
      go_wp2_with fail
      go_ret
      exact ⟨by rw [Hc.out, if_neg (by rw [Hb.out]; simp), if_neg (fun e => by have h := He.out; rw [e] at h; simp at h)]; rfl, rfl⟩
end Go.Proofs.YtmieegcgeolckaaGreatDoor
namespace Go.Proofs.YtmieegcgeolckaaGreatDoor
open Go.RowKit
set_option linter.unusedVariables false

/-- A slice of attributes: its elements are 'l' (name, value). -/
structure Atts (w : World) (a : Option Addr) (cap : Nat) (l : List (ByteArray × ByteArray)) : Prop where
  len : l.length ≤ cap
  max : cap ≤ maxLen
  isNil : a = none → l = [] ∧ cap = 0
  wf : ∀ x ∈ l, x.1.size ≤ maxLen ∧ x.2.size ≤ maxLen
  cell : ∀ ad, a = some ad → l ≠ [] → ad.spot = none ∧ ad.block < w.heap.size ∧ ∀ i x, l[i]? = some x → w.cell? ⟨ad.block, ad.off + i * 2, none⟩ = some (.string x.1) ∧ w.cell? ⟨ad.block, ad.off + i * 2 + 1, none⟩ = some (.string x.2)

theorem Atts.at {w : World} {a : Option Addr} {cap : Nat} {l : List (ByteArray × ByteArray)} (h : Atts w a cap l) {k : Nat} (hk : k < l.length) :
    ∃ b off x y, a = some ⟨b, off, none⟩ ∧ l[k]? = some (x, y) ∧ x.size ≤ maxLen ∧ y.size ≤ maxLen ∧ w.cell? ⟨b, off + k * 2, none⟩ = some (.string x) ∧ w.cell? ⟨b, off + k * 2 + 1, none⟩ = some (.string y) := by
  cases a with
  | none => obtain ⟨rfl, _⟩ := h.isNil rfl; simp at hk
  | some ad =>
    obtain ⟨b, off, sp⟩ := ad
    obtain ⟨h1, h2, h3⟩ := h.cell _ rfl (by intro e; subst e; simp at hk)
    simp at h1; subst h1
    have h4 := h3 k _ (List.getElem?_eq_getElem hk)
    have h5 := h.wf l[k] (List.getElem_mem hk)
    exact ⟨b, off, l[k].1, l[k].2, rfl, List.getElem?_eq_getElem hk, h5.1, h5.2, h4.1, h4.2⟩
theorem Atts.lenmax {w : World} {a : Option Addr} {cap : Nat} {l : List (ByteArray × ByteArray)} (h : Atts w a cap l) : l.length ≤ 9223372036854775807 := by
  have h1 := h.len; have h2 := h.max; unfold maxLen at h2; omega
theorem Atts.fr {S : Nat → Prop} {w w' : World} {a : Option Addr} {cap : Nat} {l : List (ByteArray × ByteArray)} (h : Atts w a cap l) (hf : Fr S w w') (hS : ∀ ad, a = some ad → l ≠ [] → ¬ S ad.block) : Atts w' a cap l :=
  ⟨h.len, h.max, h.isNil, h.wf, fun ad e hne => by
    obtain ⟨h1, h2, h3⟩ := h.cell ad e hne
    exact ⟨h1, Nat.lt_of_lt_of_le h2 hf.size, fun i x hi => ⟨hf.cell (h3 i x hi).1 (hS ad e hne), hf.cell (h3 i x hi).2 (hS ad e hne)⟩⟩⟩
theorem Atts.no {S : Nat → Prop} {w w' : World} {a : Option Addr} {cap : Nat} {l : List (ByteArray × ByteArray)} (h : Atts w a cap l) (hf : Fr S w w') (hS : ∀ k, ¬ S k) : Atts w' a cap l := h.fr hf (fun _ _ _ => hS _)
theorem Atts.nil (w : World) : Atts w none 0 [] := ⟨by simp, by simp, fun _ => ⟨rfl, rfl⟩, by simp, fun _ e _ => by cases e⟩

end Go.Proofs.YtmieegcgeolckaaGreatDoor
namespace Go.Proofs.YtmieegcgeolckaaGreatDoor
open Go.RowKit
set_option linter.unusedVariables false

theorem replaceK_len (old new : List UInt8) : ∀ (k : Nat) (s : List UInt8), (Lib.replaceK old new k s).length ≤ s.length + k * new.length
  | 0, s => by simp [Lib.replaceK]
  | k + 1, s => by
    unfold Lib.replaceK
    split
    · omega
    · have h := replaceK_len old new k (s.drop ((Lib.index s old).toNat + old.length))
      simp only [List.length_append, List.length_take, List.length_drop] at h ⊢
      have e : (k + 1) * new.length = k * new.length + new.length := Nat.succ_mul _ _
      omega
theorem replaceAll_len (s old new : List UInt8) : (Lib.replaceAll s old new).length ≤ s.length + (s.length + 1) * new.length := by
  unfold Lib.replaceAll Lib.replace
  split
  · omega
  · have h := replaceK_len old new (Lib.replaceNum s old (-1)) s
    have h2 : Lib.replaceNum s old (-1) ≤ s.length + 1 := by
      unfold Lib.replaceNum
      rw [if_pos (.inl (by omega))]
      exact Lib.count_le s old
    have h3 := Nat.mul_le_mul_right new.length h2
    omega

theorem splitB_size (sep : ByteArray) : ∀ (k : Nat) (s x : ByteArray), x ∈ Lib.splitB sep 0 k s → x.size ≤ s.size
  | 0, s, x, h => by
    rw [Lib.splitB_zero] at h
    simp at h; subst h; exact Nat.le_refl _
  | k + 1, s, x, h => by
    unfold Lib.splitB at h
    split at h
    · simp at h; subst h; exact Nat.le_refl _
    · rcases List.mem_cons.1 h with h | h
      · subst h; rw [ByteArray.size_extract]; omega
      · have h1 := splitB_size sep k _ x h
        rw [ByteArray.size_extract] at h1
        omega

end Go.Proofs.YtmieegcgeolckaaGreatDoor
namespace Go.Proofs.YtmieegcgeolckaaGreatDoor
open Go.RowKit
set_option linter.unusedVariables false

/-- What Check's 0 says (as far as it is used). -/
structure Okay (d : Dev) : Prop where
  lo : 1 ≤ d.index
  hi : d.index ≤ 1073741824
  plo : 0 ≤ d.parent
  ne : d.parent ≠ d.index
  orig : OkN d.orig
/-- An error number is returned; 0 only for what is okay. -/
def RetE (p : Prop) (e : Ending) : Prop := ∃ er, e = .returned (.int .i64 er) ∧ (er = 0 → p)
theorem RetE.no {p : Prop} {er : Int} (h : er ≠ 0) : RetE p (.returned (.int .i64 er)) := ⟨er, rfl, fun e => absurd e h⟩
/-- The texts of a device are no longer than any text. -/
structure Sized (d : Dev) : Prop where
  name : d.name.size ≤ maxLen
  orig : d.orig.size ≤ maxLen
  sub : d.sub.size ≤ maxLen
  drv : d.drv.size ≤ maxLen
  ali : d.ali.size ≤ maxLen

end Go.Proofs.YtmieegcgeolckaaGreatDoor
namespace Go.Proofs.YtmieegcgeolckaaGreatDoor
open Go.RowKit Go.Maps
set_option linter.unusedVariables false

theorem strEq (x y : ByteArray) : (x.toList == y.toList) = decide (x = y) := by
  rw [ByteArray.toList_eq, ByteArray.toList_eq, Bool.eq_iff_iff, decide_eq_true_iff]
  constructor
  · intro h
    cases x; cases y
    have := eq_of_beq h
    simp only at this
    congr 1
    exact Array.toList_inj.1 this
  · rintro rfl; simp
theorem compareBytes_zero : ∀ (a b : List UInt8), Lib.compareBytes a b = 0 → a = b
  | [], [], _ => rfl
  | [], _ :: _, h => by simp [Lib.compareBytes] at h
  | _ :: _, [], h => by simp [Lib.compareBytes] at h
  | a :: s, b :: t, h => by
    unfold Lib.compareBytes at h
    split at h
    · simp at h
    · rename_i h1
      split at h
      · simp at h
      · rename_i h2
        have : a = b := by
          have h3 := UInt8.not_lt.1 h1
          have h4 := UInt8.not_lt.1 h2
          exact UInt8.le_antisymm h4 h3
        rw [this, compareBytes_zero s t h]

/-- The order of two lists of names. -/
def cmpN : List ByteArray → List ByteArray → Int
  | [], [] => 0
  | [], _ :: _ => -1
  | _ :: _, [] => 1
  | a :: s, b :: t => if a = b then cmpN s t else Lib.compareBytes a.data.toList b.data.toList

theorem cmpN_zero : ∀ (a b : List ByteArray), cmpN a b = 0 → a = b
  | [], [], _ => rfl
  | [], _ :: _, h => by simp [cmpN] at h
  | _ :: _, [], h => by simp [cmpN] at h
  | a :: s, b :: t, h => by
    unfold cmpN at h
    split at h
    · rename_i e; rw [e, cmpN_zero s t h]
    · rename_i e
      exfalso; apply e
      have h1 := compareBytes_zero _ _ h
      cases a; cases b
      simp only at h1
      congr 1
      exact Array.toList_inj.1 h1
theorem cmpN_snoc : ∀ (a : List ByteArray) (x : ByteArray), cmpN a (a ++ [x]) = -1
  | [], _ => rfl
  | a :: s, x => by
    show cmpN (a :: s) (a :: (s ++ [x])) = -1
    unfold cmpN
    rw [if_pos rfl]; exact cmpN_snoc s x
theorem cmpN_app : ∀ (p a b : List ByteArray), cmpN (p ++ a) (p ++ b) = cmpN a b
  | [], _, _ => rfl
  | x :: p, a, b => by
    show cmpN (x :: (p ++ a)) (x :: (p ++ b)) = _
    rw [cmpN, if_pos rfl]; exact cmpN_app p a b
theorem cmpN_drop {a b : List ByteArray} {k : Nat} (h : a.take k = b.take k) : cmpN a b = cmpN (a.drop k) (b.drop k) := by
  have h1 := cmpN_app (a.take k) (a.drop k) (b.drop k)
  rw [List.take_append_drop, h, List.take_append_drop] at h1
  exact h1

set_option maxHeartbeats 2000000 in
theorem ref_compare (a : Option Addr) (cap : Nat) (l : List ByteArray) (a' : Option Addr) (cap' : Nat) (l' : List ByteArray) (w : World) (hl : Strs w a cap l) (hl' : Strs w a' cap' l') :
    Calls Tryz.prog 123 #[.slice a l.length cap, .slice a' l'.length cap'] w fun e w' => e = .returned (.int .i64 (cmpN l l')) ∧ Fr No w w' := by
  have hm := hl.lenmax
  have hm' := hl'.lenmax
  go_enter Tryz.func123, Tryz.ntmps123
  go_wp2
  go_loopw [5] (fun i wr => ∃ k : Nat, k ≤ l.length ∧ k ≤ l'.length ∧ i = .int .i64 k ∧ Hid (l.take k = l'.take k) ∧ Fr No w wr) (fun i _ => l.length - (intOf i).toNat)
  case atStart => exact ⟨0, by omega, by omega, rfl, by unfold Hid; simp, Fr.refl _ _⟩
  case round =>
    obtain ⟨k, hk, hk', rfl, hno, hfr⟩ := hrel
    by_cases hlt : k < l.length
    · by_cases hlt' : k < l'.length
      · have hlr := hl.no hfr (fun _ h => h)
        have hlr' := hl'.no hfr (fun _ h => h)
        obtain ⟨b, off, x, rfl, hx, hc⟩ := hlr.at hlt
        have Hx := Lib.hid hx
        clear hx
        obtain ⟨b', off', x', rfl, hx', hc'⟩ := hlr'.at hlt'
        have Hx' := Lib.hid hx'
        clear hx'
        have hd : Hid (l.drop k = x :: l.drop (k + 1)) := by
          have := Hx.out; unfold Hid; rw [List.drop_eq_getElem_cons hlt]; rw [List.getElem?_eq_getElem hlt] at this; rw [Option.some.inj this]
        have hd' : Hid (l'.drop k = x' :: l'.drop (k + 1)) := by
          have := Hx'.out; unfold Hid; rw [List.drop_eq_getElem_cons hlt']; rw [List.getElem?_eq_getElem hlt'] at this; rw [Option.some.inj this]
        by_cases hxn : x = x'
        · subst hxn
          have hn : Hid (l.take (k + 1) = l'.take (k + 1)) := by
            unfold Hid; rw [List.take_add_one, List.take_add_one, hno.out, Hx.out, Hx'.out]
          go_wp2
          go_quiet (fail)
          go_wp2
          go_roundw
          case rel => exact ⟨k + 1, by omega, by omega, by go_num, hn, hfr.drewN _⟩
          case measure => simp [intOf]; omega
        · have hres : Hid (Lib.compareBytes x.data.toList x'.data.toList = cmpN l l') := by
            unfold Hid; rw [cmpN_drop hno.out, hd.out, hd'.out, cmpN, if_neg hxn]
          have hb : (!x.toList == x'.toList) = true := by rw [strEq, decide_eq_false hxn]; rfl
          clear hxn
          go_wp2
          go_quiet (fail)
          go_wp2
          refine region_sig No [(0, false), (1, false), (2, false), (3, false), (4, false), (5, false), (6, false), (7, false), (8, true), (9, false)] (by kernel_rfl) (by kernel_rfl) (fun w0 hf0 => ?_)
          have hf1 := (hfr.drewN _).step hf0 (fun _ _ h => h)
          have c0 : ∀ g : Gr No w0, g.W.cell? ⟨b, off + k, none⟩ = some (.string x) := fun g => g.fr.cell (hf0.cell hc id) id
          have c1 : ∀ g : Gr No w0, g.W.cell? ⟨b', off' + k, none⟩ = some (.string x') := fun g => g.fr.cell (hf0.cell hc' id) id
          repeat (apply sig_q; exact rfl; exact rfl; exact rfl; intro K hK; go_big_quiet_op; go_big_quiet_on)
          apply sig_m
          exact rfl
          go_wp2_with fail
          refine (Tryz.strings_Compare x x' _).mono ?_
          rintro e w1 ⟨rfl, rfl⟩
          go_wp2_with fail
          refine OnlyN.mk ⟨Fr.refl _ _, ?_⟩
          repeat (apply sig_q; exact rfl; exact rfl; exact rfl; intro K hK; go_big_quiet_op; go_big_quiet_on)
          refine sig_end ?_
          go_wp2_with fail
          go_ret
          exact ⟨ret_int hres.out, hf1⟩
      · have h := hno.out
        have he : k = l'.length := by omega
        have hres : Hid ((1 : Int) = cmpN l l') := by
          unfold Hid
          rw [cmpN_drop h, List.drop_eq_getElem_cons hlt, List.drop_of_length_le (by omega : l'.length ≤ k)]
          simp [cmpN]
        have hgt : l'.length < l.length := by omega
        clear h he
        go_wp2
        go_ret
        exact ⟨ret_int hres.out, hfr⟩
    · have h := hno.out
      have he : k = l.length := by omega
      by_cases hlt' : k < l'.length
      · have hres : Hid ((-1 : Int) = cmpN l l') := by
          unfold Hid
          rw [cmpN_drop h, List.drop_eq_getElem_cons hlt', List.drop_of_length_le (by omega : l.length ≤ k)]
          simp [cmpN]
        have hgt : l.length < l'.length := by omega
        clear h he
        go_wp2
        go_ret
        exact ⟨ret_int hres.out, hfr⟩
      · have hres : Hid ((0 : Int) = cmpN l l') := by
          unfold Hid
          rw [cmpN_drop h, List.drop_of_length_le (by omega), List.drop_of_length_le (by omega)]
          simp [cmpN]
        have hgt : ¬ l.length < l'.length := by omega
        have hgt' : ¬ l'.length < l.length := by omega
        clear h he
        go_wp2
        go_ret
        exact ⟨ret_int hres.out, hfr⟩

end Go.Proofs.YtmieegcgeolckaaGreatDoor
namespace Go.Proofs.YtmieegcgeolckaaGreatDoor
open Go.RowKit Go.Maps
set_option linter.unusedVariables false
set_option maxRecDepth 100000 in
set_option maxHeartbeats 2000000 in
theorem strs_compare (a : Option Addr) (cap : Nat) (l : List ByteArray) (a' : Option Addr) (cap' : Nat) (l' : List ByteArray) (w : World) (hl : Strs w a cap l) (hl' : Strs w a' cap' l') :
    Calls Tryz.prog 172 #[.slice a l.length cap, .slice a' l'.length cap'] w fun e w' => e = .returned (.int .i64 (cmpN l l')) ∧ w = w' := by
  have hm := hl.lenmax
  have hm' := hl'.lenmax
  obtain ⟨r, hr⟩ : ∃ r, r = cmpN l l' := ⟨_, rfl⟩
  rw [← hr]
  have Hr := Lib.hid hr
  clear hr
  go_enter Tryz.func172, Tryz.ntmps172
  go_wp2_with fail
  go_loop [11] (fun i => ∃ k : Nat, k ≤ l.length ∧ k ≤ l'.length ∧ i = .int .i64 (k : Int) ∧ Hid (l.take k = l'.take k)) (fun i => l.length - (intOf i).toNat)
  case atStart => exact ⟨0, by omega, by omega, rfl, by unfold Hid; simp⟩
  case round =>
    obtain ⟨k, hk, hk', rfl, Ht⟩ := hrel
    have Hd := Lib.hid (cmpN_drop Ht.out)
    by_cases hlt : k < l.length
    · have hlt1 : (k : Int) < l.length := by omega
      obtain ⟨b, off, x, rfl, hx, c0⟩ := hl.at hlt
      have hdx : l.drop k = x :: l.drop (k + 1) := by
        obtain ⟨h1, h2⟩ := List.getElem?_eq_some_iff.1 hx
        rw [← h2]; exact List.drop_eq_getElem_cons h1
      by_cases hlt' : k < l'.length
      · have hlt2 : ¬ (l'.length : Int) ≤ (k : Int) := by omega
        have hlt3 : (k : Int) < l'.length := by omega
        obtain ⟨b', off', x', rfl, hx', c1⟩ := hl'.at hlt'
        have hdx' : l'.drop k = x' :: l'.drop (k + 1) := by
          obtain ⟨h1, h2⟩ := List.getElem?_eq_some_iff.1 hx'
          rw [← h2]; exact List.drop_eq_getElem_cons h1
        have Hdx := Lib.hid hdx
        have Hdx' := Lib.hid hdx'
        have Htk : Hid (x = x' → l.take (k + 1) = l'.take (k + 1)) := fun e => by rw [List.take_add_one, List.take_add_one, hx, hx', Ht.out, e]
        clear hdx hdx' hx hx'
        go_wp2_with fail
        refine (cmp_str x x' _).mono ?_
        rintro e w1 ⟨rfl, rfl⟩
        by_cases hz : Lib.compareBytes x.data.toList x'.data.toList = 0
        · have hxx : x = x' := by
            have h1 := compareBytes_zero _ _ hz
            cases x; cases x'
            simp only at h1
            congr 1
            exact Array.toList_inj.1 h1
          have Hn := Lib.hid (Htk.out hxx)
          rw [hz]
          clear hz
          go_wp2_with fail
          go_round
          case rel => exact ⟨k + 1, by omega, by omega, by go_num, Hn⟩
          case measure => simp [intOf]; omega
        · have Hres : Hid (r = Lib.compareBytes x.data.toList x'.data.toList) := by
            unfold Hid
            rw [Hr.out, Hd.out, Hdx.out, Hdx'.out, cmpN, if_neg (fun e => hz (by rw [e]; exact compareBytes_self _))]
          generalize Lib.compareBytes x.data.toList x'.data.toList = cb at *
          go_wp2_with fail
          go_ret
          exact ⟨by rw [Hres.out]; rfl, rfl⟩
      · have hlt2 : (l'.length : Int) ≤ (k : Int) := by omega
        have Hres : Hid (r = 1) := by
          unfold Hid
          rw [Hr.out, Hd.out, hdx, List.drop_eq_nil_of_le (by omega : l'.length ≤ k)]
          rfl
        clear hdx hx
        go_wp2_with fail
        go_ret
        exact ⟨by rw [Hres.out]; rfl, rfl⟩
    · have hlt1 : ¬ (k : Int) < l.length := by omega
      obtain rfl : k = l.length := by omega
      by_cases hll : l.length < l'.length
      · have hll' : (l.length : Int) < l'.length := by omega
        have Hres : Hid (r = -1) := by
          unfold Hid
          rw [Hr.out, Hd.out, List.drop_length, List.drop_eq_getElem_cons hll]
          rfl
        go_wp2_with fail
        go_ret
        exact ⟨by rw [Hres.out]; rfl, rfl⟩
      · have hll' : ¬ (l.length : Int) < l'.length := by omega
        have Hres : Hid (r = 0) := by
          unfold Hid
          rw [Hr.out, Hd.out, List.drop_length, List.drop_eq_nil_of_le (by omega : l'.length ≤ l.length)]
          rfl
        go_wp2_with fail
        go_ret
        exact ⟨by rw [Hres.out]; rfl, rfl⟩
end Go.Proofs.YtmieegcgeolckaaGreatDoor
namespace Go.Proofs.YtmieegcgeolckaaGreatDoor
open Go.RowKit Go.Maps
set_option linter.unusedVariables false
/-- What name.Compare answers. -/
def cmpP (s t : ByteArray) : Int × Int := if goodPath s && goodPath t then (cmpN (sparts s) (sparts t), 0) else (0, 10)
set_option maxRecDepth 100000 in
set_option maxHeartbeats 2000000 in
theorem name_compare (s t : ByteArray) (m : Int) (w : World) (hs : s.size ≤ 1000000) (ht : t.size ≤ 1000000) (hm : w.cell? ⟨0, 0, none⟩ = some (.int .i64 m)) :
    Calls Tryz.prog 134 #[.string s, .string t] w fun e w' => e = .returned (.tuple #[.int .i64 (cmpP s t).1, .int .i64 (cmpP s t).2]) ∧ Fr No w w' := by
  obtain ⟨r1, h1⟩ : ∃ r, r = (cmpP s t).1 := ⟨_, rfl⟩
  obtain ⟨r2, h2⟩ : ∃ r, r = (cmpP s t).2 := ⟨_, rfl⟩
  rw [← h1, ← h2]
  have H1 := Lib.hid h1
  have H2 := Lib.hid h2
  clear h1 h2
  go_enter Tryz.func134, Tryz.ntmps134
  go_wp2_with fail
  refine (n_split s m _ hs hm).mono ?_
  rintro e w1 ⟨hr1, hf1⟩
  have hm1 := hf1.cell hm id
  have Hf1 := Lib.hid hf1
  clear hm hf1
  rcases hr1 with ⟨hg1, rfl⟩ | ⟨hg1, ad1, rfl, hS1, _⟩
  · have G1 := Lib.hid hg1
    clear hg1
    go_wp2_with fail
    refine (n_split t m _ ht hm1).mono ?_
    rintro e w2 ⟨hr2, hf2⟩
    have Hf2 := Lib.hid (Hf1.out.step hf2 (fun _ _ h => h))
    clear hm1 hf2
    rcases hr2 with ⟨hg2, rfl⟩ | ⟨hg2, ad2, rfl, hS2, _⟩
    · clear hg2
      go_wp2_with fail
      go_ret2
      exact ⟨by rw [H1.out, H2.out, cmpP, G1.out]; rfl, Hf2.out⟩
    · clear hg2 hS2
      go_wp2_with fail
      go_ret2
      exact ⟨by rw [H1.out, H2.out, cmpP, G1.out]; rfl, Hf2.out⟩
  · have G1 := Lib.hid hg1
    clear hg1
    go_wp2_with fail
    refine (n_split t m _ ht hm1).mono ?_
    rintro e w2 ⟨hr2, hf2⟩
    have Hf2 := Lib.hid (Hf1.out.step hf2 (fun _ _ h => h))
    have hS1' := hS1.no hf2 (fun _ => id)
    clear hm1 hf2 hS1
    rcases hr2 with ⟨hg2, rfl⟩ | ⟨hg2, ad2, rfl, hS2, _⟩
    · have G2 := Lib.hid hg2
      clear hg2 hS1'
      go_wp2_with fail
      go_ret2
      exact ⟨by rw [H1.out, H2.out, cmpP, G1.out, G2.out]; rfl, Hf2.out⟩
    · have G2 := Lib.hid hg2
      have hsc := strs_compare (some ad1) _ _ (some ad2) _ _ w2 hS1' hS2
      clear hg2 hS1' hS2
      obtain ⟨p1, e1⟩ : ∃ p, p = sparts s := ⟨_, rfl⟩
      obtain ⟨p2, e2⟩ : ∃ p, p = sparts t := ⟨_, rfl⟩
      rw [← e1, ← e2] at hsc ⊢
      have E1 := Lib.hid e1
      have E2 := Lib.hid e2
      clear e1 e2
      go_wp2_with fail
      refine hsc.mono ?_
      rintro e w3 ⟨rfl, rfl⟩
      have Hr : Hid (r1 = cmpN p1 p2 ∧ r2 = 0) := by unfold Hid; rw [H1.out, H2.out, cmpP, G1.out, G2.out, ← E1.out, ← E2.out]; exact ⟨rfl, rfl⟩
      generalize cmpN p1 p2 = cn at *
      go_wp2_with fail
      go_ret2
      exact ⟨by rw [Hr.out.1, Hr.out.2]; rfl, Hf2.out⟩
end Go.Proofs.YtmieegcgeolckaaGreatDoor
namespace Go.Proofs.YtmieegcgeolckaaGreatDoor
open Go.RowKit Go.Maps
set_option linter.unusedVariables false
/-- The order of two paths. -/
def pathO (s t : ByteArray) : Int := if goodPath s then (if goodPath t then cmpN (sparts s) (sparts t) else -1) else if goodPath t then 1 else Lib.compareBytes s.data.toList t.data.toList
set_option maxRecDepth 100000 in
set_option maxHeartbeats 2000000 in
theorem path_order (s t : ByteArray) (m : Int) (w : World) (hs : s.size ≤ 1000000) (ht : t.size ≤ 1000000) (hm : w.cell? ⟨0, 0, none⟩ = some (.int .i64 m)) :
    Calls Tryz.prog 105 #[.string s, .string t] w fun e w' => e = .returned (.int .i64 (pathO s t)) ∧ Fr No w w' := by
  obtain ⟨r, h1⟩ : ∃ r, r = pathO s t := ⟨_, rfl⟩
  rw [← h1]
  have Hr := Lib.hid h1
  clear h1
  have hnc := name_compare s t m w hs ht hm
  cases hg1 : goodPath s with
  | true =>
    have G1 := Lib.hid hg1
    clear hg1
    cases hg2 : goodPath t with
    | true =>
      have G2 := Lib.hid hg2
      clear hg2
      have e1 : cmpP s t = (r, 0) := by rw [cmpP, Hr.out, pathO, G1.out, G2.out]; rfl
      rw [e1] at hnc
      clear e1
      go_enter Tryz.func105, Tryz.ntmps105
      go_wp2_with fail
      refine hnc.mono ?_
      rintro e w1 ⟨rfl, hf1⟩
      have Hf1 := Lib.hid hf1
      clear hf1
      go_wp2_with fail
      go_ret
      exact ⟨rfl, Hf1.out⟩
    | false =>
      have G2 := Lib.hid hg2
      clear hg2
      have e1 : cmpP s t = (0, 10) := by rw [cmpP, G1.out, G2.out]; rfl
      rw [e1] at hnc
      clear e1
      have Hr1 : Hid (r = -1) := by unfold Hid; rw [Hr.out, pathO, G1.out, G2.out]; rfl
      go_enter Tryz.func105, Tryz.ntmps105
      go_wp2_with fail
      refine hnc.mono ?_
      rintro e w1 ⟨rfl, hf1⟩
      have hm1 := hf1.cell hm id
      have Hf1 := Lib.hid hf1
      clear hf1 hm
      go_wp2_with fail
      refine (n_split s m _ hs hm1).mono ?_
      rintro e w2 ⟨hr2, hf2⟩
      have hm2 := hf2.cell hm1 id
      have Hf2 := Lib.hid (Hf1.out.step hf2 (fun _ _ h => h))
      clear hf2 hm1
      rcases hr2 with ⟨hg, rfl⟩ | ⟨hg, ad1, rfl, _, _⟩
      · rw [G1.out] at hg; cases hg
      · clear hg
        go_wp2_with fail
        refine (n_split t m _ ht hm2).mono ?_
        rintro e w3 ⟨hr3, hf3⟩
        have Hf3 := Lib.hid (Hf2.out.step hf3 (fun _ _ h => h))
        clear hf3 hm2
        rcases hr3 with ⟨hg, rfl⟩ | ⟨hg, ad2, rfl, _, _⟩
        · clear hg
          go_wp2_with fail
          go_ret
          exact ⟨by rw [Hr1.out]; rfl, Hf3.out⟩
        · rw [G2.out] at hg; cases hg
  | false =>
    have G1 := Lib.hid hg1
    clear hg1
    have e1 : cmpP s t = (0, 10) := by rw [cmpP, G1.out]; rfl
    rw [e1] at hnc
    clear e1
    go_enter Tryz.func105, Tryz.ntmps105
    go_wp2_with fail
    refine hnc.mono ?_
    rintro e w1 ⟨rfl, hf1⟩
    have hm1 := hf1.cell hm id
    have Hf1 := Lib.hid hf1
    clear hf1 hm
    go_wp2_with fail
    refine (n_split s m _ hs hm1).mono ?_
    rintro e w2 ⟨hr2, hf2⟩
    have hm2 := hf2.cell hm1 id
    have Hf2 := Lib.hid (Hf1.out.step hf2 (fun _ _ h => h))
    clear hf2 hm1
    rcases hr2 with ⟨hg, rfl⟩ | ⟨hg, ad1, rfl, _, _⟩
    · clear hg
      go_wp2_with fail
      refine (n_split t m _ ht hm2).mono ?_
      rintro e w3 ⟨hr3, hf3⟩
      have Hf3 := Lib.hid (Hf2.out.step hf3 (fun _ _ h => h))
      clear hf3 hm2
      rcases hr3 with ⟨hg, rfl⟩ | ⟨hg, ad2, rfl, _, _⟩
      · have Hr1 : Hid (r = Lib.compareBytes s.data.toList t.data.toList) := by unfold Hid; rw [Hr.out, pathO, G1.out, hg]; rfl
        clear hg
        go_wp2_with fail
        refine (cmp_str s t _).mono ?_
        rintro e w4 ⟨rfl, rfl⟩
        rw [← Hr1.out]
        go_wp2_with fail
        go_ret
        exact ⟨rfl, Hf3.out⟩
      · have Hr1 : Hid (r = 1) := by unfold Hid; rw [Hr.out, pathO, G1.out, hg]; rfl
        clear hg
        go_wp2_with fail
        go_ret
        exact ⟨by rw [Hr1.out]; rfl, Hf3.out⟩
    · rw [G1.out] at hg; cases hg
end Go.Proofs.YtmieegcgeolckaaGreatDoor
namespace Go.Proofs.YtmieegcgeolckaaGreatDoor
open Go.RowKit Go.Maps
set_option linter.unusedVariables false
/-- A member of round r at path p comes ahead of one of round r' at path p'. -/
def aheadB (p : ByteArray) (r : Int) (p' : ByteArray) (r' : Int) : Bool := decide (orI (cmpI r r') (pathO p p') < 0)
set_option maxRecDepth 100000 in
set_option maxHeartbeats 2000000 in
theorem m_before (p i p' i' : ByteArray) (r s t e r' s' t' e' : Int) (v v' : Value) (m : Int) (w : World) (hs : p.size ≤ 1000000) (ht : p'.size ≤ 1000000) (hm : w.cell? ⟨0, 0, none⟩ = some (.int .i64 m)) :
    Calls Tryz.prog 73 #[.agg #[.string p, .string i, .int .i64 r, .int .i64 s, .int .i64 t, .int .i64 e, v], .agg #[.string p', .string i', .int .i64 r', .int .i64 s', .int .i64 t', .int .i64 e', v']] w fun en w' => en = .returned (.bool (aheadB p r p' r')) ∧ Fr No w w' := by
  have h0 : Fr No w ((w.alloc (.cells #[.string p, .string i, .int .i64 r, .int .i64 s, .int .i64 t, .int .i64 e, v] 31)).alloc (.cells #[.string p', .string i', .int .i64 r', .int .i64 s', .int .i64 t', .int .i64 e', v'] 31)) := ((Fr.refl _ _).alloc _).alloc _
  have q1 := block_alloc1 w (.cells #[.string p, .string i, .int .i64 r, .int .i64 s, .int .i64 t, .int .i64 e, v] 31) (.cells #[.string p', .string i', .int .i64 r', .int .i64 s', .int .i64 t', .int .i64 e', v'] 31)
  have q2 := block_alloc2 w (.cells #[.string p, .string i, .int .i64 r, .int .i64 s, .int .i64 t, .int .i64 e, v] 31) (.cells #[.string p', .string i', .int .i64 r', .int .i64 s', .int .i64 t', .int .i64 e', v'] 31)
  obtain ⟨W0, hW0⟩ : ∃ W0, W0 = (w.alloc (.cells #[.string p, .string i, .int .i64 r, .int .i64 s, .int .i64 t, .int .i64 e, v] 31)).alloc (.cells #[.string p', .string i', .int .i64 r', .int .i64 s', .int .i64 t', .int .i64 e', v'] 31) := ⟨_, rfl⟩
  rw [← hW0] at h0 q1 q2
  have hm0 := h0.cell hm id
  have H0 := Lib.hid h0
  obtain ⟨rb, hrb⟩ : ∃ rb, rb = aheadB p r p' r' := ⟨_, rfl⟩
  rw [← hrb]
  have Hrb := Lib.hid hrb
  clear h0 hm hrb
  go_enter Tryz.func73, Tryz.ntmps73
  go_upto_region 1 with (fail)
  rw [← hW0]
  clear hW0
  refine region_sig No [(0, false), (1, false), (2, false), (3, false), (5, false), (6, false), (7, false), (8, false), (4, true), (9, true), (10, true), (11, true), (12, false), (13, false)] (by kernel_rfl) (by kernel_rfl) (fun w0 hf0 => ?_)
  have g0 : ∀ g : Gr No w0, g.W.cell? ⟨w.heap.size, 0, none⟩ = some (.string p) := fun g => g.fr.cell (hf0.cell (cell_of_block q1 0) id) id
  have g2 : ∀ g : Gr No w0, g.W.cell? ⟨w.heap.size, 2, none⟩ = some (.int .i64 r) := fun g => g.fr.cell (hf0.cell (cell_of_block q1 2) id) id
  have k0 : ∀ g : Gr No w0, g.W.cell? ⟨w.heap.size + 1, 0, none⟩ = some (.string p') := fun g => g.fr.cell (hf0.cell (cell_of_block q2 0) id) id
  have k2 : ∀ g : Gr No w0, g.W.cell? ⟨w.heap.size + 1, 2, none⟩ = some (.int .i64 r') := fun g => g.fr.cell (hf0.cell (cell_of_block q2 2) id) id
  have hm1 := hf0.cell hm0 id
  have Hf0 := Lib.hid (H0.out.step hf0 (fun _ _ h => h))
  clear q1 q2 hm0 hf0
  repeat (apply sig_q; exact rfl; exact rfl; exact rfl; intro K hK; go_big_quiet_op; go_big_quiet_on)
  clear g0 g2 k0 k2
  apply sig_m
  exact rfl
  go_wp2_with fail
  refine (cmp_int r r' _).mono ?_
  rintro en w1 ⟨rfl, rfl⟩
  generalize hc1 : cmpI r r' = c1
  go_wp2_with fail
  refine OnlyN.mk ⟨Fr.refl _ _, ?_⟩
  apply sig_m
  exact rfl
  go_wp2_with fail
  refine (path_order p p' m _ hs ht hm1).mono ?_
  rintro en w2 ⟨rfl, hf2⟩
  generalize hc2 : pathO p p' = c2
  have Hf2 := Lib.hid (Hf0.out.step hf2 (fun _ _ h => h))
  have Hc : Hid (rb = decide (orI c1 c2 < 0)) := by unfold Hid; rw [Hrb.out, aheadB, hc1, hc2]
  clear hc1 hc2 hm1
  go_wp2_with fail
  refine OnlyN.mk ⟨hf2, ?_⟩
  clear hf2
  apply sig_m
  exact rfl
  go_wp2_with fail
  have hx : Fr No w2 (w2.alloc (.cells #[.int .i64 c1, .int .i64 c2] 3)) := (Fr.refl _ _).alloc _
  have qx := block_alloc w2 (.cells #[.int .i64 c1, .int .i64 c2] 3)
  refine OnlyN.mk ⟨hx, ?_⟩
  have Hf3 := Lib.hid (Hf2.out.step hx (fun _ _ h => h))
  clear hx
  apply sig_m
  exact rfl
  go_wp2_with fail
  refine (or_int _ c1 c2 _ (cell_of_block qx 0) (cell_of_block qx 1)).mono ?_
  rintro en w3 ⟨rfl, rfl⟩
  generalize orI c1 c2 = o at *
  go_wp2_with fail
  refine OnlyN.mk ⟨Fr.refl _ _, ?_⟩
  repeat (apply sig_q; exact rfl; exact rfl; exact rfl; intro K hK; go_big_quiet_op; go_big_quiet_on)
  refine sig_end ?_
  go_wp2_with fail
  go_ret
  exact ⟨by rw [Hc.out]; rfl, Hf3.out⟩
end Go.Proofs.YtmieegcgeolckaaGreatDoor
namespace Go.Proofs.YtmieegcgeolckaaGreatDoor
open Go.RowKit Go.Maps
set_option linter.unusedVariables false
set_option maxRecDepth 100000 in
set_option maxHeartbeats 1000000 in
theorem l_ahead (p i p' i' : ByteArray) (r s t e r' s' t' e' : Int) (v v' : Value) (m : Int) (w : World) (hs : p.size ≤ 1000000) (ht : p'.size ≤ 1000000) (hm : w.cell? ⟨0, 0, none⟩ = some (.int .i64 m)) :
    Calls Tryz.prog 50 #[.agg #[.string p, .string i, .int .i64 r, .int .i64 s, .int .i64 t, .int .i64 e, v], .agg #[.string p', .string i', .int .i64 r', .int .i64 s', .int .i64 t', .int .i64 e', v']] w fun en w' => en = .returned (.bool (aheadB p r p' r')) ∧ Fr No w w' := by
  have h0 : Fr No w ((w.alloc (.cells #[.string p, .string i, .int .i64 r, .int .i64 s, .int .i64 t, .int .i64 e, v] 83)).alloc (.cells #[.string p', .string i', .int .i64 r', .int .i64 s', .int .i64 t', .int .i64 e', v'] 31)) := ((Fr.refl _ _).alloc _).alloc _
  have hm0 := h0.cell hm id
  have hb := m_before p i p' i' r s t e r' s' t' e' v v' m _ hs ht hm0
  have H0 := Lib.hid h0
  clear h0
  go_enter Tryz.func50, Tryz.ntmps50
  go_wp2_with fail
  refine hb.mono ?_
  rintro en w1 ⟨rfl, hf1⟩
  have Hf := Lib.hid (H0.out.step hf1 (fun _ _ h => h))
  clear hf1
  go_wp2_with fail
  go_ret
  exact ⟨rfl, Hf.out⟩
end Go.Proofs.YtmieegcgeolckaaGreatDoor
