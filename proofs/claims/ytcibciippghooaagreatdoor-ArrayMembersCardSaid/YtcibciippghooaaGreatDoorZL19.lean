/- cmp.Compare, cmp.Or. cmp.Compare of strings. slices.Compare of strings. name.Compare. gather.ComparePaths. gather.Before. ahead. Maps with string keys that the call made, with values of any type; their keys, sorted. -/
import Derived.Test.YtcibciippghooaaGreatDoorZL5
import Derived.Test.YtcibciippghooaaGreatDoorZL6
import Derived.Test.YtcibciippghooaaGreatDoorZL4
import Derived.Test.YtcibciippghooaaGreatDoorShelf
import Derived.Maps.OwnSet
import Derived.Maps.StringElems
import Derived.OwnWalkIn
import Derived.Shelf.AbstractIn
namespace Go.Proofs.YtcibciippghooaaGreatDoor
open Go.RowKit Go.Maps
set_option linter.unusedVariables false

/-- The order of two ints. -/
def cmpI (x y : Int) : Int := if x < y then -1 else if y < x then 1 else 0
set_option maxHeartbeats 1000000 in
theorem nan_int (x : Int) (w : World) : Calls Tryz.prog 114 #[.int .i64 x] w fun e w' => e = .returned (.bool false) ∧ w = w' := by
  go_enter Tryz.func114, Tryz.ntmps114
  go_wp2_with fail
  go_ret
  simp
set_option maxHeartbeats 1000000 in
theorem nan_str (x : ByteArray) (w : World) : Calls Tryz.prog 150 #[.string x] w fun e w' => e = .returned (.bool false) ∧ w = w' := by
  have hb : (!x.toList == x.toList) = false := by simp
  go_enter Tryz.func150, Tryz.ntmps150
  go_wp2_with fail
  go_ret
  simp
set_option maxHeartbeats 1000000 in
theorem cmp_int (x y : Int) (w : World) : Calls Tryz.prog 84 #[.int .i64 x, .int .i64 y] w fun e w' => e = .returned (.int .i64 (cmpI x y)) ∧ w = w' := by
  obtain ⟨r, hr⟩ : ∃ r, r = cmpI x y := ⟨_, rfl⟩
  rw [← hr]
  have Hr := Lib.hid hr
  clear hr
  go_enter Tryz.func84, Tryz.ntmps84
  go_wp2_with fail
  refine (nan_int x _).mono ?_
  rintro e w1 ⟨rfl, rfl⟩
  go_wp2_with fail
  refine (nan_int y _).mono ?_
  rintro e w1 ⟨rfl, rfl⟩
  by_cases h1 : x < y
  · have H1 := Lib.hid h1
    go_wp2_with fail
    go_ret
    exact ⟨by rw [Hr.out, cmpI, if_pos H1.out]; rfl, rfl⟩
  · by_cases h2 : y < x
    · have H1 := Lib.hid h1
      have H2 := Lib.hid h2
      go_wp2_with fail
      go_ret
      exact ⟨by rw [Hr.out, cmpI, if_neg (by have := H1.out; omega), if_pos H2.out]; rfl, rfl⟩
    · have H1 := Lib.hid h1
      have H2 := Lib.hid h2
      go_wp2_with fail
      go_ret
      exact ⟨by rw [Hr.out, cmpI, if_neg (by have := H1.out; omega), if_neg (by have := H2.out; omega)]; rfl, rfl⟩
/-- The first that is not zero. -/
def orI (x y : Int) : Int := if x = 0 then y else x
set_option maxRecDepth 100000 in
set_option maxHeartbeats 2000000 in
theorem or_int (b : Nat) (x y : Int) (w : World) (h0 : w.cell? ⟨b, 0, none⟩ = some (.int .i64 x)) (h1 : w.cell? ⟨b, 1, none⟩ = some (.int .i64 y)) : Calls Tryz.prog 83 #[.slice (some ⟨b, 0, none⟩) 2 2] w fun e w' => e = .returned (.int .i64 (orI x y)) ∧ w = w' := by
  obtain ⟨r, hr⟩ : ∃ r, r = orI x y := ⟨_, rfl⟩
  rw [← hr]
  have Hr := Lib.hid hr
  clear hr
  go_enter Tryz.func83, Tryz.ntmps83
  go_wp2_with fail
  go_loop [8] (fun i => i = .int .i64 0 ∨ (i = .int .i64 1 ∧ Hid (x = 0)) ∨ (i = .int .i64 2 ∧ Hid (x = 0 ∧ y = 0))) (fun i => 2 - (intOf i).toNat)
  case atStart => exact .inl rfl
  case round =>
    rcases hrel with rfl | ⟨rfl, hx⟩ | ⟨rfl, hxy⟩
    · by_cases hx : x = 0
      · have Hx := Lib.hid hx
        go_wp2_with fail
        go_round
        case rel => exact .inr (.inl ⟨rfl, Hx⟩)
        case measure => decide
      · have Hx := Lib.hid hx
        go_wp2_with fail
        go_ret
        exact ⟨by rw [Hr.out, orI, if_neg Hx.out]; rfl, rfl⟩
    · by_cases hy : y = 0
      · have Hy := Lib.hid hy
        go_wp2_with fail
        go_round
        case rel => exact .inr (.inr ⟨rfl, hx.out, Hy.out⟩)
        case measure => decide
      · have Hy := Lib.hid hy
        go_wp2_with fail
        go_ret
        exact ⟨by rw [Hr.out, orI, if_pos hx.out]; rfl, rfl⟩
    · go_wp2_with fail
      go_ret
      exact ⟨by rw [Hr.out, orI, if_pos hxy.out.1, hxy.out.2]; rfl, rfl⟩
end Go.Proofs.YtcibciippghooaaGreatDoor
namespace Go.Proofs.YtcibciippghooaaGreatDoor
open Go.RowKit Go.Maps
set_option linter.unusedVariables false
theorem compareBytes_self : ∀ a : List UInt8, Lib.compareBytes a a = 0
  | [] => rfl
  | a :: s => by unfold Lib.compareBytes; rw [if_neg (UInt8.lt_irrefl _), if_neg (UInt8.lt_irrefl _)]; exact compareBytes_self s
theorem compare_less : ∀ a b : List UInt8, Lib.compareBytes a b = if Op.bytesLess a b = true then -1 else if a = b then 0 else 1
  | [], [] => by simp [Lib.compareBytes, Op.bytesLess]
  | [], _ :: _ => by simp [Lib.compareBytes, Op.bytesLess]
  | _ :: _, [] => by simp [Lib.compareBytes, Op.bytesLess]
  | a :: s, b :: t => by
    have ih := compare_less s t
    by_cases h1 : a < b
    · simp [Lib.compareBytes, Op.bytesLess, h1]
    · by_cases h2 : b < a
      · have h3 : a ≠ b := fun e => by subst e; exact absurd h2 (UInt8.lt_irrefl _)
        simp [Lib.compareBytes, Op.bytesLess, h1, h2, h3]
      · have h3 : a = b := UInt8.le_antisymm (UInt8.not_lt.1 h2) (UInt8.not_lt.1 h1)
        subst h3
        simp only [Lib.compareBytes, Op.bytesLess, if_neg h1, ih]
        simp [h1]
set_option maxHeartbeats 1000000 in
theorem cmp_str (x y : ByteArray) (w : World) : Calls Tryz.prog 117 #[.string x, .string y] w fun e w' => e = .returned (.int .i64 (Lib.compareBytes x.data.toList y.data.toList)) ∧ w = w' := by
  obtain ⟨r, hr⟩ : ∃ r, r = Lib.compareBytes x.data.toList y.data.toList := ⟨_, rfl⟩
  rw [← hr]
  have Hr := Lib.hid hr
  clear hr
  go_enter Tryz.func117, Tryz.ntmps117
  go_wp2_with fail
  refine (nan_str x _).mono ?_
  rintro e w1 ⟨rfl, rfl⟩
  go_wp2_with fail
  refine (nan_str y _).mono ?_
  rintro e w1 ⟨rfl, rfl⟩
  have hc := compare_less x.toList y.toList
  rw [ByteArray.toList_eq, ByteArray.toList_eq, ← Hr.out, ← ByteArray.toList_eq, ← ByteArray.toList_eq] at hc
  have Hc := Lib.hid hc
  clear hc
  cases hb : Op.bytesLess x.toList y.toList with
  | true =>
    have Hb := Lib.hid hb
    go_wp2_with fail
    go_ret
    exact ⟨by rw [Hc.out, if_pos Hb.out]; rfl, rfl⟩
  | false =>
    have Hb := Lib.hid hb
    cases he : (x.toList == y.toList) with
    | true =>
      have He := Lib.hid he
      go_wp2_with fail
      go_ret
      exact ⟨by rw [Hc.out, if_neg (by rw [Hb.out]; simp), if_pos (eq_of_beq He.out)]; rfl, rfl⟩
    | false =>
      have He := Lib.hid he
      go_wp2_with fail
      go_ret
      exact ⟨by rw [Hc.out, if_neg (by rw [Hb.out]; simp), if_neg (fun e => by have h := He.out; rw [e] at h; simp at h)]; rfl, rfl⟩
end Go.Proofs.YtcibciippghooaaGreatDoor
namespace Go.Proofs.YtcibciippghooaaGreatDoor
open Go.RowKit Go.Maps
set_option linter.unusedVariables false
set_option maxRecDepth 100000 in
set_option maxHeartbeats 2000000 in
theorem strs_compare (a : Option Addr) (cap : Nat) (l : List ByteArray) (a' : Option Addr) (cap' : Nat) (l' : List ByteArray) (w : World) (hl : Strs w a cap l) (hl' : Strs w a' cap' l') :
    Calls Tryz.prog 147 #[.slice a l.length cap, .slice a' l'.length cap'] w fun e w' => e = .returned (.int .i64 (cmpN l l')) ∧ w = w' := by
  have hm := hl.lenmax
  have hm' := hl'.lenmax
  obtain ⟨r, hr⟩ : ∃ r, r = cmpN l l' := ⟨_, rfl⟩
  rw [← hr]
  have Hr := Lib.hid hr
  clear hr
  go_enter Tryz.func147, Tryz.ntmps147
  go_wp2_with fail
  go_loop [11] (fun i => ∃ k : Nat, k ≤ l.length ∧ k ≤ l'.length ∧ i = .int .i64 (k : Int) ∧ Hid (l.take k = l'.take k)) (fun i => l.length - (intOf i).toNat)
  case atStart => exact ⟨0, by omega, by omega, rfl, by unfold Hid; simp⟩
  case round =>
    obtain ⟨k, hk, hk', rfl, Ht⟩ := hrel
    have Hd := Lib.hid (cmpN_drop Ht.out)
    by_cases hlt : k < l.length
    · have hlt1 : (k : Int) < l.length := by omega
      obtain ⟨b, off, x, rfl, hx, c0⟩ := hl.at hlt
      have hdx : l.drop k = x :: l.drop (k + 1) := by
        obtain ⟨h1, h2⟩ := List.getElem?_eq_some_iff.1 hx
        rw [← h2]; exact List.drop_eq_getElem_cons h1
      by_cases hlt' : k < l'.length
      · have hlt2 : ¬ (l'.length : Int) ≤ (k : Int) := by omega
        have hlt3 : (k : Int) < l'.length := by omega
        obtain ⟨b', off', x', rfl, hx', c1⟩ := hl'.at hlt'
        have hdx' : l'.drop k = x' :: l'.drop (k + 1) := by
          obtain ⟨h1, h2⟩ := List.getElem?_eq_some_iff.1 hx'
          rw [← h2]; exact List.drop_eq_getElem_cons h1
        have Hdx := Lib.hid hdx
        have Hdx' := Lib.hid hdx'
        have Htk : Hid (x = x' → l.take (k + 1) = l'.take (k + 1)) := fun e => by rw [List.take_add_one, List.take_add_one, hx, hx', Ht.out, e]
        clear hdx hdx' hx hx'
        go_wp2_with fail
        refine (cmp_str x x' _).mono ?_
        rintro e w1 ⟨rfl, rfl⟩
        by_cases hz : Lib.compareBytes x.data.toList x'.data.toList = 0
        · have hxx : x = x' := by
            have h1 := compareBytes_zero _ _ hz
            cases x; cases x'
            simp only at h1
            congr 1
            exact Array.toList_inj.1 h1
          have Hn := Lib.hid (Htk.out hxx)
          rw [hz]
          clear hz
          go_wp2_with fail
          go_round
          case rel => exact ⟨k + 1, by omega, by omega, by go_num, Hn⟩
          case measure => simp [intOf]; omega
        · have Hres : Hid (r = Lib.compareBytes x.data.toList x'.data.toList) := by
            unfold Hid
            rw [Hr.out, Hd.out, Hdx.out, Hdx'.out, cmpN, if_neg (fun e => hz (by rw [e]; exact compareBytes_self _))]
          generalize Lib.compareBytes x.data.toList x'.data.toList = cb at *
          go_wp2_with fail
          go_ret
          exact ⟨by rw [Hres.out]; rfl, rfl⟩
      · have hlt2 : (l'.length : Int) ≤ (k : Int) := by omega
        have Hres : Hid (r = 1) := by
          unfold Hid
          rw [Hr.out, Hd.out, hdx, List.drop_eq_nil_of_le (by omega : l'.length ≤ k)]
          rfl
        clear hdx hx
        go_wp2_with fail
        go_ret
        exact ⟨by rw [Hres.out]; rfl, rfl⟩
    · have hlt1 : ¬ (k : Int) < l.length := by omega
      obtain rfl : k = l.length := by omega
      by_cases hll : l.length < l'.length
      · have hll' : (l.length : Int) < l'.length := by omega
        have Hres : Hid (r = -1) := by
          unfold Hid
          rw [Hr.out, Hd.out, List.drop_length, List.drop_eq_getElem_cons hll]
          rfl
        go_wp2_with fail
        go_ret
        exact ⟨by rw [Hres.out]; rfl, rfl⟩
      · have hll' : ¬ (l.length : Int) < l'.length := by omega
        have Hres : Hid (r = 0) := by
          unfold Hid
          rw [Hr.out, Hd.out, List.drop_length, List.drop_eq_nil_of_le (by omega : l'.length ≤ l.length)]
          rfl
        go_wp2_with fail
        go_ret
        exact ⟨by rw [Hres.out]; rfl, rfl⟩
end Go.Proofs.YtcibciippghooaaGreatDoor
namespace Go.Proofs.YtcibciippghooaaGreatDoor
open Go.RowKit Go.Maps
set_option linter.unusedVariables false
/-- What name.Compare answers. -/
def cmpP (s t : ByteArray) : Int × Int := if goodPath s && goodPath t then (cmpN (sparts s) (sparts t), 0) else (0, 10)
set_option maxRecDepth 100000 in
set_option maxHeartbeats 2000000 in
theorem name_compare (s t : ByteArray) (m : Int) (w : World) (hs : s.size ≤ 1000000) (ht : t.size ≤ 1000000) (hm : w.cell? ⟨3, 0, none⟩ = some (.int .i64 m)) :
    Calls Tryz.prog 115 #[.string s, .string t] w fun e w' => e = .returned (.tuple #[.int .i64 (cmpP s t).1, .int .i64 (cmpP s t).2]) ∧ Fr No w w' := by
  obtain ⟨r1, h1⟩ : ∃ r, r = (cmpP s t).1 := ⟨_, rfl⟩
  obtain ⟨r2, h2⟩ : ∃ r, r = (cmpP s t).2 := ⟨_, rfl⟩
  rw [← h1, ← h2]
  have H1 := Lib.hid h1
  have H2 := Lib.hid h2
  clear h1 h2
  go_enter Tryz.func115, Tryz.ntmps115
  go_wp2_with fail
  refine (n_split s m _ hs hm).mono ?_
  rintro e w1 ⟨hr1, hf1⟩
  have hm1 := hf1.cell hm id
  have Hf1 := Lib.hid hf1
  clear hm hf1
  rcases hr1 with ⟨hg1, rfl⟩ | ⟨hg1, ad1, rfl, hS1, _⟩
  · have G1 := Lib.hid hg1
    clear hg1
    go_wp2_with fail
    refine (n_split t m _ ht hm1).mono ?_
    rintro e w2 ⟨hr2, hf2⟩
    have Hf2 := Lib.hid (Hf1.out.step hf2 (fun _ _ h => h))
    clear hm1 hf2
    rcases hr2 with ⟨hg2, rfl⟩ | ⟨hg2, ad2, rfl, hS2, _⟩
    · clear hg2
      go_wp2_with fail
      go_ret2
      exact ⟨by rw [H1.out, H2.out, cmpP, G1.out]; rfl, Hf2.out⟩
    · clear hg2 hS2
      go_wp2_with fail
      go_ret2
      exact ⟨by rw [H1.out, H2.out, cmpP, G1.out]; rfl, Hf2.out⟩
  · have G1 := Lib.hid hg1
    clear hg1
    go_wp2_with fail
    refine (n_split t m _ ht hm1).mono ?_
    rintro e w2 ⟨hr2, hf2⟩
    have Hf2 := Lib.hid (Hf1.out.step hf2 (fun _ _ h => h))
    have hS1' := hS1.no hf2 (fun _ => id)
    clear hm1 hf2 hS1
    rcases hr2 with ⟨hg2, rfl⟩ | ⟨hg2, ad2, rfl, hS2, _⟩
    · have G2 := Lib.hid hg2
      clear hg2 hS1'
      go_wp2_with fail
      go_ret2
      exact ⟨by rw [H1.out, H2.out, cmpP, G1.out, G2.out]; rfl, Hf2.out⟩
    · have G2 := Lib.hid hg2
      have hsc := strs_compare (some ad1) _ _ (some ad2) _ _ w2 hS1' hS2
      clear hg2 hS1' hS2
      obtain ⟨p1, e1⟩ : ∃ p, p = sparts s := ⟨_, rfl⟩
      obtain ⟨p2, e2⟩ : ∃ p, p = sparts t := ⟨_, rfl⟩
      rw [← e1, ← e2] at hsc ⊢
      have E1 := Lib.hid e1
      have E2 := Lib.hid e2
      clear e1 e2
      go_wp2_with fail
      refine hsc.mono ?_
      rintro e w3 ⟨rfl, rfl⟩
      have Hr : Hid (r1 = cmpN p1 p2 ∧ r2 = 0) := by unfold Hid; rw [H1.out, H2.out, cmpP, G1.out, G2.out, ← E1.out, ← E2.out]; exact ⟨rfl, rfl⟩
      generalize cmpN p1 p2 = cn at *
      go_wp2_with fail
      go_ret2
      exact ⟨by rw [Hr.out.1, Hr.out.2]; rfl, Hf2.out⟩
end Go.Proofs.YtcibciippghooaaGreatDoor
namespace Go.Proofs.YtcibciippghooaaGreatDoor
open Go.RowKit Go.Maps
set_option linter.unusedVariables false
/-- The order of two paths. -/
def pathO (s t : ByteArray) : Int := if goodPath s then (if goodPath t then cmpN (sparts s) (sparts t) else -1) else if goodPath t then 1 else Lib.compareBytes s.data.toList t.data.toList
set_option maxRecDepth 100000 in
set_option maxHeartbeats 2000000 in
theorem path_order (s t : ByteArray) (m : Int) (w : World) (hs : s.size ≤ 1000000) (ht : t.size ≤ 1000000) (hm : w.cell? ⟨3, 0, none⟩ = some (.int .i64 m)) :
    Calls Tryz.prog 85 #[.string s, .string t] w fun e w' => e = .returned (.int .i64 (pathO s t)) ∧ Fr No w w' := by
  obtain ⟨r, h1⟩ : ∃ r, r = pathO s t := ⟨_, rfl⟩
  rw [← h1]
  have Hr := Lib.hid h1
  clear h1
  have hnc := name_compare s t m w hs ht hm
  cases hg1 : goodPath s with
  | true =>
    have G1 := Lib.hid hg1
    clear hg1
    cases hg2 : goodPath t with
    | true =>
      have G2 := Lib.hid hg2
      clear hg2
      have e1 : cmpP s t = (r, 0) := by rw [cmpP, Hr.out, pathO, G1.out, G2.out]; rfl
      rw [e1] at hnc
      clear e1
      go_enter Tryz.func85, Tryz.ntmps85
      go_wp2_with fail
      refine hnc.mono ?_
      rintro e w1 ⟨rfl, hf1⟩
      have Hf1 := Lib.hid hf1
      clear hf1
      go_wp2_with fail
      go_ret
      exact ⟨rfl, Hf1.out⟩
    | false =>
      have G2 := Lib.hid hg2
      clear hg2
      have e1 : cmpP s t = (0, 10) := by rw [cmpP, G1.out, G2.out]; rfl
      rw [e1] at hnc
      clear e1
      have Hr1 : Hid (r = -1) := by unfold Hid; rw [Hr.out, pathO, G1.out, G2.out]; rfl
      go_enter Tryz.func85, Tryz.ntmps85
      go_wp2_with fail
      refine hnc.mono ?_
      rintro e w1 ⟨rfl, hf1⟩
      have hm1 := hf1.cell hm id
      have Hf1 := Lib.hid hf1
      clear hf1 hm
      go_wp2_with fail
      refine (n_split s m _ hs hm1).mono ?_
      rintro e w2 ⟨hr2, hf2⟩
      have hm2 := hf2.cell hm1 id
      have Hf2 := Lib.hid (Hf1.out.step hf2 (fun _ _ h => h))
      clear hf2 hm1
      rcases hr2 with ⟨hg, rfl⟩ | ⟨hg, ad1, rfl, _, _⟩
      · rw [G1.out] at hg; cases hg
      · clear hg
        go_wp2_with fail
        refine (n_split t m _ ht hm2).mono ?_
        rintro e w3 ⟨hr3, hf3⟩
        have Hf3 := Lib.hid (Hf2.out.step hf3 (fun _ _ h => h))
        clear hf3 hm2
        rcases hr3 with ⟨hg, rfl⟩ | ⟨hg, ad2, rfl, _, _⟩
        · clear hg
          go_wp2_with fail
          go_ret
          exact ⟨by rw [Hr1.out]; rfl, Hf3.out⟩
        · rw [G2.out] at hg; cases hg
  | false =>
    have G1 := Lib.hid hg1
    clear hg1
    have e1 : cmpP s t = (0, 10) := by rw [cmpP, G1.out]; rfl
    rw [e1] at hnc
    clear e1
    go_enter Tryz.func85, Tryz.ntmps85
    go_wp2_with fail
    refine hnc.mono ?_
    rintro e w1 ⟨rfl, hf1⟩
    have hm1 := hf1.cell hm id
    have Hf1 := Lib.hid hf1
    clear hf1 hm
    go_wp2_with fail
    refine (n_split s m _ hs hm1).mono ?_
    rintro e w2 ⟨hr2, hf2⟩
    have hm2 := hf2.cell hm1 id
    have Hf2 := Lib.hid (Hf1.out.step hf2 (fun _ _ h => h))
    clear hf2 hm1
    rcases hr2 with ⟨hg, rfl⟩ | ⟨hg, ad1, rfl, _, _⟩
    · clear hg
      go_wp2_with fail
      refine (n_split t m _ ht hm2).mono ?_
      rintro e w3 ⟨hr3, hf3⟩
      have Hf3 := Lib.hid (Hf2.out.step hf3 (fun _ _ h => h))
      clear hf3 hm2
      rcases hr3 with ⟨hg, rfl⟩ | ⟨hg, ad2, rfl, _, _⟩
      · have Hr1 : Hid (r = Lib.compareBytes s.data.toList t.data.toList) := by unfold Hid; rw [Hr.out, pathO, G1.out, hg]; rfl
        clear hg
        go_wp2_with fail
        refine (cmp_str s t _).mono ?_
        rintro e w4 ⟨rfl, rfl⟩
        rw [← Hr1.out]
        go_wp2_with fail
        go_ret
        exact ⟨rfl, Hf3.out⟩
      · have Hr1 : Hid (r = 1) := by unfold Hid; rw [Hr.out, pathO, G1.out, hg]; rfl
        clear hg
        go_wp2_with fail
        go_ret
        exact ⟨by rw [Hr1.out]; rfl, Hf3.out⟩
    · rw [G1.out] at hg; cases hg
end Go.Proofs.YtcibciippghooaaGreatDoor
namespace Go.Proofs.YtcibciippghooaaGreatDoor
open Go.RowKit Go.Maps
set_option linter.unusedVariables false
/-- A member of round r at path p comes ahead of one of round r' at path p'. -/
def aheadB (p : ByteArray) (r : Int) (p' : ByteArray) (r' : Int) : Bool := decide (orI (cmpI r r') (pathO p p') < 0)
set_option maxRecDepth 100000 in
set_option maxHeartbeats 2000000 in
theorem m_before (p i p' i' : ByteArray) (r s t e r' s' t' e' : Int) (v v' : Value) (m : Int) (w : World) (hs : p.size ≤ 1000000) (ht : p'.size ≤ 1000000) (hm : w.cell? ⟨3, 0, none⟩ = some (.int .i64 m)) :
    Calls Tryz.prog 61 #[.agg #[.string p, .string i, .int .i64 r, .int .i64 s, .int .i64 t, .int .i64 e, v], .agg #[.string p', .string i', .int .i64 r', .int .i64 s', .int .i64 t', .int .i64 e', v']] w fun en w' => en = .returned (.bool (aheadB p r p' r')) ∧ Fr No w w' := by
  have h0 : Fr No w ((w.alloc (.cells #[.string p, .string i, .int .i64 r, .int .i64 s, .int .i64 t, .int .i64 e, v] 31)).alloc (.cells #[.string p', .string i', .int .i64 r', .int .i64 s', .int .i64 t', .int .i64 e', v'] 31)) := ((Fr.refl _ _).alloc _).alloc _
  have q1 := block_alloc1 w (.cells #[.string p, .string i, .int .i64 r, .int .i64 s, .int .i64 t, .int .i64 e, v] 31) (.cells #[.string p', .string i', .int .i64 r', .int .i64 s', .int .i64 t', .int .i64 e', v'] 31)
  have q2 := block_alloc2 w (.cells #[.string p, .string i, .int .i64 r, .int .i64 s, .int .i64 t, .int .i64 e, v] 31) (.cells #[.string p', .string i', .int .i64 r', .int .i64 s', .int .i64 t', .int .i64 e', v'] 31)
  obtain ⟨W0, hW0⟩ : ∃ W0, W0 = (w.alloc (.cells #[.string p, .string i, .int .i64 r, .int .i64 s, .int .i64 t, .int .i64 e, v] 31)).alloc (.cells #[.string p', .string i', .int .i64 r', .int .i64 s', .int .i64 t', .int .i64 e', v'] 31) := ⟨_, rfl⟩
  rw [← hW0] at h0 q1 q2
  have hm0 := h0.cell hm id
  have H0 := Lib.hid h0
  obtain ⟨rb, hrb⟩ : ∃ rb, rb = aheadB p r p' r' := ⟨_, rfl⟩
  rw [← hrb]
  have Hrb := Lib.hid hrb
  clear h0 hm hrb
  go_enter Tryz.func61, Tryz.ntmps61
  go_upto_region 1 with (fail)
  rw [← hW0]
  clear hW0
  refine region_sig No [(0, false), (1, false), (2, false), (3, false), (5, false), (6, false), (7, false), (8, false), (4, true), (9, true), (10, true), (11, true), (12, false), (13, false)] (by kernel_rfl) (by kernel_rfl) (fun w0 hf0 => ?_)
  have g0 : ∀ g : Gr No w0, g.W.cell? ⟨w.heap.size, 0, none⟩ = some (.string p) := fun g => g.fr.cell (hf0.cell (cell_of_block q1 0) id) id
  have g2 : ∀ g : Gr No w0, g.W.cell? ⟨w.heap.size, 2, none⟩ = some (.int .i64 r) := fun g => g.fr.cell (hf0.cell (cell_of_block q1 2) id) id
  have k0 : ∀ g : Gr No w0, g.W.cell? ⟨w.heap.size + 1, 0, none⟩ = some (.string p') := fun g => g.fr.cell (hf0.cell (cell_of_block q2 0) id) id
  have k2 : ∀ g : Gr No w0, g.W.cell? ⟨w.heap.size + 1, 2, none⟩ = some (.int .i64 r') := fun g => g.fr.cell (hf0.cell (cell_of_block q2 2) id) id
  have hm1 := hf0.cell hm0 id
  have Hf0 := Lib.hid (H0.out.step hf0 (fun _ _ h => h))
  clear q1 q2 hm0 hf0
  repeat (apply sig_q; exact rfl; exact rfl; exact rfl; intro K hK; go_big_quiet_op; go_big_quiet_on)
  clear g0 g2 k0 k2
  apply sig_m
  exact rfl
  go_wp2_with fail
  refine (cmp_int r r' _).mono ?_
  rintro en w1 ⟨rfl, rfl⟩
  generalize hc1 : cmpI r r' = c1
  go_wp2_with fail
  refine OnlyN.mk ⟨Fr.refl _ _, ?_⟩
  apply sig_m
  exact rfl
  go_wp2_with fail
  refine (path_order p p' m _ hs ht hm1).mono ?_
  rintro en w2 ⟨rfl, hf2⟩
  generalize hc2 : pathO p p' = c2
  have Hf2 := Lib.hid (Hf0.out.step hf2 (fun _ _ h => h))
  have Hc : Hid (rb = decide (orI c1 c2 < 0)) := by unfold Hid; rw [Hrb.out, aheadB, hc1, hc2]
  clear hc1 hc2 hm1
  go_wp2_with fail
  refine OnlyN.mk ⟨hf2, ?_⟩
  clear hf2
  apply sig_m
  exact rfl
  go_wp2_with fail
  have hx : Fr No w2 (w2.alloc (.cells #[.int .i64 c1, .int .i64 c2] 3)) := (Fr.refl _ _).alloc _
  have qx := block_alloc w2 (.cells #[.int .i64 c1, .int .i64 c2] 3)
  refine OnlyN.mk ⟨hx, ?_⟩
  have Hf3 := Lib.hid (Hf2.out.step hx (fun _ _ h => h))
  clear hx
  apply sig_m
  exact rfl
  go_wp2_with fail
  refine (or_int _ c1 c2 _ (cell_of_block qx 0) (cell_of_block qx 1)).mono ?_
  rintro en w3 ⟨rfl, rfl⟩
  generalize orI c1 c2 = o at *
  go_wp2_with fail
  refine OnlyN.mk ⟨Fr.refl _ _, ?_⟩
  repeat (apply sig_q; exact rfl; exact rfl; exact rfl; intro K hK; go_big_quiet_op; go_big_quiet_on)
  refine sig_end ?_
  go_wp2_with fail
  go_ret
  exact ⟨by rw [Hc.out]; rfl, Hf3.out⟩
end Go.Proofs.YtcibciippghooaaGreatDoor
namespace Go.Proofs.YtcibciippghooaaGreatDoor
open Go.RowKit Go.Maps
set_option linter.unusedVariables false
set_option maxRecDepth 100000 in
set_option maxHeartbeats 1000000 in
theorem l_ahead (p i p' i' : ByteArray) (r s t e r' s' t' e' : Int) (v v' : Value) (m : Int) (w : World) (hs : p.size ≤ 1000000) (ht : p'.size ≤ 1000000) (hm : w.cell? ⟨3, 0, none⟩ = some (.int .i64 m)) :
    Calls Tryz.prog 38 #[.agg #[.string p, .string i, .int .i64 r, .int .i64 s, .int .i64 t, .int .i64 e, v], .agg #[.string p', .string i', .int .i64 r', .int .i64 s', .int .i64 t', .int .i64 e', v']] w fun en w' => en = .returned (.bool (aheadB p r p' r')) ∧ Fr No w w' := by
  have h0 : Fr No w ((w.alloc (.cells #[.string p, .string i, .int .i64 r, .int .i64 s, .int .i64 t, .int .i64 e, v] 77)).alloc (.cells #[.string p', .string i', .int .i64 r', .int .i64 s', .int .i64 t', .int .i64 e', v'] 31)) := ((Fr.refl _ _).alloc _).alloc _
  have hm0 := h0.cell hm id
  have hb := m_before p i p' i' r s t e r' s' t' e' v v' m _ hs ht hm0
  have H0 := Lib.hid h0
  clear h0
  go_enter Tryz.func38, Tryz.ntmps38
  go_wp2_with fail
  refine hb.mono ?_
  rintro en w1 ⟨rfl, hf1⟩
  have Hf := Lib.hid (H0.out.step hf1 (fun _ _ h => h))
  clear hf1
  go_wp2_with fail
  go_ret
  exact ⟨rfl, Hf.out⟩
end Go.Proofs.YtcibciippghooaaGreatDoor
namespace Go.Proofs.YtcibciippghooaaGreatDoor
open Go.RowKit Go.Maps Go.Sort Go.Shelf
set_option linter.unusedVariables false

def kb (x : ByteArray) : List UInt8 := x.data.toList
def bk (x : List UInt8) : ByteArray := ⟨x.toArray⟩
theorem bk_kb (x : ByteArray) : bk (kb x) = x := by unfold bk kb; simp
theorem kb_bk (x : List UInt8) : kb (bk x) = x := by unfold bk kb; simp
theorem kb_inj {x y : ByteArray} (h : kb x = kb y) : x = y := by rw [← bk_kb x, h, bk_kb]
/-- How a value reads: as itself. -/
def heldV (v : Value) : Option (DataW Value × List MemPlace) := some (.held v, [])
/-- Block mb is a map with string keys: its look-up is g. -/
def VMap (w : World) (mb : Nat) (g : List UInt8 → Option Value) (N : Nat) : Prop :=
  ∃ (D : DataW Value) (n : Nat), n ≤ N ∧ w.ownsMap Tryz.prog 9 heldV mb n D ∧ (∀ x, has D (.string x) = (g x).isSome) ∧ ∀ x v, g x = some v → ∀ z, D.atKey (.string x) z = .held v
theorem VMap.lt {w : World} {mb : Nat} {g : List UInt8 → Option Value} {N : Nat} (h : VMap w mb g N) : mb < w.heap.size := by obtain ⟨D, n, _, ho, _⟩ := h; exact ho.lt
theorem VMap.fr {S : Nat → Prop} {w w' : World} {mb : Nat} {g : List UInt8 → Option Value} {N : Nat} (h : VMap w mb g N) (hf : Fr S w w') (hS : ¬ S mb) : VMap w' mb g N := by
  obtain ⟨D, n, hn, ho, r⟩ := h; exact ⟨D, n, hn, hf.ownsMap ho hS, r⟩
theorem VMap.made (w : World) : VMap (w.alloc (.map #[] 0)) w.heap.size (fun _ => none) 0 := ⟨.map [], 0, Nat.le_refl _, World.ownsMap_made _ _ _ _, fun _ => rfl, fun _ _ h => by cases h⟩
theorem VMap.mono {w : World} {mb : Nat} {g : List UInt8 → Option Value} {N M : Nat} (h : VMap w mb g N) (hN : N ≤ M) : VMap w mb g M := by
  obtain ⟨D, n, hn, r⟩ := h; exact ⟨D, n, by omega, r⟩
theorem lawS : Keyed Tryz.prog 9 := string_keyed Tryz.underlying9
theorem keyS {s : ByteArray} (hs : s.size ≤ maxLen) : keyOf Tryz.prog 9 (.string s) = some (.string (kb s)) := Go.WideMaps.keyOf_string_mk Tryz.underlying9 hs
theorem isKeyS (x : List UInt8) : WideAt.IsKeyLit (.string x) := trivial

theorem wp_vmap_ok {w : World} {ops : Array Oper} {rest : List Oper} {o : Oper} {a : Act} {Q : Exit → Act → World → Prop} (hg : o.guard = none) (m x : Operand) (t e : TypeId) (z : Value) (hz : (zeroValue e).run Tryz.prog w = .ok z w) (hop : o.op = Op.lookup t m x true) (ht : Tryz.prog.underlying t = some (.map 9 e))
    (mb : Nat) (g : List UInt8 → Option Value) (N : Nat) (k : ByteArray) (hk : k.size ≤ maxLen) (hm : a.eval m = .map (some mb)) (hown : VMap w mb g N) (hx : a.eval x = .string k)
    (v : Value) (hv : (g (kb k)).getD z = v) (b : Bool) (hb : (g (kb k)).isSome = b)
    (hK : wpList Tryz.prog ops Q rest (a.put o.dst (.tuple #[v, .bool b])) w) : wpList Tryz.prog ops Q (o :: rest) a w := by
  obtain ⟨D, n, _, ho, h1, h2⟩ := hown
  refine wpList_lookup_own_ok w hg m x t hop 9 e lawS ht heldV hz (.held z) [] rfl mb n D hm ho _ _ hx (keyS hk) (fun v1 ps hv1 => ?_)
  simp only [heldV, Option.some.injEq, Prod.mk.injEq] at hv1
  have e1 := hv1.1
  have hv' := hv
  have e : v1 = (g (kb k)).getD z := by
    rcases hgk : g (kb k) with _ | v'
    · have hh := h1 (kb k)
      rw [hgk] at hh
      rw [atKey_of_not_has hh] at e1
      simpa using e1
    · rw [h2 _ _ hgk] at e1
      simpa using e1
  rw [h1, e, hv', hb]; exact hK
theorem wp_vmap {w : World} {ops : Array Oper} {rest : List Oper} {o : Oper} {a : Act} {Q : Exit → Act → World → Prop} (hg : o.guard = none) (m x : Operand) (t e : TypeId) (z : Value) (hz : (zeroValue e).run Tryz.prog w = .ok z w) (hop : o.op = Op.lookup t m x false) (ht : Tryz.prog.underlying t = some (.map 9 e))
    (mb : Nat) (g : List UInt8 → Option Value) (N : Nat) (k : ByteArray) (hk : k.size ≤ maxLen) (hm : a.eval m = .map (some mb)) (hown : VMap w mb g N) (hx : a.eval x = .string k)
    (u : Value) (hu : (g (kb k)).getD z = u)
    (hK : wpList Tryz.prog ops Q rest (a.put o.dst u) w) : wpList Tryz.prog ops Q (o :: rest) a w := by
  obtain ⟨D, n, _, ho, h1, h2⟩ := hown
  refine wpList_plain hg fun K' hK' => ?_
  obtain ⟨v, ps, hrun, hv⟩ := ho.lookup lawS ht hz (zd := .held z) (zp := []) rfl (keyS hk)
  simp only [heldV, Option.some.injEq, Prod.mk.injEq] at hv
  have e1 := hv.1
  have e : v = (g (kb k)).getD z := by
    rcases hgk : g (kb k) with _ | v'
    · have hh := h1 (kb k)
      rw [hgk] at hh
      rw [atKey_of_not_has hh] at e1
      simpa using e1
    · rw [h2 _ _ hgk] at e1
      simpa using e1
  unfold Oper.wp
  simp [execOp, hop, hm, hx, hrun, Result.andThen]
  rw [e, hu]
  exact hK' _ _ hK

def updS (g : List UInt8 → Option Value) (x : List UInt8) (v : Value) : List UInt8 → Option Value := fun y => if y = x then some v else g y
theorem VMap.put {w w1 : World} {mb : Nat} {D : DataW Value} {n N : Nat} {g : List UInt8 → Option Value} (hn : n ≤ N) (ho : w.ownsMap Tryz.prog 9 heldV mb n D) (h1 : ∀ x, has D (.string x) = (g x).isSome) (h2 : ∀ x v, g x = some v → ∀ z, D.atKey (.string x) z = .held v)
    (x : List UInt8) (v : Value) (ho1 : w1.ownsMap Tryz.prog 9 heldV mb (n + 1) (D.put (.string x) (.held v))) : VMap w1 mb (updS g x v) (N + 1) := by
  refine ⟨_, n + 1, by omega, ho1, fun y => ?_, fun y u hu z => ?_⟩
  · unfold updS
    split
    · rename_i e; subst e; rw [has_put_same ho.isMap (isKeyS _) _]; rfl
    · rename_i e; rw [has_put_other (by intro e'; exact e (by simpa using e'))]; exact h1 y
  · unfold updS at hu
    split at hu
    · rename_i e; subst e; cases hu; rw [atKey_put_same ho.isMap (isKeyS _) _ _]
    · rename_i e; rw [atKey_put_other (by intro e'; exact e (by simpa using e'))]; exact h2 y u hu z
theorem wp_vmap_put {w : World} {ops : Array Oper} {rest : List Oper} {o : Oper} {a : Act} {Q : Exit → Act → World → Prop} (hg : o.guard = none) (m x v : Operand) (t e : TypeId) (hop : o.op = Op.mapUpdate t m x v) (ht : Tryz.prog.underlying t = some (.map 9 e))
    (mb : Nat) (g : List UInt8 → Option Value) (N : Nat) (hN : N < maxLen) (k : ByteArray) (hk : k.size ≤ maxLen) (u : Value) (hm : a.eval m = .map (some mb)) (hown : VMap w mb g N) (hx : a.eval x = .string k) (hv : a.eval v = u)
    (hK : ∀ w', VMap w' mb (updS g (kb k) u) (N + 1) → Fr (Is mb) w w' → wpList Tryz.prog ops Q rest (a.put o.dst undef) w') : wpList Tryz.prog ops Q (o :: rest) a w := by
  obtain ⟨D, n, hn, ho, h1, h2⟩ := hown
  exact wpList_mapUpdate_own w hg m x v t hop 9 e lawS ht heldV mb n D hm ho (by omega) _ _ _ hx hv (keyS hk) (.held u) [] rfl (fun w' h h' => hK w' (VMap.put hn ho h1 h2 _ _ h) (Fr.of_grown_some h'))

/-! ### the keys, sorted -/
def leS : List UInt8 → List UInt8 → Bool := fun x y => decide (x ≤ y)
/-- Strictly ascending texts. -/
def AscS (l : List (List UInt8)) : Prop := l.Pairwise (fun x y => leS x y = true ∧ x ≠ y)
theorem leS_antisymm {x y : List UInt8} (h : leS x y = true) (h' : leS y x = true) : x = y := by
  unfold leS at *
  simp only [decide_eq_true_eq] at *
  exact List.le_antisymm h h'
theorem leS_trans {x y z : List UInt8} (h : leS x y = true) (h' : leS y z = true) : leS x z = true := by
  unfold leS at *
  simp only [decide_eq_true_eq] at *
  exact List.le_trans h h'
theorem leS_total (x y : List UInt8) : (leS x y || leS y x) = true := by
  unfold leS
  simp only [Bool.or_eq_true, decide_eq_true_eq]
  exact List.le_total x y
theorem AscS.ext : ∀ {l l' : List (List UInt8)}, AscS l → AscS l' → (∀ x, x ∈ l ↔ x ∈ l') → l = l'
  | [], [], _, _, _ => rfl
  | [], y :: t, _, _, h => by have := (h y).2 (by simp); simp at this
  | x :: s, [], _, _, h => by have := (h x).1 (by simp); simp at this
  | x :: s, y :: t, h1, h2, h => by
    have a1 := List.pairwise_cons.1 h1
    have a2 := List.pairwise_cons.1 h2
    have hx := (h x).1 (by simp)
    have hy := (h y).2 (by simp)
    have e : x = y := by
      rcases List.mem_cons.1 hx with h3 | h3
      · exact h3
      · rcases List.mem_cons.1 hy with h4 | h4
        · exact h4.symm
        · exact leS_antisymm (a1.1 y h4).1 (a2.1 x h3).1
    subst e
    refine congrArg _ (AscS.ext a1.2 a2.2 fun z => ?_)
    constructor
    · intro hz
      rcases List.mem_cons.1 ((h z).1 (by simp [hz])) with h3 | h3
      · subst h3; exact absurd rfl (a1.1 z hz).2
      · exact h3
    · intro hz
      rcases List.mem_cons.1 ((h z).2 (by simp [hz])) with h3 | h3
      · subst h3; exact absurd rfl (a2.1 z hz).2
      · exact h3
theorem ascS_sorted {l : List (List UInt8)} (h : l.Nodup) : AscS (l.mergeSort leS) := by
  have h1 := List.pairwise_mergeSort (le := leS) (fun _ _ _ h h2 => leS_trans h h2) (fun a b => leS_total a b) l
  have h2 : (l.mergeSort leS).Nodup := (List.mergeSort_perm l _).nodup_iff.2 h
  exact (h1.and h2).imp (fun h => h)

theorem mem_strKeys {H : Type} {P : Program} {k : TypeId} {R : Value → Option (DataW H × List MemPlace)} {w : World} {b n : Nat} {D : DataW H} (h : w.ownsMap P k R b n D) (hk : P.underlying k = some .string) (x : List UInt8) :
    x ∈ strKeys D ↔ has D (.string x) = true := by
  obtain ⟨es, rfl, hko⟩ := h.keysOf
  rw [has_eq, List.any_eq_true]
  show x ∈ es.map (fun p => Go.strOf p.1) ↔ _
  rw [List.mem_map]
  constructor
  · rintro ⟨p, hp, rfl⟩
    obtain ⟨v, hv⟩ := hko p hp
    obtain ⟨y, _, hy, _⟩ := Maps.keyOf_str hk hv
    exact ⟨p, hp, by rw [hy]; simp [Lit.sameKey, Go.strOf]⟩
  · rintro ⟨p, hp, hs⟩
    obtain ⟨v, hv⟩ := hko p hp
    obtain ⟨y, _, hy, _⟩ := Maps.keyOf_str hk hv
    rw [hy] at hs
    exact ⟨p, hp, by rw [hy]; simpa [Lit.sameKey, Go.strOf] using hs⟩
theorem nodup_strKeys {H : Type} {P : Program} {k : TypeId} {R : Value → Option (DataW H × List MemPlace)} {w : World} {b n : Nat} {D : DataW H} (h : w.ownsMap P k R b n D) (K : Keyed P k) (hk : P.underlying k = some .string) :
    (strKeys D).Nodup := by
  obtain ⟨es, rfl, hko⟩ := h.keysOf
  obtain ⟨es', e, hp⟩ := h.tidy K
  obtain rfl : es = es' := by simpa using e
  show (es.map fun p => Go.strOf p.1).Nodup
  refine List.pairwise_map.2 (hp.imp_of_mem fun {p q} hp' hq' hne e => hne ?_)
  obtain ⟨v, hv⟩ := hko p hp'
  obtain ⟨a, _, ha, _⟩ := Maps.keyOf_str hk hv
  obtain ⟨v', hv'⟩ := hko q hq'
  obtain ⟨b, _, hb, _⟩ := Maps.keyOf_str hk hv'
  rw [ha, hb] at e ⊢
  exact congrArg _ e
theorem strKeys_len {H : Type} (D : DataW H) : (strKeys D).length ≤ Maps.size D := by
  cases D <;> simp [strKeys, Maps.size]

theorem sortsS (m : Nat) : AnyZ.SortsIn Tryz.prog Tryz.sortedS_ren Fence.wide m :=
  ⟨fun blk off cap ss W hH hblk hsz => callsIn_wide.2 (AnyM.slices_Sort_string Tryz.sortS blk off cap ss W hH hblk hsz),
   fun p cap W => callsIn_wide.2 (AnyM.slices_Sort_string_none Tryz.sortS p cap W)⟩

set_option maxHeartbeats 1000000 in
theorem m_keys (mb : Option Nat) (w : World) : Calls Tryz.prog 40 #[.map mb] w fun e w' => e = .returned (.func (.func 64) #[] #[.pointer (some ⟨w.heap.size, 0, none⟩)]) ∧ w' = w.alloc (.cells #[.map mb] 74) :=
  (callsIn_wide (n := 5)).1 (AnyZ.keys_in Tryz.keysM Fence.wide 5 trivial rfl mb w)

set_option maxHeartbeats 1000000 in
theorem m_sorted (mb Bm : Nat) (g : List UInt8 → Option Value) (N : Nat) (w : World) (hs : VMap w mb g N) (hN : N ≤ 1099511627776) (hB : w.cell? ⟨Bm, 0, none⟩ = some (.map (some mb))) (hBl : Bm < w.heap.size) :
    Calls Tryz.prog 39 #[.func (.func 64) #[] #[.pointer (some ⟨Bm, 0, none⟩)]] w fun e w' =>
      (∃ a cap ids, e = .returned (.slice a ids.length cap) ∧ Strs w' a cap ids ∧ AscS (ids.map kb) ∧ (∀ x : ByteArray, x ∈ ids ↔ (g (kb x)).isSome = true) ∧ ids.length ≤ N ∧ ∀ ad, a = some ad → w.heap.size ≤ ad.block) ∧ Fr No w w' := by
  obtain ⟨D, n, hn, hown, hf, _⟩ := hs
  have hsz := hown.size_le
  have hmax : Maps.size D ≤ maxLen := by unfold maxLen; omega
  have hbytes : Maps.size D * 16 ≤ 140737488355328 := by omega
  have hmem := mem_strKeys hown Tryz.underlying9
  have hnd := nodup_strKeys hown lawS Tryz.underlying9
  have hlen := strKeys_len D
  have hseq : SeqGives Fence.wide 2 Tryz.prog 64 #[.pointer (some ⟨Bm, 0, none⟩)] encStr (fun ss => ss.Perm (strKeys D)) (Maps.size D) w :=
    AnyZ.keys_gives (ρ := Tryz.keysM_ren) { Tryz.keysM with } Fence.wide _ trivial rfl (by omega) Bm mb n D _ hBl hB hown
  have cS := AnyZ.sorted_in Tryz.sortedS Fence.wide 5 trivial trivial trivial trivial rfl (by omega) (sortsS _) (enters_of Tryz.func63 (by kernel_rfl) rfl) 64 #[.pointer (some ⟨Bm, 0, none⟩)] trivial (enters_of Tryz.func64 (by kernel_rfl) rfl) _ _ hmax hbytes _ hseq
  refine ((callsIn_wide (n := 5)).1 cS).mono ?_
  rintro e w' ⟨v, ss, rfl, hperm, hrow, _, hb⟩
  have hp : (ss.mergeSort (fun x y => decide (x ≤ y))).Perm (strKeys D) := (List.mergeSort_perm ss _).trans hperm
  obtain ⟨L, hL⟩ : ∃ L, L = (ss.mergeSort (fun x y => decide (x ≤ y))) := ⟨_, rfl⟩
  have hl : (L.map bk).length = ss.length := by rw [hL]; simp
  have e1 : L.map encStr = (L.map bk).map Value.string := by rw [List.map_map]; rfl
  rw [← hL] at hp hrow
  rw [← hl, e1] at hrow
  obtain ⟨a, cap, rfl, h1, h2⟩ := Strs.of_own hrow
  have e2 : (L.map bk).map kb = L := by
    rw [List.map_map]
    have : kb ∘ bk = id := by funext x; exact kb_bk x
    rw [this, List.map_id]
  refine ⟨⟨a, cap, L.map bk, rfl, h1, ?_, fun x => ?_, ?_, h2⟩, Fr.of_below_size hb⟩
  · rw [e2, hL]; exact ascS_sorted (hperm.nodup_iff.2 hnd)
  · rw [← hf, ← hmem, ← hp.mem_iff]
    constructor
    · intro h
      obtain ⟨y, hy, rfl⟩ := List.mem_map.1 h
      rwa [kb_bk]
    · intro h
      exact List.mem_map.2 ⟨_, h, bk_kb x⟩
  · rw [List.length_map, hp.length_eq]; omega
end Go.Proofs.YtcibciippghooaaGreatDoor
