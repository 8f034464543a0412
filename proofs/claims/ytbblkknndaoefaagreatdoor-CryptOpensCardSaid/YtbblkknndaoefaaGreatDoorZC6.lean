/- The order of members: total and strict on different paths; the best of a list does not depend on its order. Plain. coldplugref01.Split, Order; coldplugref32.Earlier answers what gather.Before answers. coldplugref01.Split; coldplugref32.Earlier answers what gather.Before answers. coldplugref32.Earlier answers what gather.Before answers. Blocks and the types of their cells. -/
import Derived.Test.YtbblkknndaoefaaGreatDoorZC5
import Derived.Sort.Walk0
import Derived.Test.YtbblkknndaoefaaGreatDoorZC3
namespace Go.Proofs.YtbblkknndaoefaaGreatDoor
open Go.RowKit
set_option linter.unusedVariables false

/-- A comparison: what is equal, turned round, chained. -/
structure IsCmp {α : Type} (c : α → α → Int) : Prop where
  zero : ∀ x y, c x y = 0 → x = y
  turn : ∀ x y, c y x = - c x y
  trans : ∀ x y z, c x y < 0 → c y z < 0 → c x z < 0
theorem IsCmp.self {α : Type} {c : α → α → Int} (h : IsCmp c) (x : α) : c x x = 0 := by have := h.turn x x; omega

theorem cb_turn : ∀ a b : List UInt8, Lib.compareBytes b a = - Lib.compareBytes a b
  | [], [] => rfl
  | [], _ :: _ => rfl
  | _ :: _, [] => rfl
  | a :: s, b :: t => by
    have ih := cb_turn s t
    unfold Lib.compareBytes
    by_cases h1 : a < b
    · have h2 : ¬ b < a := fun h => UInt8.lt_asymm h1 h
      simp [h1, h2]
    · by_cases h2 : b < a
      · simp [h1, h2]
      · simp [h1, h2, ih]
theorem cb_trans : ∀ a b c : List UInt8, Lib.compareBytes a b < 0 → Lib.compareBytes b c < 0 → Lib.compareBytes a c < 0
  | [], [], _, h, _ => by simp [Lib.compareBytes] at h
  | [], _ :: _, [], _, h => by simp [Lib.compareBytes] at h
  | [], _ :: _, _ :: _, _, _ => by simp [Lib.compareBytes]
  | _ :: _, [], _, h, _ => by simp [Lib.compareBytes] at h
  | _ :: _, _ :: _, [], _, h => by simp [Lib.compareBytes] at h
  | a :: s, b :: t, c :: u, h, h' => by
    have ih := cb_trans s t u
    unfold Lib.compareBytes at h h' ⊢
    by_cases h1 : a < b
    · by_cases h2 : b < c
      · rw [if_pos (UInt8.lt_trans h1 h2)]; decide
      · rw [if_neg h2] at h'
        by_cases h3 : c < b
        · rw [if_pos h3] at h'; omega
        · have e : b = c := UInt8.le_antisymm (UInt8.not_lt.1 h3) (UInt8.not_lt.1 h2)
          subst e
          rw [if_pos h1]; decide
    · rw [if_neg h1] at h
      by_cases h3 : b < a
      · rw [if_pos h3] at h; omega
      · have e : a = b := UInt8.le_antisymm (UInt8.not_lt.1 h3) (UInt8.not_lt.1 h1)
        subst e
        rw [if_neg h3] at h
        by_cases h2 : a < c
        · rw [if_pos h2]; decide
        · rw [if_neg h2] at h' ⊢
          by_cases h4 : c < a
          · rw [if_pos h4] at h'; omega
          · rw [if_neg h4] at h' ⊢
            exact ih h h'
theorem cb_cmp : IsCmp Lib.compareBytes := ⟨compareBytes_zero, cb_turn, cb_trans⟩
theorem ba_ext' {x y : ByteArray} (h : x.data.toList = y.data.toList) : x = y := by
  cases x; cases y
  simp only at h
  congr 1
  exact Array.toList_inj.1 h
theorem cn_turn : ∀ a b : List ByteArray, cmpN b a = - cmpN a b
  | [], [] => rfl
  | [], _ :: _ => rfl
  | _ :: _, [] => rfl
  | a :: s, b :: t => by
    have ih := cn_turn s t
    unfold cmpN
    by_cases h1 : a = b
    · subst h1; simp [ih]
    · rw [if_neg h1, if_neg (Ne.symm h1)]; exact cb_turn _ _
theorem cn_trans : ∀ a b c : List ByteArray, cmpN a b < 0 → cmpN b c < 0 → cmpN a c < 0
  | [], [], _, h, _ => by simp [cmpN] at h
  | [], _ :: _, [], _, h => by simp [cmpN] at h
  | [], _ :: _, _ :: _, _, _ => by simp [cmpN]
  | _ :: _, [], _, h, _ => by simp [cmpN] at h
  | _ :: _, _ :: _, [], _, h => by simp [cmpN] at h
  | a :: s, b :: t, c :: u, h, h' => by
    have ih := cn_trans s t u
    unfold cmpN at h h' ⊢
    by_cases h1 : a = b
    · subst h1
      rw [if_pos rfl] at h
      by_cases h2 : a = c
      · subst h2
        rw [if_pos rfl] at h' ⊢
        exact ih h h'
      · rw [if_neg h2] at h' ⊢; exact h'
    · rw [if_neg h1] at h
      by_cases h2 : b = c
      · subst h2
        rw [if_neg h1]; exact h
      · rw [if_neg h2] at h'
        have h3 := cb_trans _ _ _ h h'
        by_cases h4 : a = c
        · subst h4
          have := cb_turn a.data.toList b.data.toList
          omega
        · rw [if_neg h4]; exact h3
theorem cn_cmp : IsCmp cmpN := ⟨cmpN_zero, cn_turn, cn_trans⟩

/-- The parts give the text back. -/
theorem spl_back (c : UInt8) : ∀ s : List UInt8, Lib.join (spl c s) [c] = s
  | [] => rfl
  | x :: t => by
    have ih := spl_back c t
    unfold spl
    split
    · rename_i e
      subst e
      rcases h : spl x t with _ | ⟨a, r⟩
      · exact absurd h (spl_ne _ _)
      · rw [h] at ih
        simp [Lib.join] at ih ⊢
        exact ih
    · rcases h : spl c t with _ | ⟨a, r⟩
      · exact absurd h (spl_ne _ _)
      · rw [h] at ih
        cases r with
        | nil => simp [Lib.join] at ih ⊢; exact ih
        | cons b r => simp [Lib.join] at ih ⊢; exact ih
theorem good_inj {s t : ByteArray} (hs : goodPath s = true) (ht : goodPath t = true) (h : sparts s = sparts t) : s = t := by
  unfold goodPath at hs ht
  simp only [Bool.and_eq_true] at hs ht
  have back : ∀ x : ByteArray, Lib.hasPrefix x.data.toList [47] = true → x.data.toList = 47 :: Lib.join ((sparts x).map fun y => y.data.toList) [47] := by
    intro x hx
    have e1 : (sparts x).map (fun y => y.data.toList) = spl 47 (Lib.trimPrefix x.data.toList [47]) := by
      unfold sparts
      rw [List.map_map]
      have : ((fun y : ByteArray => y.data.toList) ∘ fun x : List UInt8 => (⟨x.toArray⟩ : ByteArray)) = id := by funext z; simp
      rw [this, List.map_id]
    rw [e1, spl_back]
    unfold Lib.trimPrefix
    rw [if_pos hx]
    unfold Lib.hasPrefix at hx
    rcases hl : x.data.toList with _ | ⟨a, r⟩
    · rw [hl] at hx; simp at hx
    · rw [hl] at hx
      simp at hx
      simp [← hx]
  apply ba_ext'
  rw [back s hs.1, back t ht.1, h]
theorem path_cmp : IsCmp pathO := by
  refine ⟨fun s t h => ?_, fun s t => ?_, fun s t u h h' => ?_⟩
  · unfold pathO at h
    cases hs : goodPath s <;> cases ht : goodPath t <;> simp [hs, ht] at h
    · exact ba_ext' (compareBytes_zero _ _ h)
    · exact good_inj hs ht (cmpN_zero _ _ h)
  · unfold pathO
    cases hs : goodPath s <;> cases ht : goodPath t <;> simp
    · exact cb_turn _ _
    · exact cn_turn _ _
  · unfold pathO at h h' ⊢
    cases hs : goodPath s <;> cases ht : goodPath t <;> cases hu : goodPath u <;> simp [hs, ht, hu] at h h' ⊢
    · exact cb_trans _ _ _ h h'
    · exact cn_trans _ _ _ h h'
theorem ahead_iff (m o : Mem) : ahead m o = true ↔ m.r < o.r ∨ m.r = o.r ∧ pathO m.p o.p < 0 := by
  unfold ahead aheadB
  rw [decide_eq_true_iff]
  unfold orI cmpI
  by_cases h1 : m.r < o.r
  · simp [h1]
  · by_cases h2 : o.r < m.r
    · simp [h1, h2]; omega
    · have : m.r = o.r := by omega
      simp [this]
theorem ahead_asymm {m o : Mem} (h : ahead m o = true) : ahead o m = false := by
  cases h' : ahead o m with
  | false => rfl
  | true =>
    rw [ahead_iff] at h h'
    have := path_cmp.turn m.p o.p
    omega
theorem ahead_trans {m o q : Mem} (h : ahead m o = true) (h' : ahead o q = true) : ahead m q = true := by
  rw [ahead_iff] at h h' ⊢
  rcases h with h | ⟨h1, h2⟩
  · left; omega
  · rcases h' with h' | ⟨h3, h4⟩
    · left; omega
    · exact .inr ⟨by omega, path_cmp.trans _ _ _ h2 h4⟩
theorem ahead_total {m o : Mem} (h : m.p ≠ o.p) (h' : ahead m o = false) : ahead o m = true := by
  have h1 : ¬ (ahead m o = true) := by rw [h']; decide
  rw [ahead_iff] at h1 ⊢
  have h2 := path_cmp.turn m.p o.p
  have h3 : pathO m.p o.p ≠ 0 := fun e => h (path_cmp.zero _ _ e)
  omega
/-- In a list of different paths no other member of the ID comes ahead of the best. -/
theorem best_least (L : List Mem) : L.Pairwise (fun m o => m.p ≠ o.p) → ∀ m ∈ L, m.l.length = 1 → ∀ o, best L (kb m.i) = some o → m = o ∨ ahead o m = true := by
  refine rev_ind (P := fun L => L.Pairwise (fun m o => m.p ≠ o.p) → ∀ m ∈ L, m.l.length = 1 → ∀ o, best L (kb m.i) = some o → m = o ∨ ahead o m = true) ?_ ?_ L
  · intro _ m h; cases h
  · intro l y ih hp m hm h1 o ho
    obtain ⟨hp1, _, hp2⟩ := List.pairwise_append.1 hp
    rw [best_snoc] at ho
    rcases bestS_cases (best l) y (kb m.i) with ⟨h2, h3, h4, h5⟩ | ⟨h2, h3⟩
    · rw [h2] at ho; cases ho
      rcases List.mem_append.1 hm with hm | hm
      · obtain ⟨o', ho'⟩ := best_some l m hm h1
        right
        rcases ih hp1 m hm h1 o' ho' with rfl | h6
        · exact h5 _ ho'
        · exact ahead_trans (h5 o' ho') h6
      · exact .inl (by simpa using hm)
    · rw [h2] at ho
      rcases List.mem_append.1 hm with hm | hm
      · exact ih hp1 m hm h1 o ho
      · obtain rfl : m = y := by simpa using hm
        obtain ⟨o', ho', h6⟩ := h3 h1 rfl
        rw [ho] at ho'; cases ho'
        exact .inr (ahead_total (Ne.symm (hp2 o (best_mem l _ o ho).1 m (by simp))) h6)
theorem best_order {L L' : List Mem} (hp : L.Pairwise (fun m o => m.p ≠ o.p)) (hp' : L'.Pairwise (fun m o => m.p ≠ o.p)) (h : ∀ m, m ∈ L ↔ m ∈ L') (x : List UInt8) : best L x = best L' x := by
  rcases h1 : best L x with _ | o
  · rcases h2 : best L' x with _ | o'
    · rfl
    · exfalso
      obtain ⟨a, b, c⟩ := best_mem L' x o' h2
      obtain ⟨z, hz⟩ := best_some L o' ((h o').2 a) b
      rw [c, h1] at hz; cases hz
  · obtain ⟨a, b, c⟩ := best_mem L x o h1
    obtain ⟨o', ho'⟩ := best_some L' o ((h o).1 a) b
    rw [c] at ho'
    rw [ho']
    obtain ⟨a', b', c'⟩ := best_mem L' x o' ho'
    rcases best_least L' hp' o ((h o).1 a) b o' (by rw [c]; exact ho') with e | h3
    · rw [e]
    · rcases best_least L hp o' ((h o').2 a') b' o (by rw [c']; exact h1) with e | h4
      · rw [e]
      · rw [ahead_asymm h3] at h4; cases h4
end Go.Proofs.YtbblkknndaoefaaGreatDoor
namespace Go.Proofs.YtbblkknndaoefaaGreatDoor
open Go.RowKit Go.Maps
set_option linter.unusedVariables false

/-- All parts of a text between slashes. -/
def fparts (s : ByteArray) : List ByteArray := (spl 47 s.data.toList).map fun x => ⟨x.toArray⟩
theorem pre_cons : ∀ {l : List UInt8}, Lib.hasPrefix l [47] = true → l = 47 :: Lib.trimPrefix l [47]
  | [], h => by unfold Lib.hasPrefix at h; simp at h
  | a :: r, h => by
    unfold Lib.trimPrefix
    rw [if_pos h]
    unfold Lib.hasPrefix at h
    simp at h
    simp [← h]
theorem fparts_good {s : ByteArray} (h : goodPath s = true) : fparts s = ⟨#[]⟩ :: sparts s := by
  unfold goodPath at h
  simp only [Bool.and_eq_true] at h
  unfold fparts sparts
  rw [pre_cons h.1]
  have e : spl 47 (47 :: Lib.trimPrefix s.data.toList [47]) = [] :: spl 47 (Lib.trimPrefix s.data.toList [47]) := by rw [spl, if_pos rfl]
  rw [e]
  have e2 : Lib.trimPrefix (47 :: Lib.trimPrefix s.data.toList [47]) [47] = Lib.trimPrefix s.data.toList [47] := by
    unfold Lib.trimPrefix
    simp [Lib.hasPrefix]
  rw [e2]
  rfl
theorem fparts_len (s : ByteArray) : Lib.countB s ⟨#[47]⟩ + 1 = (fparts s).length := split_len s
theorem order_good {s t : ByteArray} (hs : goodPath s = true) (ht : goodPath t = true) : cmpN (fparts s) (fparts t) = cmpN (sparts s) (sparts t) := by
  rw [fparts_good hs, fparts_good ht]
  exact cmpN_app [⟨#[]⟩] (sparts s) (sparts t)

set_option maxRecDepth 100000 in
set_option maxHeartbeats 2000000 in
theorem r_order (s t : ByteArray) (m : Int) (w : World) (hs : s.size ≤ 1000000) (ht : t.size ≤ 1000000) (hm : w.cell? ⟨1, 0, none⟩ = some (.int .i64 m)) :
    Calls Tryz.prog 109 #[.string s, .string t] w fun e w' => e = .returned (.int .i64 (cmpN (fparts s) (fparts t))) ∧ Fr No w w' := by
  have hml : (1000001 : Nat) ≤ maxLen := by unfold maxLen; omega
  have hc1 := fparts_len s
  have hs1 : _ = fparts s := split_parts s
  have hc2 := fparts_len t
  have hs2 : _ = fparts t := split_parts t
  have hle1 := Lib.countB_le ⟨#[47]⟩ (by decide) s.size s (Nat.le_refl _)
  have hle2 := Lib.countB_le ⟨#[47]⟩ (by decide) t.size t (Nat.le_refl _)
  have hl1 : (fparts s).length ≤ maxLen := by omega
  have hl2 : (fparts t).length ≤ maxLen := by omega
  have hsp1 := Tryz.strings_Split s ⟨#[47]⟩ m w (by omega) hm (by decide)
  rw [hs1, hc1] at hsp1
  have hx1 : Fr No w (w.alloc (.cells ((fparts s).map Value.string).toArray 9)) := (Fr.refl _ _).alloc _
  have hm1 := hx1.cell hm id
  have hS1 := Strs.new w (fparts s) 9 hl1
  have hsz1 : w.heap.size < (w.alloc (.cells ((fparts s).map Value.string).toArray 9)).heap.size := by simp
  obtain ⟨W1, hW1⟩ : ∃ W1, W1 = w.alloc (.cells ((fparts s).map Value.string).toArray 9) := ⟨_, rfl⟩
  rw [← hW1] at hsp1 hx1 hm1 hS1 hsz1
  clear hW1
  have hsp2 := Tryz.strings_Split t ⟨#[47]⟩ m W1 (by omega) hm1 (by decide)
  rw [hs2, hc2] at hsp2
  have hx2 : Fr No W1 (W1.alloc (.cells ((fparts t).map Value.string).toArray 9)) := (Fr.refl _ _).alloc _
  have hS2 := Strs.new W1 (fparts t) 9 hl2
  obtain ⟨W2, hW2⟩ : ∃ W2, W2 = W1.alloc (.cells ((fparts t).map Value.string).toArray 9) := ⟨_, rfl⟩
  rw [← hW2] at hsp2 hx2 hS2
  clear hW2 hc1 hs1 hc2 hs2 hle1 hle2 hl1 hl2 hml hm
  have hS12 := hS1.no hx2 (fun _ => id)
  have Hx := Lib.hid (hx1.step hx2 (fun _ _ h => h))
  clear hS1 hx1 hx2 hsz1 hm1
  generalize fparts s = P at *
  generalize fparts t = Q at *
  go_enter Tryz.func109, Tryz.ntmps109
  go_wp2_with fail
  refine hsp1.mono ?_
  rintro e w1 ⟨rfl, rfl⟩
  go_wp2_with fail
  refine hsp2.mono ?_
  rintro e w2 ⟨rfl, rfl⟩
  have hcp := ref_compare _ _ P _ _ Q _ hS12 hS2
  clear hsp1 hsp2 hS12 hS2
  go_wp2_with fail
  refine hcp.mono ?_
  rintro e w3 ⟨rfl, hf3⟩
  have Hf := Lib.hid (Hx.out.step hf3 (fun _ _ h => h))
  clear hf3 hcp
  go_wp2_with fail
  go_ret
  exact ⟨rfl, Hf.out⟩
end Go.Proofs.YtbblkknndaoefaaGreatDoor
namespace Go.Proofs.YtbblkknndaoefaaGreatDoor
open Go.RowKit Go.Maps Go.Sort
set_option linter.unusedVariables false

theorem cb_less : ∀ a b : List UInt8, decide (Lib.compareBytes a b < 0) = Op.bytesLess a b
  | [], [] => rfl
  | [], _ :: _ => rfl
  | _ :: _, [] => rfl
  | a :: x, b :: y => by
    have ih := cb_less x y
    unfold Lib.compareBytes Op.bytesLess
    by_cases h1 : a < b
    · simp [h1]
    · by_cases h2 : b < a
      · have h3 : (a == b) = false := by
          simp only [beq_eq_false_iff_ne]
          rintro rfl
          exact h1 h2
        simp [h1, h2, h3]
      · have h3 : a = b := UInt8.le_antisymm (UInt8.not_lt.1 h2) (UInt8.not_lt.1 h1)
        subst h3
        simp [h1, ih]
theorem ahead_ne {p p' : ByteArray} {r r' : Int} (h : r ≠ r') : aheadB p r p' r' = decide (r < r') := by
  unfold aheadB orI cmpI
  by_cases h1 : r < r'
  · simp [h1]
  · have h2 : r' < r := by omega
    simp [h1, h2]
theorem ahead_eq (p p' : ByteArray) (r : Int) : aheadB p r p' r = decide (pathO p p' < 0) := by
  unfold aheadB orI cmpI
  simp
theorem ahead_tt {p p' : ByteArray} (r : Int) (h1 : goodPath p = true) (h2 : goodPath p' = true) : aheadB p r p' r = decide (cmpN (fparts p) (fparts p') < 0) := by
  rw [ahead_eq, order_good h1 h2]; unfold pathO; rw [h1, h2]; rfl
theorem ahead_tf {p p' : ByteArray} (r : Int) (h1 : goodPath p = true) (h2 : goodPath p' = false) : aheadB p r p' r = true := by
  rw [ahead_eq]; unfold pathO; rw [h1, h2]; rfl
theorem ahead_ft {p p' : ByteArray} (r : Int) (h1 : goodPath p = false) (h2 : goodPath p' = true) : aheadB p r p' r = false := by
  rw [ahead_eq]; unfold pathO; rw [h1, h2]; rfl
theorem ahead_ff {p p' : ByteArray} (r : Int) (h1 : goodPath p = false) (h2 : goodPath p' = false) : aheadB p r p' r = Op.bytesLess p.toList p'.toList := by
  rw [ahead_eq]; unfold pathO; rw [h1, h2, ByteArray.toList_eq, ByteArray.toList_eq, ← cb_less]; rfl

/-- What coldplugref01.Split answers. -/
def SplitQ (s : ByteArray) (e : Ending) : Prop := ∃ v, e = .returned (.tuple #[v, .bool (goodPath s)])

theorem byte0 {s : ByteArray} {b : UInt8} {t : List UInt8} (hl : s.data.toList = b :: t) (h : 0 < s.size) : s[0]'h = b := by
  have h1 : s.data[0]'h = b := by
    have h2 : s.data.toList[0]? = some b := by rw [hl]; rfl
    rw [Array.getElem?_toList, Array.getElem?_eq_getElem h] at h2
    exact Option.some.inj h2
  exact h1
set_option maxRecDepth 100000 in
set_option maxHeartbeats 1000000 in
theorem r_split (s : ByteArray) (m : Int) (w : World) (hs : s.size ≤ 1000000) (hm : w.cell? ⟨1, 0, none⟩ = some (.int .i64 m)) :
    Calls Tryz.prog 108 #[.string s] w fun e w' => SplitQ s e ∧ Fr No w w' := by
  rcases hl : s.data.toList with _ | ⟨b, t⟩
  · have Hg : Hid (goodPath s = false) := by unfold Hid goodPath; rw [hl]; rfl
    have h0 : s.toList = [] := by rw [ByteArray.toList_eq, hl]
    clear hl
    go_enter Tryz.func108, Tryz.ntmps108
    go_wp2_with fail
    go_ret2
    exact ⟨⟨.slice none 0 0, by rw [Hg.out]; rfl⟩, Fr.refl _ _⟩
  · have hsz : 0 < s.size := by
      have h1 : s.data.toList.length = s.size := (Lib.size_eq s).symm
      rw [hl] at h1; simp at h1; omega
    have h0 : s.toList.isEmpty = false := by rw [ByteArray.toList_eq, hl]; rfl
    have hb0 := byte0 hl hsz
    by_cases hb : b = 47
    · have h3 : (((s[0]'hsz).toNat : Int) != 47) = false := by rw [hb0, hb]; rfl
      have hp : Lib.hasPrefix s.data.toList [47] = true := by rw [hl, hb]; simp [Lib.hasPrefix]
      have hq : (s.extract 1 s.size).data.toList = t := by rw [Lib.extract_to_end, hl]; rfl
      obtain ⟨q, hqe⟩ : ∃ q, q = s.extract 1 s.size := ⟨_, rfl⟩
      rw [← hqe] at hq
      have hqs : q.size ≤ 1000000 := by
        have h1 : q.data.toList.length = q.size := (Lib.size_eq q).symm
        have h2 : s.data.toList.length = s.size := (Lib.size_eq s).symm
        rw [hq] at h1; rw [hl] at h2; simp at h2; omega
      obtain ⟨P, hP⟩ : ∃ P, P = fparts q := ⟨_, rfl⟩
      have hPs : P = sparts s := by
        rw [hP]; unfold fparts sparts
        rw [hq, hl, hb]
        unfold Lib.trimPrefix
        simp [Lib.hasPrefix]
      have hg : goodPath s = P.all isName := by unfold goodPath; rw [hp, hPs]; rfl
      have hsz1 : ∀ x ∈ P, x.size ≤ maxLen := fun x hx => by rw [hPs] at hx; have := sparts_size s x hx; unfold maxLen; omega
      have hc1 := fparts_len q
      have hs1 : _ = fparts q := split_parts q
      rw [← hP] at hc1 hs1
      have hle1 := Lib.countB_le ⟨#[47]⟩ (by decide) q.size q (Nat.le_refl _)
      have hl1 : P.length ≤ maxLen := by unfold maxLen; omega
      have hl2 : P.length ≤ 2000000 := by omega
      have hsp1 := Tryz.strings_Split q ⟨#[47]⟩ m w (by omega) hm (by decide)
      rw [hs1, hc1] at hsp1
      have hx1 : Fr No w (w.alloc (.cells (P.map Value.string).toArray 9)) := (Fr.refl _ _).alloc _
      have hS1 := Strs.new w P 9 hl1
      obtain ⟨W1, hW1⟩ : ∃ W1, W1 = w.alloc (.cells (P.map Value.string).toArray 9) := ⟨_, rfl⟩
      rw [← hW1] at hsp1 hx1 hS1
      have Hg := Lib.hid hg
      have Hqe := Lib.hid hqe.symm
      have Hx1 := Lib.hid hx1
      clear hl hb hb0 hp hq hqe hP hPs hg hc1 hs1 hle1 hl1 hW1 hx1 hm
      go_enter Tryz.func108, Tryz.ntmps108
      go_wp2_with fail
      rw [Hqe.out]
      refine hsp1.mono ?_
      rintro e w1 ⟨rfl, rfl⟩
      clear hsp1 h3 h0 Hqe
      go_wp2_with fail
      go_loopw [5] (fun i wr => ∃ k : Nat, k ≤ P.length ∧ i = .int .i64 (k : Int) ∧ Hid ((P.take k).all isName = true) ∧ Fr No w wr ∧ Strs wr (some ⟨w.heap.size, 0, none⟩) P.length P) (fun i _ => P.length - (intOf i).toNat)
      case atStart => exact ⟨0, by omega, rfl, by unfold Hid; simp, Hx1.out, hS1⟩
      case round =>
        obtain ⟨k, hk, rfl, hno, hfr, hSr⟩ := hrel
        by_cases hlt : k < P.length
        · have hlt' : (k : Int) < P.length := by omega
          obtain ⟨xb, xo, x, e1, hx, hc⟩ := hSr.at hlt
          cases e1
          rw [Nat.zero_add] at hc
          have hxs := hsz1 x (List.mem_of_getElem? hx)
          have Htk : Hid (P.take (k + 1) = P.take k ++ [x]) := by unfold Hid; rw [List.take_add_one, hx]; rfl
          have Hmem := Lib.hid (List.mem_of_getElem? hx)
          have hv := v_valid x wr hxs
          clear hx
          go_wp2_with fail
          refine hv.mono ?_
          rintro e w3 ⟨rfl, rfl⟩
          clear hc hv
          cases hp : isName x
          · have Hr : Hid (goodPath s = false) := by unfold Hid; rw [Hg.out, List.all_eq_false]; exact ⟨x, Hmem.out, by rw [hp]; simp⟩
            clear hp
            go_wp2_with fail
            go_ret2
            exact ⟨⟨.slice none 0 0, by rw [Hr.out]; rfl⟩, hfr⟩
          · have Hn : Hid ((P.take (k + 1)).all isName = true) := by unfold Hid; rw [Htk.out, List.all_append, hno.out]; simp [hp]
            clear hp
            go_wp2_with fail
            go_roundw
            case rel => exact ⟨k + 1, by omega, by go_num, Hn, hfr, hSr⟩
            case measure => simp [intOf]; omega
        · have h := hno.out
          rw [List.take_of_length_le (by omega)] at h
          have Hr : Hid (goodPath s = true) := by unfold Hid; rw [Hg.out, h]
          clear h
          go_wp2_with fail
          go_ret2
          exact ⟨⟨.slice (some ⟨w.heap.size, 0, none⟩) P.length P.length, by rw [Hr.out]; rfl⟩, hfr⟩
    · have Hg : Hid (goodPath s = false) := by unfold Hid goodPath; rw [hl]; simp [Lib.hasPrefix]; intro h; exact absurd h.symm hb
      have h3 : (((s[0]'hsz).toNat : Int) != 47) = true := by
        rw [hb0]
        simp only [bne_iff_ne, ne_eq]
        intro e
        exact hb (UInt8.toNat_inj.1 (by have : b.toNat = 47 := by omega
                                        rw [this]; rfl))
      clear hl hb hb0
      go_enter Tryz.func108, Tryz.ntmps108
      go_wp2_with fail
      go_ret2
      exact ⟨⟨.slice none 0 0, by rw [Hg.out]; rfl⟩, Fr.refl _ _⟩
end Go.Proofs.YtbblkknndaoefaaGreatDoor
namespace Go.Proofs.YtbblkknndaoefaaGreatDoor
open Go.RowKit Go.Maps
set_option linter.unusedVariables false

set_option maxRecDepth 100000 in
set_option maxHeartbeats 2000000 in
theorem ref_earlier (p i p' i' : ByteArray) (r s t e r' s' t' e' : Int) (v v' : Value) (m : Int) (w : World) (hs : p.size ≤ 1000000) (ht : p'.size ≤ 1000000) (hm : w.cell? ⟨1, 0, none⟩ = some (.int .i64 m)) :
    Calls Tryz.prog 79 #[.agg #[.string p, .string i, .int .i64 r, .int .i64 s, .int .i64 t, .int .i64 e, v], .agg #[.string p', .string i', .int .i64 r', .int .i64 s', .int .i64 t', .int .i64 e', v']] w fun en w' => en = .returned (.bool (aheadB p r p' r')) ∧ Fr No w w' := by
  have h0 : Fr No w ((w.alloc (.cells #[.string p, .string i, .int .i64 r, .int .i64 s, .int .i64 t, .int .i64 e, v] 58)).alloc (.cells #[.string p', .string i', .int .i64 r', .int .i64 s', .int .i64 t', .int .i64 e', v'] 58)) := ((Fr.refl _ _).alloc _).alloc _
  have q1 := block_alloc1 w (.cells #[.string p, .string i, .int .i64 r, .int .i64 s, .int .i64 t, .int .i64 e, v] 58) (.cells #[.string p', .string i', .int .i64 r', .int .i64 s', .int .i64 t', .int .i64 e', v'] 58)
  have q2 := block_alloc2 w (.cells #[.string p, .string i, .int .i64 r, .int .i64 s, .int .i64 t, .int .i64 e, v] 58) (.cells #[.string p', .string i', .int .i64 r', .int .i64 s', .int .i64 t', .int .i64 e', v'] 58)
  obtain ⟨W0, hW0⟩ : ∃ W0, W0 = (w.alloc (.cells #[.string p, .string i, .int .i64 r, .int .i64 s, .int .i64 t, .int .i64 e, v] 58)).alloc (.cells #[.string p', .string i', .int .i64 r', .int .i64 s', .int .i64 t', .int .i64 e', v'] 58) := ⟨_, rfl⟩
  rw [← hW0] at h0 q1 q2
  have hm0 := h0.cell hm id
  have H0 := Lib.hid h0
  obtain ⟨rb, hrb⟩ : ∃ rb, rb = aheadB p r p' r' := ⟨_, rfl⟩
  rw [← hrb]
  have Hrb := Lib.hid hrb
  have y0 : W0.cell? ⟨w.heap.size, 0, none⟩ = some (.string p) := cell_of_block q1 0
  have y2 : W0.cell? ⟨w.heap.size, 2, none⟩ = some (.int .i64 r) := cell_of_block q1 2
  have z0 : W0.cell? ⟨w.heap.size + 1, 0, none⟩ = some (.string p') := cell_of_block q2 0
  have z2 : W0.cell? ⟨w.heap.size + 1, 2, none⟩ = some (.int .i64 r') := cell_of_block q2 2
  clear h0 hm hrb q1 q2
  go_enter Tryz.func79, Tryz.ntmps79
  go_upto_region 1 with (fail)
  rw [← hW0]
  clear hW0
  by_cases hr : r = r'
  · subst hr
    have hsp := r_split p m W0 hs hm0
    go_wp2_with fail
    refine hsp.mono ?_
    rintro en w1 ⟨⟨v1, rfl⟩, hf1⟩
    have hsp2 := r_split p' m w1 ht (hf1.cell hm0 id)
    have y0' := hf1.cell y0 id
    have z0' := hf1.cell z0 id
    have hm1 := hf1.cell hm0 id
    have Hf1 := Lib.hid (H0.out.step hf1 (fun _ _ h => h))
    clear y0 z0 y2 z2 hf1 hsp hm0
    go_wp2_with fail
    refine hsp2.mono ?_
    rintro en w2 ⟨⟨v2, rfl⟩, hf2⟩
    have y0 := hf2.cell y0' id
    have z0 := hf2.cell z0' id
    have hm2 := hf2.cell hm1 id
    have Hf2 := Lib.hid (Hf1.out.step hf2 (fun _ _ h => h))
    clear y0' z0' hf2 hsp2 hm1
    cases hg1 : goodPath p with
    | true =>
      cases hg2 : goodPath p' with
      | true =>
        have Hv : Hid (rb = decide (cmpN (fparts p) (fparts p') < 0)) := by unfold Hid; rw [Hrb.out, ahead_tt r hg1 hg2]
        have hor := r_order p p' m w2 hs ht hm2
        clear hg1 hg2
        go_wp2_with fail
        refine hor.mono ?_
        rintro en w3 ⟨rfl, hf3⟩
        have Hf3 := Lib.hid (Hf2.out.step hf3 (fun _ _ h => h))
        generalize cmpN (fparts p) (fparts p') = c at *
        clear hf3 hor
        go_wp2_with fail
        go_ret
        exact ⟨by rw [Hv.out]; rfl, Hf3.out⟩
      | false =>
        have Hv : Hid (rb = true) := by unfold Hid; rw [Hrb.out, ahead_tf r hg1 hg2]
        clear hg1 hg2
        go_wp2_with fail
        go_ret
        exact ⟨by rw [Hv.out]; rfl, Hf2.out⟩
    | false =>
      cases hg2 : goodPath p' with
      | true =>
        have Hv : Hid (rb = false) := by unfold Hid; rw [Hrb.out, ahead_ft r hg1 hg2]
        clear hg1 hg2
        go_wp2_with fail
        go_ret
        exact ⟨by rw [Hv.out]; rfl, Hf2.out⟩
      | false =>
        have Hv : Hid (rb = Op.bytesLess p.toList p'.toList) := by unfold Hid; rw [Hrb.out, ahead_ff r hg1 hg2]
        clear hg1 hg2
        go_wp2_with fail
        go_ret
        exact ⟨by rw [Hv.out]; rfl, Hf2.out⟩
  · have hb : (r != r') = true := by simpa using hr
    have Hd : Hid (rb = decide (r < r')) := by unfold Hid; rw [Hrb.out, ahead_ne hr]
    clear hr
    by_cases hlt : r < r'
    · have Hv : Hid (rb = true) := by unfold Hid; rw [Hd.out]; exact decide_eq_true hlt
      go_wp2_with fail
      go_ret
      exact ⟨by rw [Hv.out]; rfl, H0.out⟩
    · have Hv : Hid (rb = false) := by unfold Hid; rw [Hd.out]; exact decide_eq_false hlt
      go_wp2_with fail
      go_ret
      exact ⟨by rw [Hv.out]; rfl, H0.out⟩
end Go.Proofs.YtbblkknndaoefaaGreatDoor
namespace Go.Proofs.YtbblkknndaoefaaGreatDoor
open Go.RowKit Go.Maps
set_option linter.unusedVariables false

theorem Strs.keep {X W : World} {a : Option Addr} {cap : Nat} {l : List ByteArray} {S : Nat → Prop} (h : Strs X a cap l) (hf : Fr S X W) (hS : ∀ b, b < X.heap.size → ¬ S b) : Strs W a cap l :=
  h.fr hf (fun ad e hne => hS _ (h.cell ad e hne).2.1)

/-- A slice's block holds cells of a type. -/
def BlkT (w : World) (a : Option Addr) (T : TypeId) : Prop := ∀ ad, a = some ad → ∃ cs, w.heap[ad.block]? = some (.cells cs T (0, 0))
theorem BlkT.none (w : World) (T : TypeId) : BlkT w none T := fun _ e => by cases e
theorem own_typ {w : World} {base : Nat} {e : TypeId} {size : Nat} {a : Option Addr} {n m c : Nat} {xs : List Value} (h : w.ownsRow base e size (.slice a n c) m xs) : BlkT w a e := by
  obtain ⟨_, ⟨h1, _⟩ | ⟨g, cap, cur, h1, hg, hb, _⟩⟩ := h
  · cases h1; exact BlkT.none _ _
  · cases h1; exact fun ad e => by cases e; exact ⟨cur, hb⟩
/-- What lies in blocks of another type than the own row's block is not touched by what writes that block. -/
theorem BlkT.fr {S : Nat → Prop} {w w' : World} {a : Option Addr} {T : TypeId} (h : BlkT w a T) (hf : Fr S w w') (hS : ∀ ad, a = some ad → ¬ S ad.block) : BlkT w' a T := fun ad e => by
  obtain ⟨cs, hc⟩ := h ad e
  exact ⟨cs, hf.heap hc (hS ad e)⟩
theorem BlkT.ne {w : World} {base : Nat} {e T : TypeId} {size : Nat} {v : Value} {n : Nat} {xs : List Value} (ho : w.ownsRow base e size v n xs) {a : Option Addr} (h : BlkT w a T) (hne : T ≠ e) : ∀ ad, a = some ad → ¬ v.ownBlock = some ad.block := by
  intro ad e' hb
  obtain ⟨cs, hc⟩ := h ad e'
  obtain ⟨_, ⟨rfl, _⟩ | ⟨g, cap, cur, rfl, hg, hbl, _⟩⟩ := ho
  · cases hb
  · cases hb
    rw [hc] at hbl
    cases hbl
    exact hne rfl
theorem ownsRow_at {w w1 : World} {base : Nat} {e : TypeId} {size : Nat} {v : Value} {n : Nat} {xs : List Value} (h : w.ownsRow base e size v n xs) {S : Nat → Prop} (hf : Fr S w w1) (hS : ∀ b, v.ownBlock = some b → ¬ S b) : w1.ownsRow base e size v n xs := by
  obtain ⟨h0, ⟨rfl, h2⟩ | ⟨g, cap, cur, rfl, hg, hb, h1, h2, h3, h4⟩⟩ := h
  · exact ⟨h0, .inl ⟨rfl, h2⟩⟩
  · exact ⟨h0, .inr ⟨g, cap, cur, rfl, hg, hf.heap hb (hS g rfl), h1, h2, h3, h4⟩⟩
end Go.Proofs.YtbblkknndaoefaaGreatDoor
