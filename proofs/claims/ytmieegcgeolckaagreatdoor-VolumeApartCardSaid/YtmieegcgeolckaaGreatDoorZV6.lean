/- Members, and the best one of each ID. Plain. The order of members: total and strict on different paths; the best of a list does not depend on its order. Plain. Arrays of members: the best member of each place; the array of an ID. Plain. slices.Min, the keys of a table, Sound. -/
import Derived.Test.YtmieegcgeolckaaGreatDoorZV5
import Derived.Test.YtmieegcgeolckaaGreatDoorZV3
import Derived.Test.YtmieegcgeolckaaGreatDoorShelf2
namespace Go.Proofs.YtmieegcgeolckaaGreatDoor
open Go.RowKit
set_option linter.unusedVariables false

/-- A member: its path, ID, round, slot, total, least, and its inner texts with their place. -/
structure Mem where
  p : ByteArray
  i : ByteArray
  r : Int
  s : Int
  t : Int
  e : Int
  a : Option Addr
  l : List ByteArray
  c : Nat
def Mem.vals (m : Mem) : Array Value := #[.string m.p, .string m.i, .int .i64 m.r, .int .i64 m.s, .int .i64 m.t, .int .i64 m.e, .slice m.a m.l.length m.c]
def Mem.v (m : Mem) : Value := .agg m.vals
/-- A member without the place of its inner texts. -/
def Mem.k (m : Mem) : Mem := { m with a := none, c := 0 }
def Mem.zero : Mem := ⟨⟨#[]⟩, ⟨#[]⟩, 0, 0, 0, 0, none, [], 0⟩

/-- m comes ahead of o. -/
def ahead (m o : Mem) : Bool := aheadB m.p m.r o.p o.r
def bestS (g : List UInt8 → Option Mem) (m : Mem) : List UInt8 → Option Mem := fun x =>
  if (m.l.length == 1 && x == kb m.i && (match g x with | none => true | some o => ahead m o)) = true then some m else g x
def best (L : List Mem) : List UInt8 → Option Mem := L.foldl bestS fun _ => none
theorem best_snoc (L : List Mem) (m : Mem) : best (L ++ [m]) = bestS (best L) m := by simp [best, List.foldl_append]
theorem best_nil : best [] = fun _ => none := rfl
theorem bestS_skip {g : List UInt8 → Option Mem} {m : Mem} (h : m.l.length ≠ 1) : bestS g m = g := by
  funext x; unfold bestS; rw [if_neg (by simp [h])]
theorem bestS_keep {g : List UInt8 → Option Mem} {m o : Mem} (hg : g (kb m.i) = some o) (h : ahead m o = false) : bestS g m = g := by
  funext x; unfold bestS
  by_cases e : x = kb m.i
  · subst e; rw [hg]; simp [h]
  · rw [if_neg (by simp [e])]
theorem bestS_take {g : List UInt8 → Option Mem} {m : Mem} (h1 : m.l.length = 1) (h : ∀ o, g (kb m.i) = some o → ahead m o = true) : bestS g m = fun x => if x = kb m.i then some m else g x := by
  funext x; unfold bestS
  by_cases e : x = kb m.i
  · subst e
    rw [if_pos rfl]
    rcases hg : g (kb m.i) with _ | o
    · simp [h1]
    · simp [h1, h o hg]
  · rw [if_neg (by simp [e]), if_neg e]

theorem rev_ind {α : Type} {P : List α → Prop} (h0 : P []) (h1 : ∀ l x, P l → P (l ++ [x])) (l : List α) : P l := by
  have : ∀ l : List α, P l.reverse := by
    intro l
    induction l with
    | nil => exact h0
    | cons x t ih => rw [List.reverse_cons]; exact h1 _ _ ih
  simpa using this l.reverse

theorem bestS_cases (g : List UInt8 → Option Mem) (m : Mem) (x : List UInt8) : (bestS g m x = some m ∧ m.l.length = 1 ∧ x = kb m.i ∧ ∀ o, g x = some o → ahead m o = true) ∨ (bestS g m x = g x ∧ (m.l.length = 1 → x = kb m.i → ∃ o, g x = some o ∧ ahead m o = false)) := by
  by_cases h1 : m.l.length = 1
  · by_cases h2 : x = kb m.i
    · rcases hg : g x with _ | o
      · refine .inl ⟨?_, h1, h2, fun o ho => by cases ho⟩
        unfold bestS; rw [hg]; simp [h1, h2]
      · cases ha : ahead m o with
        | true =>
          refine .inl ⟨?_, h1, h2, fun o' ho => by cases ho; exact ha⟩
          unfold bestS; rw [hg]; simp [h1, h2, ha]
        | false =>
          refine .inr ⟨?_, fun _ _ => ⟨o, rfl, ha⟩⟩
          unfold bestS; rw [hg]; simp [ha]
    · refine .inr ⟨?_, fun _ h => absurd h h2⟩
      unfold bestS; rw [if_neg (by simp [h2])]
  · refine .inr ⟨?_, fun h => absurd h h1⟩
    unfold bestS; rw [if_neg (by simp [h1])]

theorem best_mem (L : List Mem) : ∀ x m, best L x = some m → m ∈ L ∧ m.l.length = 1 ∧ kb m.i = x := by
  refine rev_ind (P := fun L => ∀ x m, best L x = some m → m ∈ L ∧ m.l.length = 1 ∧ kb m.i = x) ?_ ?_ L
  · intro x m h; cases h
  · intro l y ih x m h
    rw [best_snoc] at h
    rcases bestS_cases (best l) y x with ⟨h1, h2, h3, _⟩ | ⟨h1, _⟩
    · rw [h1] at h; cases h
      exact ⟨by simp, h2, h3.symm⟩
    · rw [h1] at h
      obtain ⟨a, b⟩ := ih x m h
      exact ⟨by simp [a], b⟩
theorem best_some (L : List Mem) : ∀ m ∈ L, m.l.length = 1 → ∃ o, best L (kb m.i) = some o := by
  refine rev_ind (P := fun L => ∀ m ∈ L, m.l.length = 1 → ∃ o, best L (kb m.i) = some o) ?_ ?_ L
  · intro m h; cases h
  · intro l y ih m hm h1
    rw [best_snoc]
    rcases bestS_cases (best l) y (kb m.i) with ⟨h2, _⟩ | ⟨h2, h3⟩
    · exact ⟨y, h2⟩
    · rw [h2]
      rcases List.mem_append.1 hm with hm | hm
      · exact ih m hm h1
      · obtain rfl : m = y := by simpa using hm
        obtain ⟨o, ho, _⟩ := h3 h1 rfl
        exact ⟨o, ho⟩
theorem best_some_iff (L : List Mem) (x : List UInt8) : (best L x).isSome = true ↔ ∃ m ∈ L, m.l.length = 1 ∧ kb m.i = x := by
  constructor
  · intro h
    obtain ⟨m, hm⟩ := Option.isSome_iff_exists.1 h
    obtain ⟨h1, h2, h3⟩ := best_mem L x m hm
    exact ⟨m, h1, h2, h3⟩
  · rintro ⟨m, h1, h2, rfl⟩
    obtain ⟨o, ho⟩ := best_some L m h1 h2
    rw [ho]; rfl

/-! ### rounds -/
theorem ahead_round {m o : Mem} (h : ahead m o = true) : m.r ≤ o.r := by
  unfold ahead aheadB at h
  simp only [decide_eq_true_eq] at h
  unfold orI cmpI at h
  by_cases h1 : m.r < o.r
  · omega
  · by_cases h2 : o.r < m.r
    · simp [h1, h2] at h
    · omega
theorem not_ahead_round {m o : Mem} (h : ahead m o = false) : o.r ≤ m.r := by
  unfold ahead aheadB at h
  simp only [decide_eq_false_iff_not] at h
  unfold orI cmpI at h
  by_cases h1 : m.r < o.r
  · simp [h1] at h
  · omega
theorem best_round (L : List Mem) : ∀ m ∈ L, m.l.length = 1 → ∀ o, best L (kb m.i) = some o → o.r ≤ m.r := by
  refine rev_ind (P := fun L => ∀ m ∈ L, m.l.length = 1 → ∀ o, best L (kb m.i) = some o → o.r ≤ m.r) ?_ ?_ L
  · intro m h; cases h
  · intro l y ih m hm h1 o ho
    rw [best_snoc] at ho
    rcases bestS_cases (best l) y (kb m.i) with ⟨h2, h3, h4, h5⟩ | ⟨h2, h3⟩
    · rw [h2] at ho; cases ho
      rcases List.mem_append.1 hm with hm | hm
      · obtain ⟨o', ho'⟩ := best_some l m hm h1
        have h6 := ih m hm h1 o' ho'
        have h7 := ahead_round (h5 o' ho')
        omega
      · obtain rfl : m = y := by simpa using hm
        omega
    · rw [h2] at ho
      rcases List.mem_append.1 hm with hm | hm
      · exact ih m hm h1 o ho
      · obtain rfl : m = y := by simpa using hm
        obtain ⟨o', ho', h6⟩ := h3 h1 rfl
        rw [ho] at ho'; cases ho'
        exact not_ahead_round h6

/-! ### the IDs -/
/-- ids are the IDs of L, ascending. -/
structure IsIds (L : List Mem) (ids : List ByteArray) : Prop where
  asc : AscS (ids.map kb)
  mem : ∀ x : ByteArray, x ∈ ids ↔ (best L (kb x)).isSome = true
theorem map_kb_inj : ∀ {l l' : List ByteArray}, l.map kb = l'.map kb → l = l'
  | [], [], _ => rfl
  | [], _ :: _, h => by simp at h
  | _ :: _, [], h => by simp at h
  | x :: s, y :: t, h => by
    simp only [List.map_cons, List.cons.injEq] at h
    rw [kb_inj h.1, map_kb_inj h.2]
theorem mem_kb {l : List ByteArray} {x : List UInt8} : x ∈ l.map kb ↔ bk x ∈ l := by
  constructor
  · intro h
    obtain ⟨y, hy, rfl⟩ := List.mem_map.1 h
    rwa [bk_kb]
  · intro h
    exact List.mem_map.2 ⟨_, h, kb_bk x⟩
theorem IsIds.unique {L L' : List Mem} {ids ids' : List ByteArray} (h : IsIds L ids) (h' : IsIds L' ids') (hL : ∀ x, (best L x).isSome = (best L' x).isSome) : ids = ids' := by
  refine map_kb_inj (AscS.ext h.asc h'.asc fun x => ?_)
  rw [mem_kb, mem_kb, h.mem, h'.mem, hL]
/-- The members to which those of L belong. -/
def own1 (L : List Mem) (ids : List ByteArray) : List Mem := ids.map fun x => ((best L (kb x)).getD Mem.zero).k
end Go.Proofs.YtmieegcgeolckaaGreatDoor
namespace Go.Proofs.YtmieegcgeolckaaGreatDoor
open Go.RowKit
set_option linter.unusedVariables false

/-- A comparison: what is equal, turned round, chained. -/
structure IsCmp {α : Type} (c : α → α → Int) : Prop where
  zero : ∀ x y, c x y = 0 → x = y
  turn : ∀ x y, c y x = - c x y
  trans : ∀ x y z, c x y < 0 → c y z < 0 → c x z < 0
theorem IsCmp.self {α : Type} {c : α → α → Int} (h : IsCmp c) (x : α) : c x x = 0 := by have := h.turn x x; omega

theorem cb_turn : ∀ a b : List UInt8, Lib.compareBytes b a = - Lib.compareBytes a b
  | [], [] => rfl
  | [], _ :: _ => rfl
  | _ :: _, [] => rfl
  | a :: s, b :: t => by
    have ih := cb_turn s t
    unfold Lib.compareBytes
    by_cases h1 : a < b
    · have h2 : ¬ b < a := fun h => UInt8.lt_asymm h1 h
      simp [h1, h2]
    · by_cases h2 : b < a
      · simp [h1, h2]
      · simp [h1, h2, ih]
theorem cb_trans : ∀ a b c : List UInt8, Lib.compareBytes a b < 0 → Lib.compareBytes b c < 0 → Lib.compareBytes a c < 0
  | [], [], _, h, _ => by simp [Lib.compareBytes] at h
  | [], _ :: _, [], _, h => by simp [Lib.compareBytes] at h
  | [], _ :: _, _ :: _, _, _ => by simp [Lib.compareBytes]
  | _ :: _, [], _, h, _ => by simp [Lib.compareBytes] at h
  | _ :: _, _ :: _, [], _, h => by simp [Lib.compareBytes] at h
  | a :: s, b :: t, c :: u, h, h' => by
    have ih := cb_trans s t u
    unfold Lib.compareBytes at h h' ⊢
    by_cases h1 : a < b
    · by_cases h2 : b < c
      · rw [if_pos (UInt8.lt_trans h1 h2)]; decide
      · rw [if_neg h2] at h'
        by_cases h3 : c < b
        · rw [if_pos h3] at h'; omega
        · have e : b = c := UInt8.le_antisymm (UInt8.not_lt.1 h3) (UInt8.not_lt.1 h2)
          subst e
          rw [if_pos h1]; decide
    · rw [if_neg h1] at h
      by_cases h3 : b < a
      · rw [if_pos h3] at h; omega
      · have e : a = b := UInt8.le_antisymm (UInt8.not_lt.1 h3) (UInt8.not_lt.1 h1)
        subst e
        rw [if_neg h3] at h
        by_cases h2 : a < c
        · rw [if_pos h2]; decide
        · rw [if_neg h2] at h' ⊢
          by_cases h4 : c < a
          · rw [if_pos h4] at h'; omega
          · rw [if_neg h4] at h' ⊢
            exact ih h h'
theorem cb_cmp : IsCmp Lib.compareBytes := ⟨compareBytes_zero, cb_turn, cb_trans⟩
theorem ba_ext' {x y : ByteArray} (h : x.data.toList = y.data.toList) : x = y := by
  cases x; cases y
  simp only at h
  congr 1
  exact Array.toList_inj.1 h
theorem cn_turn : ∀ a b : List ByteArray, cmpN b a = - cmpN a b
  | [], [] => rfl
  | [], _ :: _ => rfl
  | _ :: _, [] => rfl
  | a :: s, b :: t => by
    have ih := cn_turn s t
    unfold cmpN
    by_cases h1 : a = b
    · subst h1; simp [ih]
    · rw [if_neg h1, if_neg (Ne.symm h1)]; exact cb_turn _ _
theorem cn_trans : ∀ a b c : List ByteArray, cmpN a b < 0 → cmpN b c < 0 → cmpN a c < 0
  | [], [], _, h, _ => by simp [cmpN] at h
  | [], _ :: _, [], _, h => by simp [cmpN] at h
  | [], _ :: _, _ :: _, _, _ => by simp [cmpN]
  | _ :: _, [], _, h, _ => by simp [cmpN] at h
  | _ :: _, _ :: _, [], _, h => by simp [cmpN] at h
  | a :: s, b :: t, c :: u, h, h' => by
    have ih := cn_trans s t u
    unfold cmpN at h h' ⊢
    by_cases h1 : a = b
    · subst h1
      rw [if_pos rfl] at h
      by_cases h2 : a = c
      · subst h2
        rw [if_pos rfl] at h' ⊢
        exact ih h h'
      · rw [if_neg h2] at h' ⊢; exact h'
    · rw [if_neg h1] at h
      by_cases h2 : b = c
      · subst h2
        rw [if_neg h1]; exact h
      · rw [if_neg h2] at h'
        have h3 := cb_trans _ _ _ h h'
        by_cases h4 : a = c
        · subst h4
          have := cb_turn a.data.toList b.data.toList
          omega
        · rw [if_neg h4]; exact h3
theorem cn_cmp : IsCmp cmpN := ⟨cmpN_zero, cn_turn, cn_trans⟩

/-- The parts give the text back. -/
theorem spl_back (c : UInt8) : ∀ s : List UInt8, Lib.join (spl c s) [c] = s
  | [] => rfl
  | x :: t => by
    have ih := spl_back c t
    unfold spl
    split
    · rename_i e
      subst e
      rcases h : spl x t with _ | ⟨a, r⟩
      · exact absurd h (spl_ne _ _)
      · rw [h] at ih
        simp [Lib.join] at ih ⊢
        exact ih
    · rcases h : spl c t with _ | ⟨a, r⟩
      · exact absurd h (spl_ne _ _)
      · rw [h] at ih
        cases r with
        | nil => simp [Lib.join] at ih ⊢; exact ih
        | cons b r => simp [Lib.join] at ih ⊢; exact ih
theorem good_inj {s t : ByteArray} (hs : goodPath s = true) (ht : goodPath t = true) (h : sparts s = sparts t) : s = t := by
  unfold goodPath at hs ht
  simp only [Bool.and_eq_true] at hs ht
  have back : ∀ x : ByteArray, Lib.hasPrefix x.data.toList [47] = true → x.data.toList = 47 :: Lib.join ((sparts x).map fun y => y.data.toList) [47] := by
    intro x hx
    have e1 : (sparts x).map (fun y => y.data.toList) = spl 47 (Lib.trimPrefix x.data.toList [47]) := by
      unfold sparts
      rw [List.map_map]
      have : ((fun y : ByteArray => y.data.toList) ∘ fun x : List UInt8 => (⟨x.toArray⟩ : ByteArray)) = id := by funext z; simp
      rw [this, List.map_id]
    rw [e1, spl_back]
    unfold Lib.trimPrefix
    rw [if_pos hx]
    unfold Lib.hasPrefix at hx
    rcases hl : x.data.toList with _ | ⟨a, r⟩
    · rw [hl] at hx; simp at hx
    · rw [hl] at hx
      simp at hx
      simp [← hx]
  apply ba_ext'
  rw [back s hs.1, back t ht.1, h]
theorem path_cmp : IsCmp pathO := by
  refine ⟨fun s t h => ?_, fun s t => ?_, fun s t u h h' => ?_⟩
  · unfold pathO at h
    cases hs : goodPath s <;> cases ht : goodPath t <;> simp [hs, ht] at h
    · exact ba_ext' (compareBytes_zero _ _ h)
    · exact good_inj hs ht (cmpN_zero _ _ h)
  · unfold pathO
    cases hs : goodPath s <;> cases ht : goodPath t <;> simp
    · exact cb_turn _ _
    · exact cn_turn _ _
  · unfold pathO at h h' ⊢
    cases hs : goodPath s <;> cases ht : goodPath t <;> cases hu : goodPath u <;> simp [hs, ht, hu] at h h' ⊢
    · exact cb_trans _ _ _ h h'
    · exact cn_trans _ _ _ h h'
theorem ahead_iff (m o : Mem) : ahead m o = true ↔ m.r < o.r ∨ m.r = o.r ∧ pathO m.p o.p < 0 := by
  unfold ahead aheadB
  rw [decide_eq_true_iff]
  unfold orI cmpI
  by_cases h1 : m.r < o.r
  · simp [h1]
  · by_cases h2 : o.r < m.r
    · simp [h1, h2]; omega
    · have : m.r = o.r := by omega
      simp [this]
theorem ahead_asymm {m o : Mem} (h : ahead m o = true) : ahead o m = false := by
  cases h' : ahead o m with
  | false => rfl
  | true =>
    rw [ahead_iff] at h h'
    have := path_cmp.turn m.p o.p
    omega
theorem ahead_trans {m o q : Mem} (h : ahead m o = true) (h' : ahead o q = true) : ahead m q = true := by
  rw [ahead_iff] at h h' ⊢
  rcases h with h | ⟨h1, h2⟩
  · left; omega
  · rcases h' with h' | ⟨h3, h4⟩
    · left; omega
    · exact .inr ⟨by omega, path_cmp.trans _ _ _ h2 h4⟩
theorem ahead_total {m o : Mem} (h : m.p ≠ o.p) (h' : ahead m o = false) : ahead o m = true := by
  have h1 : ¬ (ahead m o = true) := by rw [h']; decide
  rw [ahead_iff] at h1 ⊢
  have h2 := path_cmp.turn m.p o.p
  have h3 : pathO m.p o.p ≠ 0 := fun e => h (path_cmp.zero _ _ e)
  omega
/-- In a list of different paths no other member of the ID comes ahead of the best. -/
theorem best_least (L : List Mem) : L.Pairwise (fun m o => m.p ≠ o.p) → ∀ m ∈ L, m.l.length = 1 → ∀ o, best L (kb m.i) = some o → m = o ∨ ahead o m = true := by
  refine rev_ind (P := fun L => L.Pairwise (fun m o => m.p ≠ o.p) → ∀ m ∈ L, m.l.length = 1 → ∀ o, best L (kb m.i) = some o → m = o ∨ ahead o m = true) ?_ ?_ L
  · intro _ m h; cases h
  · intro l y ih hp m hm h1 o ho
    obtain ⟨hp1, _, hp2⟩ := List.pairwise_append.1 hp
    rw [best_snoc] at ho
    rcases bestS_cases (best l) y (kb m.i) with ⟨h2, h3, h4, h5⟩ | ⟨h2, h3⟩
    · rw [h2] at ho; cases ho
      rcases List.mem_append.1 hm with hm | hm
      · obtain ⟨o', ho'⟩ := best_some l m hm h1
        right
        rcases ih hp1 m hm h1 o' ho' with rfl | h6
        · exact h5 _ ho'
        · exact ahead_trans (h5 o' ho') h6
      · exact .inl (by simpa using hm)
    · rw [h2] at ho
      rcases List.mem_append.1 hm with hm | hm
      · exact ih hp1 m hm h1 o ho
      · obtain rfl : m = y := by simpa using hm
        obtain ⟨o', ho', h6⟩ := h3 h1 rfl
        rw [ho] at ho'; cases ho'
        exact .inr (ahead_total (Ne.symm (hp2 o (best_mem l _ o ho).1 m (by simp))) h6)
theorem best_order {L L' : List Mem} (hp : L.Pairwise (fun m o => m.p ≠ o.p)) (hp' : L'.Pairwise (fun m o => m.p ≠ o.p)) (h : ∀ m, m ∈ L ↔ m ∈ L') (x : List UInt8) : best L x = best L' x := by
  rcases h1 : best L x with _ | o
  · rcases h2 : best L' x with _ | o'
    · rfl
    · exfalso
      obtain ⟨a, b, c⟩ := best_mem L' x o' h2
      obtain ⟨z, hz⟩ := best_some L o' ((h o').2 a) b
      rw [c, h1] at hz; cases hz
  · obtain ⟨a, b, c⟩ := best_mem L x o h1
    obtain ⟨o', ho'⟩ := best_some L' o ((h o).1 a) b
    rw [c] at ho'
    rw [ho']
    obtain ⟨a', b', c'⟩ := best_mem L' x o' ho'
    rcases best_least L' hp' o ((h o).1 a) b o' (by rw [c]; exact ho') with e | h3
    · rw [e]
    · rcases best_least L hp o' ((h o').2 a') b' o (by rw [c']; exact h1) with e | h4
      · rw [e]
      · rw [ahead_asymm h3] at h4; cases h4
end Go.Proofs.YtmieegcgeolckaaGreatDoor
namespace Go.Proofs.YtmieegcgeolckaaGreatDoor
open Go.RowKit
set_option linter.unusedVariables false

def best2S (good : Mem → Bool) (g : ByteArray × Int → Option Mem) (m : Mem) : ByteArray × Int → Option Mem := fun x =>
  if (good m && decide (x = (m.i, m.s)) && (match g x with | none => true | some o => ahead m o)) = true then some m else g x
/-- The best member of each place. -/
def best2 (good : Mem → Bool) (L : List Mem) : ByteArray × Int → Option Mem := L.foldl (best2S good) fun _ => none
section
variable {good : Mem → Bool}
theorem best2_snoc (L : List Mem) (m : Mem) : best2 good (L ++ [m]) = best2S good (best2 good L) m := by simp [best2, List.foldl_append]
theorem best2S_cases (g : ByteArray × Int → Option Mem) (m : Mem) (x : ByteArray × Int) : (best2S good g m x = some m ∧ good m = true ∧ x = (m.i, m.s) ∧ ∀ o, g x = some o → ahead m o = true) ∨ (best2S good g m x = g x ∧ (good m = true → x = (m.i, m.s) → ∃ o, g x = some o ∧ ahead m o = false)) := by
  by_cases h1 : good m = true
  · by_cases h2 : x = (m.i, m.s)
    · rcases hg : g x with _ | o
      · refine .inl ⟨?_, h1, h2, fun o ho => by cases ho⟩
        unfold best2S; rw [hg]; simp [h1, h2]
      · cases ha : ahead m o with
        | true =>
          refine .inl ⟨?_, h1, h2, fun o' ho => by cases ho; exact ha⟩
          unfold best2S; rw [hg]; simp [h1, h2, ha]
        | false =>
          refine .inr ⟨?_, fun _ _ => ⟨o, rfl, ha⟩⟩
          unfold best2S; rw [hg]; simp [ha]
    · refine .inr ⟨?_, fun _ h => absurd h h2⟩
      unfold best2S; rw [if_neg (by simp [h2])]
  · refine .inr ⟨?_, fun h => absurd h h1⟩
    unfold best2S; rw [if_neg (by simp [h1])]
theorem best2S_skip {g : ByteArray × Int → Option Mem} {m : Mem} (h : good m = false) : best2S good g m = g := by
  funext x; unfold best2S; rw [if_neg (by simp [h])]
theorem best2S_keep {g : ByteArray × Int → Option Mem} {m o : Mem} (hg : g (m.i, m.s) = some o) (h : ahead m o = false) : best2S good g m = g := by
  funext x; unfold best2S
  by_cases e : x = (m.i, m.s)
  · subst e; rw [hg]; simp [h]
  · rw [if_neg (by simp [e])]
theorem best2S_take {g : ByteArray × Int → Option Mem} {m : Mem} (h1 : good m = true) (h : ∀ o, g (m.i, m.s) = some o → ahead m o = true) : best2S good g m = fun x => if x = (m.i, m.s) then some m else g x := by
  funext x; unfold best2S
  by_cases e : x = (m.i, m.s)
  · subst e
    rw [if_pos rfl]
    rcases hg : g (m.i, m.s) with _ | o
    · simp [h1]
    · simp [h1, h o hg]
  · rw [if_neg (by simp [e]), if_neg e]
theorem best2_mem (L : List Mem) : ∀ x m, best2 good L x = some m → m ∈ L ∧ good m = true ∧ (m.i, m.s) = x := by
  refine rev_ind (P := fun L => ∀ x m, best2 good L x = some m → m ∈ L ∧ good m = true ∧ (m.i, m.s) = x) ?_ ?_ L
  · intro x m h; cases h
  · intro l y ih x m h
    rw [best2_snoc] at h
    rcases best2S_cases (best2 good l) y x with ⟨h1, h2, h3, _⟩ | ⟨h1, _⟩
    · rw [h1] at h; cases h
      exact ⟨by simp, h2, h3.symm⟩
    · rw [h1] at h
      obtain ⟨a, b⟩ := ih x m h
      exact ⟨by simp [a], b⟩
theorem best2_some (L : List Mem) : ∀ m ∈ L, good m = true → ∃ o, best2 good L (m.i, m.s) = some o := by
  refine rev_ind (P := fun L => ∀ m ∈ L, good m = true → ∃ o, best2 good L (m.i, m.s) = some o) ?_ ?_ L
  · intro m h; cases h
  · intro l y ih m hm h1
    rw [best2_snoc]
    rcases best2S_cases (best2 good l) y (m.i, m.s) with ⟨h2, _⟩ | ⟨h2, h3⟩
    · exact ⟨y, h2⟩
    · rw [h2]
      rcases List.mem_append.1 hm with hm | hm
      · exact ih m hm h1
      · obtain rfl : m = y := by simpa using hm
        obtain ⟨o, ho, _⟩ := h3 h1 rfl
        exact ⟨o, ho⟩
theorem best2_least (L : List Mem) : L.Pairwise (fun m o => m.p ≠ o.p) → ∀ m ∈ L, good m = true → ∀ o, best2 good L (m.i, m.s) = some o → m = o ∨ ahead o m = true := by
  refine rev_ind (P := fun L => L.Pairwise (fun m o => m.p ≠ o.p) → ∀ m ∈ L, good m = true → ∀ o, best2 good L (m.i, m.s) = some o → m = o ∨ ahead o m = true) ?_ ?_ L
  · intro _ m h; cases h
  · intro l y ih hp m hm h1 o ho
    obtain ⟨hp1, _, hp2⟩ := List.pairwise_append.1 hp
    rw [best2_snoc] at ho
    rcases best2S_cases (best2 good l) y (m.i, m.s) with ⟨h2, h3, h4, h5⟩ | ⟨h2, h3⟩
    · rw [h2] at ho; cases ho
      rcases List.mem_append.1 hm with hm | hm
      · obtain ⟨o', ho'⟩ := best2_some l m hm h1
        right
        rcases ih hp1 m hm h1 o' ho' with rfl | h6
        · exact h5 _ ho'
        · exact ahead_trans (h5 o' ho') h6
      · exact .inl (by simpa using hm)
    · rw [h2] at ho
      rcases List.mem_append.1 hm with hm | hm
      · exact ih hp1 m hm h1 o ho
      · obtain rfl : m = y := by simpa using hm
        obtain ⟨o', ho', h6⟩ := h3 h1 rfl
        rw [ho] at ho'; cases ho'
        exact .inr (ahead_total (Ne.symm (hp2 o (best2_mem l _ o ho).1 m (by simp))) h6)
theorem best2_order {L L' : List Mem} (hp : L.Pairwise (fun m o => m.p ≠ o.p)) (hp' : L'.Pairwise (fun m o => m.p ≠ o.p)) (h : ∀ m, m ∈ L ↔ m ∈ L') (x : ByteArray × Int) : best2 good L x = best2 good L' x := by
  rcases h1 : best2 good L x with _ | o
  · rcases h2 : best2 good L' x with _ | o'
    · rfl
    · exfalso
      obtain ⟨a, b, c⟩ := best2_mem L' x o' h2
      obtain ⟨z, hz⟩ := best2_some L o' ((h o').2 a) b
      rw [c, h1] at hz; cases hz
  · obtain ⟨a, b, c⟩ := best2_mem L x o h1
    obtain ⟨o', ho'⟩ := best2_some L' o ((h o).1 a) b
    rw [c] at ho'
    rw [ho']
    obtain ⟨a', b', c'⟩ := best2_mem L' x o' ho'
    rcases best2_least L' hp' o ((h o).1 a) b o' (by rw [c]; exact ho') with e | h3
    · rw [e]
    · rcases best2_least L hp o' ((h o').2 a') b' o (by rw [c']; exact h1) with e | h4
      · rw [e]
      · rw [ahead_asymm h3] at h4; cases h4
end

/-- A member has a path, and a slot and a total that may be. -/
def soundB (m : Mem) : Bool := !m.p.toList.isEmpty && (decide (1 ≤ m.s) && decide (m.s ≤ 16)) && (decide (1 ≤ m.t) && decide (m.t ≤ 16))

/-- An array: its ID, paths, total, least, count, inner texts. -/
structure Arr where
  i : ByteArray
  ps : List ByteArray
  t : Int
  e : Int
  n : Int
  l : List ByteArray
/-- The least slot of an ID. -/
def leastSlot (b : ByteArray × Int → Option Mem) (id : ByteArray) : Int := (((List.range 16).find? fun (k : Nat) => (b (id, (k : Int) + 1)).isSome).getD 0 : Nat) + 1
def firstOf (b : ByteArray × Int → Option Mem) (id : ByteArray) : Mem := (b (id, leastSlot b id)).getD Mem.zero
def pathAt (b : ByteArray × Int → Option Mem) (id : ByteArray) (k : Nat) : ByteArray := match b (id, (k : Int) + 1) with | some m => m.p | none => ⟨#[]⟩
/-- The array of an ID. -/
def buildA (b : ByteArray × Int → Option Mem) (id : ByteArray) : Arr :=
  ⟨id, (List.range (firstOf b id).t.toNat).map (pathAt b id), (firstOf b id).t, (firstOf b id).e, ((List.range (firstOf b id).t.toNat).filter fun (k : Nat) => (b (id, (k : Int) + 1)).isSome).length, (firstOf b id).l⟩
/-- ids are the IDs, ascending. -/
structure IsIds2 (b : ByteArray × Int → Option Mem) (ids : List ByteArray) : Prop where
  asc : AscS (ids.map kb)
  mem : ∀ x : ByteArray, x ∈ ids ↔ ∃ s : Int, (b (x, s)).isSome = true
theorem IsIds2.unique {b : ByteArray × Int → Option Mem} {ids ids' : List ByteArray} (h : IsIds2 b ids) (h' : IsIds2 b ids') : ids = ids' := by
  refine map_kb_inj (AscS.ext h.asc h'.asc fun x => ?_)
  rw [mem_kb, mem_kb, h.mem, h'.mem]
/-- The slots of an ID: each once. -/
structure IsSlots (b : ByteArray × Int → Option Mem) (id : ByteArray) (zs : List Int) : Prop where
  nodup : zs.Nodup
  mem : ∀ s : Int, s ∈ zs ↔ (b (id, s)).isSome = true
theorem leastSlot_min {b : ByteArray × Int → Option Mem} {id : ByteArray} {zs : List Int} (h : IsSlots b id zs) (hr : ∀ s ∈ zs, 1 ≤ s ∧ s ≤ 16) {m : Int} (hm : m ∈ zs) (hmin : ∀ s ∈ zs, m ≤ s) : leastSlot b id = m := by
  unfold leastSlot
  obtain ⟨h1, h2⟩ := hr m hm
  obtain ⟨k, rfl⟩ : ∃ k : Nat, m = (k : Int) + 1 := ⟨(m - 1).toNat, by omega⟩
  have hf : (List.range 16).find? (fun (k : Nat) => (b (id, (k : Int) + 1)).isSome) = some k := by
    rw [List.find?_range_eq_some]
    refine ⟨(h.mem _).1 hm, List.mem_range.2 (by omega), fun j hj => ?_⟩
    cases hb : (b (id, (j : Int) + 1)).isSome with
    | false => rfl
    | true =>
      have := hmin _ ((h.mem _).2 hb)
      omega
  rw [hf]; rfl
/-- The paths, when the slots zs have been seen. -/
def psJ (b : ByteArray × Int → Option Mem) (id : ByteArray) (T : Nat) (zs : List Int) : List ByteArray := (List.range T).map fun (k : Nat) => if ((k : Int) + 1) ∈ zs then pathAt b id k else ⟨#[]⟩
def cntJ (T : Int) (zs : List Int) : Nat := (zs.filter fun s => decide (s ≤ T)).length
theorem psJ_len (b : ByteArray × Int → Option Mem) (id : ByteArray) (T : Nat) (zs : List Int) : (psJ b id T zs).length = T := by simp [psJ]
theorem psJ_nil (b : ByteArray × Int → Option Mem) (id : ByteArray) (T : Nat) : psJ b id T [] = List.replicate T ⟨#[]⟩ := by
  unfold psJ
  simp only [List.not_mem_nil, if_false]
  rw [List.map_const', List.length_range]
theorem psJ_put (b : ByteArray × Int → Option Mem) (id : ByteArray) (T : Nat) (zs : List Int) (k : Nat) (hk : k < T) : psJ b id T (zs ++ [(k : Int) + 1]) = (psJ b id T zs).set k (pathAt b id k) := by
  apply List.ext_getElem?
  intro j
  rw [List.getElem?_set]
  unfold psJ
  by_cases hj : j < T
  · simp only [List.getElem?_map, List.getElem?_range hj, Option.map_some, List.length_map, List.length_range]
    by_cases e : k = j
    · subst e
      simp [hj]
    · have : ((j : Int) + 1 ∈ zs ++ [(k : Int) + 1]) ↔ (j : Int) + 1 ∈ zs := by
        simp; omega
      simp only [this, if_neg e]
  · have h1 : (List.range T)[j]? = none := List.getElem?_eq_none (by simp; omega)
    rw [List.getElem?_map, List.getElem?_map, h1]
    have e : k ≠ j := by omega
    simp [e]
theorem psJ_skip (b : ByteArray × Int → Option Mem) (id : ByteArray) (T : Nat) (zs : List Int) (s : Int) (hs : ¬ s ≤ T) : psJ b id T (zs ++ [s]) = psJ b id T zs := by
  unfold psJ
  refine List.map_congr_left (fun k hk => ?_)
  have hk' := List.mem_range.1 hk
  have : ((k : Int) + 1 ∈ zs ++ [s]) ↔ (k : Int) + 1 ∈ zs := by simp; omega
  simp only [this]
theorem psJ_full {b : ByteArray × Int → Option Mem} {id : ByteArray} {zs : List Int} (h : IsSlots b id zs) (T : Nat) : psJ b id T zs = (List.range T).map (pathAt b id) := by
  unfold psJ
  refine List.map_congr_left (fun k _ => ?_)
  split
  · rfl
  · rename_i hn
    rw [h.mem] at hn
    unfold pathAt
    rcases hb : b (id, (k : Int) + 1) with _ | m
    · rfl
    · rw [hb] at hn; simp at hn
theorem cntJ_full {b : ByteArray × Int → Option Mem} {id : ByteArray} {zs : List Int} (h : IsSlots b id zs) (hr : ∀ s ∈ zs, 1 ≤ s) (T : Nat) : cntJ T zs = ((List.range T).filter fun (k : Nat) => (b (id, (k : Int) + 1)).isSome).length := by
  unfold cntJ
  have hp : (zs.filter fun s => decide (s ≤ (T : Int))).Perm (((List.range T).filter fun (k : Nat) => (b (id, (k : Int) + 1)).isSome).map fun k : Nat => (k : Int) + 1) := by
    rw [List.perm_ext_iff_of_nodup]
    · intro s
      simp only [List.mem_filter, List.mem_map, List.mem_range, decide_eq_true_eq]
      constructor
      · rintro ⟨h1, h2⟩
        have h3 := hr s h1
        refine ⟨(s - 1).toNat, ⟨by omega, ?_⟩, by omega⟩
        rw [show (((s - 1).toNat : Nat) : Int) + 1 = s by omega]
        exact (h.mem s).1 h1
      · rintro ⟨k, ⟨h1, h2⟩, rfl⟩
        exact ⟨(h.mem _).2 h2, by omega⟩
    · exact h.nodup.sublist List.filter_sublist
    · refine List.pairwise_map.2 ((List.nodup_range.sublist List.filter_sublist).imp (fun {a b} hab e => hab (by omega)))
  rw [hp.length_eq, List.length_map]
theorem cntJ_snoc (T : Int) (zs : List Int) (s : Int) : cntJ T (zs ++ [s]) = cntJ T zs + (if s ≤ T then 1 else 0) := by
  unfold cntJ
  rw [List.filter_append, List.length_append]
  congr 1
  by_cases h : s ≤ T <;> simp [h]
theorem cntJ_le (T : Int) (zs : List Int) : cntJ T zs ≤ zs.length := List.length_filter_le _ _
end Go.Proofs.YtmieegcgeolckaaGreatDoor
namespace Go.Proofs.YtmieegcgeolckaaGreatDoor
open Go.RowKit Go.Maps Go.Sort Go.Shelf
set_option linter.unusedVariables false

set_option maxRecDepth 100000 in
set_option maxHeartbeats 1000000 in
theorem sl_min (a : Option Addr) (cap : Nat) (l : List Int) (w : World) (hl : Ints w a cap l) (hne : 1 ≤ l.length) :
    Calls Tryz.prog 95 #[.slice a l.length cap] w fun e w' => (∃ m, e = .returned (.int .i64 m) ∧ m ∈ l ∧ ∀ x ∈ l, m ≤ x) ∧ w = w' := by
  have hn : ¬ (l.length : Int) < 1 := by omega
  have hm := hl.lenmax
  have hn0 : (0 : Int) < l.length := by omega
  obtain ⟨b, off, x0, rfl, hx0, hc0⟩ := hl.at (k := 0) (by omega)
  rw [Nat.add_zero] at hc0
  have Hx0 := Lib.hid hx0
  clear hx0
  go_enter Tryz.func95, Tryz.ntmps95
  go_wp2_with fail
  go_loop [3, 4] (fun v i => ∃ (k : Nat) (m : Int), 1 ≤ k ∧ k ≤ l.length ∧ v = .int .i64 m ∧ i = .int .i64 (k : Int) ∧ Hid (m ∈ l.take k ∧ ∀ x ∈ l.take k, m ≤ x)) (fun _ i => l.length - (intOf i).toNat)
  case atStart => 
    refine ⟨1, x0, by omega, hne, rfl, rfl, ?_⟩
    unfold Hid
    have : l.take 1 = [x0] := by rw [List.take_add_one, Hx0.out]; rfl
    rw [this]; simp
  case round =>
    obtain ⟨k, m, hk1, hk, rfl, rfl, Hm⟩ := hrel
    by_cases hlt : k < l.length
    · have hlt' : (k : Int) < l.length := by omega
      obtain ⟨b', off', x, e, hx, hc⟩ := hl.at hlt
      cases e
      have Htk : Hid (l.take (k + 1) = l.take k ++ [x]) := by unfold Hid; rw [List.take_add_one, hx]; rfl
      clear hx
      by_cases hmx : m ≤ x
      · have hmin : min m x = m := by omega
        go_wp2_with fail
        go_round
        case rel =>
          refine ⟨k + 1, m, by omega, by omega, by first | rfl | (rw [if_pos hmx]), by go_num, ?_⟩
          unfold Hid
          rw [Htk.out]
          obtain ⟨h1, h2⟩ := Hm.out
          refine ⟨by simp [h1], fun y hy => ?_⟩
          rcases List.mem_append.1 hy with h | h
          · exact h2 y h
          · obtain rfl : y = x := by simpa using h
            exact hmx
        case measure => simp [intOf]; omega
      · have hmin : min m x = x := by omega
        go_wp2_with fail
        go_round
        case rel =>
          refine ⟨k + 1, x, by omega, by omega, by first | rfl | (rw [if_neg hmx]), by go_num, ?_⟩
          unfold Hid
          rw [Htk.out]
          obtain ⟨h1, h2⟩ := Hm.out
          refine ⟨by simp, fun y hy => ?_⟩
          rcases List.mem_append.1 hy with h | h
          · have := h2 y h; omega
          · obtain rfl : y = x := by simpa using h
            omega
        case measure => simp [intOf]; omega
    · obtain rfl : k = l.length := by omega
      have h := Hm.out
      rw [List.take_length] at h
      have Hr := Lib.hid h
      clear h Hm
      go_wp2_with fail
      go_ret
      exact ⟨⟨m, rfl, Hr.out.1, Hr.out.2⟩, rfl⟩

set_option maxHeartbeats 1000000 in
theorem tb_keys (mb : Option Nat) (w : World) : Calls Tryz.prog 126 #[.map mb] w fun e w' => e = .returned (.func (.func 167) #[] #[.pointer (some ⟨w.heap.size, 0, none⟩)]) ∧ w' = w.alloc (.cells #[.map mb] 132) :=
  (callsIn_wide (n := 5)).1 (AnyZ.keys_in Tryz.keysT Fence.wide 5 trivial rfl mb w)

set_option maxHeartbeats 1000000 in
theorem tb_sorted (mb Bm base : Nat) (f : List UInt8 → List Int) (N : Nat) (w : World) (hs : GMap w base mb f N) (hN : N ≤ 1099511627776) (hB : w.cell? ⟨Bm, 0, none⟩ = some (.map (some mb))) (hBl : Bm < w.heap.size) :
    Calls Tryz.prog 51 #[.func (.func 167) #[] #[.pointer (some ⟨Bm, 0, none⟩)]] w fun e w' =>
      (∃ a cap ids, e = .returned (.slice a ids.length cap) ∧ Strs w' a cap ids ∧ AscS (ids.map kb) ∧ (∀ x : ByteArray, x ∈ ids ↔ (f (kb x)) ≠ []) ∧ ids.length ≤ N ∧ ∀ ad, a = some ad → w.heap.size ≤ ad.block) ∧ Fr No w w' := by
  obtain ⟨D, n, hn, hg, _, hf⟩ := hs
  obtain ⟨es, clock, hbk, Ft, hes, hD, _⟩ := hg
  have hown : w.ownsMap Tryz.prog 9 (rowElem w base 3 .i64) mb n D := ⟨es, clock, hbk, Ft, hes, hD⟩
  clear hbk Ft hes hD
  have hsz := hown.size_le
  have hmax : Maps.size D ≤ maxLen := by unfold maxLen; omega
  have hbytes : Maps.size D * 16 ≤ 140737488355328 := by omega
  have hmem := mem_strKeys hown Tryz.underlying9
  have hnd := nodup_strKeys hown lawS Tryz.underlying9
  have hlen := strKeys_len D
  have hseq : SeqGives Fence.wide 2 Tryz.prog 167 #[.pointer (some ⟨Bm, 0, none⟩)] encStr (fun ss => ss.Perm (strKeys D)) (Maps.size D) w :=
    AnyZ.keys_gives (ρ := Tryz.keysT_ren) { Tryz.keysT with } Fence.wide _ trivial rfl (by omega) Bm mb n D _ hBl hB hown
  have cS := AnyZ.sorted_in Tryz.sortedS Fence.wide 5 trivial trivial trivial trivial rfl (by omega) (sortsS _) (enters_of Tryz.func75 (by kernel_rfl) rfl) 167 #[.pointer (some ⟨Bm, 0, none⟩)] trivial (enters_of Tryz.func167 (by kernel_rfl) rfl) _ _ hmax hbytes _ hseq
  refine ((callsIn_wide (n := 5)).1 cS).mono ?_
  rintro e w' ⟨v, ss, rfl, hperm, hrow, _, hb⟩
  have hp : (ss.mergeSort (fun x y => decide (x ≤ y))).Perm (strKeys D) := (List.mergeSort_perm ss _).trans hperm
  obtain ⟨L, hL⟩ : ∃ L, L = (ss.mergeSort (fun x y => decide (x ≤ y))) := ⟨_, rfl⟩
  have hl : (L.map bk).length = ss.length := by rw [hL]; simp
  have e1 : L.map encStr = (L.map bk).map Value.string := by rw [List.map_map]; rfl
  rw [← hL] at hp hrow
  rw [← hl, e1] at hrow
  obtain ⟨a, cap, rfl, h1, h2⟩ := Strs.of_own hrow
  have e2 : (L.map bk).map kb = L := by
    rw [List.map_map]
    have : kb ∘ bk = id := by funext x; exact kb_bk x
    rw [this, List.map_id]
  refine ⟨⟨a, cap, L.map bk, rfl, h1, ?_, fun x => ?_, ?_, h2⟩, Fr.of_below_size hb⟩
  · rw [e2, hL]; exact ascS_sorted (hperm.nodup_iff.2 hnd)
  · have hfx : f (kb x) ≠ [] ↔ has D (.string (kb x)) = true := by rw [hf]; cases f (kb x) <;> simp
    rw [hfx, ← hmem, ← hp.mem_iff]
    constructor
    · intro h
      obtain ⟨y, hy, rfl⟩ := List.mem_map.1 h
      rwa [kb_bk]
    · intro h
      exact List.mem_map.2 ⟨_, h, bk_kb x⟩
  · rw [List.length_map, hp.length_eq]; omega

set_option maxHeartbeats 1000000 in
theorem table_keys (mb base : Nat) (f : List UInt8 → List Int) (N : Nat) (w : World) (hs : GMap w base mb f N) (hN : N ≤ 1099511627776) :
    Calls Tryz.prog 94 #[.map (some mb)] w fun e w' =>
      (∃ a cap ids, e = .returned (.slice a ids.length cap) ∧ Strs w' a cap ids ∧ AscS (ids.map kb) ∧ (∀ x : ByteArray, x ∈ ids ↔ (f (kb x)) ≠ []) ∧ ids.length ≤ N ∧ ∀ ad, a = some ad → w.heap.size ≤ ad.block) ∧ Fr No w w' := by
  have hmb : mb < w.heap.size := hs.lt
  have hx : Fr No w (w.alloc (.cells #[.map (some mb)] 132)) := (Fr.refl _ _).alloc _
  have hs1 : GMap (w.alloc (.cells #[.map (some mb)] 132)) base mb f N := hs.grown (World.grownBy_alloc w _ none) (by simp) (fun j hj => by cases hj)
  have q1 := block_alloc w (.cells #[.map (some mb)] 132)
  have hsz : w.heap.size < (w.alloc (.cells #[.map (some mb)] 132)).heap.size := by simp
  go_enter Tryz.func94, Tryz.ntmps94
  go_wp2_with fail
  refine (tb_keys _ _).mono ?_
  rintro en w1 ⟨rfl, rfl⟩
  go_wp2_with fail
  generalize w.alloc (.cells #[.map (some mb)] 132) = W1 at *
  refine (tb_sorted mb w.heap.size base f N W1 hs1 hN (cell_of_block q1 0) hsz).mono ?_
  rintro en w2 ⟨⟨ia, ic, ids, rfl, hS, hasc, hmem, hln, hfresh⟩, hf2⟩
  have H := Lib.hid (And.intro hS (And.intro hasc (And.intro hmem (And.intro hfresh (hx.step hf2 (fun _ _ h => h))))))
  clear hS hasc hmem hfresh hf2 hs1 q1 hx
  go_wp2_with fail
  go_ret
  exact ⟨⟨ia, ic, ids, rfl, H.out.1, H.out.2.1, H.out.2.2.1, hln, fun ad e => by have := H.out.2.2.2.1 ad e; omega⟩, H.out.2.2.2.2⟩
end Go.Proofs.YtmieegcgeolckaaGreatDoor
