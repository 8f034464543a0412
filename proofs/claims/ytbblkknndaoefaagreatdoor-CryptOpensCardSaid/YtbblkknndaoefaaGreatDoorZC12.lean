/- A valid content's text is parsed as this content. Plain. How many contents a text holds. Plain. The words of a parsed content are short. Plain. The texts of contents as the program writes them. Plain. -/
import Derived.Test.YtbblkknndaoefaaGreatDoorZC11
import Derived.Lib.Join
namespace Go.Proofs.YtbblkknndaoefaaGreatDoor
open Go
set_option linter.unusedVariables false

theorem upto_stop {ends : List UInt8} : ∀ {w : List UInt8} {b : UInt8} {t : List UInt8}, (∀ x ∈ w, ends.contains x = false) → ends.contains b = true → upto ends (w ++ b :: t) = w ∧ past ends (w ++ b :: t) = b :: t
  | [], b, t, _, hb => by
    simp only [upto, past, List.nil_append, List.takeWhile_cons, List.dropWhile_cons, hb]
    simp
  | x :: w, b, t, hw, hb => by
    have hx := hw x (by simp)
    have ih := upto_stop (w := w) (b := b) (t := t) (fun y hy => hw y (by simp [hy])) hb
    simp only [upto, past, List.cons_append, List.takeWhile_cons, List.dropWhile_cons, hx, Bool.not_false, if_true] at ih ⊢
    rw [ih.1, ih.2]
    exact ⟨rfl, rfl⟩
theorem upto_end {ends : List UInt8} : ∀ {w : List UInt8}, (∀ x ∈ w, ends.contains x = false) → upto ends w = w ∧ past ends w = []
  | [], _ => ⟨rfl, rfl⟩
  | x :: w, hw => by
    have hx := hw x (by simp)
    have ih := upto_end (w := w) (fun y hy => hw y (by simp [hy]))
    simp only [upto, past, List.takeWhile_cons, List.dropWhile_cons, hx, Bool.not_false, if_true] at ih ⊢
    rw [ih.1, ih.2]
    exact ⟨rfl, rfl⟩
theorem skip1_at (b : UInt8) (t : List UInt8) : skip1 b (b :: t) = some t := by simp [skip1]

theorem dec_small (k : Nat) (h1 : 1 ≤ k) (h2 : k ≤ 16) : Lib.decDigits k = if k < 10 then [UInt8.ofNat (48 + k)] else [49, UInt8.ofNat (48 + k % 10)] := by
  rw [Lib.decDigits]
  by_cases h : k < 10
  · rw [dif_pos h, if_pos h]
  · rw [dif_neg h, if_neg h, Lib.decDigits, dif_pos (by omega)]
    have : k / 10 = 1 := by omega
    rw [this]
    rfl
theorem pNum_ok (v : Int) (h1 : 1 ≤ v) (h2 : v ≤ 16) (b : UInt8) (t : List UInt8) (hb : ([47, 40, 44, 41, 58] : List UInt8).contains b = true) : pNum (Lib.itoa v ++ b :: t) = some (v, b :: t) := by
  obtain ⟨k, rfl⟩ := Int.eq_ofNat_of_zero_le (show 0 ≤ v by omega)
  have hd := dec_small k (by omega) (by omega)
  have hi : Lib.itoa (k : Int) = Lib.decDigits k := by unfold Lib.itoa; rw [if_neg (by omega)]; simp
  have key : (∀ x ∈ Lib.itoa (k : Int), ([47, 40, 44, 41, 58] : List UInt8).contains x = false) ∧ Lib.atoiAll (Lib.itoa (k : Int)) = .ok (k : Int) := by
    rw [hi, hd]
    rcases (by omega : k = 1 ∨ k = 2 ∨ k = 3 ∨ k = 4 ∨ k = 5 ∨ k = 6 ∨ k = 7 ∨ k = 8 ∨ k = 9 ∨ k = 10 ∨ k = 11 ∨ k = 12 ∨ k = 13 ∨ k = 14 ∨ k = 15 ∨ k = 16) with rfl | rfl | rfl | rfl | rfl | rfl | rfl | rfl | rfl | rfl | rfl | rfl | rfl | rfl | rfl | rfl <;> exact ⟨by decide, rfl⟩
  obtain ⟨e1, e2⟩ := upto_stop (t := t) key.1 hb
  unfold pNum
  rw [e1, e2, key.2]
  simp

theorem id_stop {s : ByteArray} (h : isId s = true) : ∀ x ∈ bl s, x ≠ 58 ∧ x ≠ 40 ∧ x ≠ 44 ∧ x ≠ 41 ∧ x ≠ 47 := by
  unfold isId at h
  simp only [Bool.and_eq_true, List.all_eq_true] at h
  intro x hx
  have h1 := h.2 x hx
  refine ⟨?_, ?_, ?_, ?_, ?_⟩ <;> (rintro rfl; revert h1; decide)
theorem stop_id {s : ByteArray} (h : isId s = true) : ∀ x ∈ bl s, ([58, 40, 44, 41] : List UInt8).contains x = false := by
  intro x hx
  obtain ⟨h1, h2, h3, h4, h5⟩ := id_stop h x hx
  simp [h1, h2, h3, h4]
theorem stop_label {s : ByteArray} (h : ((bl s).isEmpty || isId s) = true) : ∀ x ∈ bl s, ([44, 41] : List UInt8).contains x = false := by
  intro x hx
  rw [Bool.or_eq_true] at h
  rcases h with h | h
  · rw [List.isEmpty_iff] at h; rw [h] at hx; simp at hx
  · obtain ⟨h1, h2, h3, h4, h5⟩ := id_stop h x hx
    simp [h3, h4]
theorem ba_empty {s : ByteArray} (h : (bl s).isEmpty = true) : s = ⟨#[]⟩ := by
  rw [List.isEmpty_iff] at h
  apply ByteArray.ext
  apply Array.ext'
  simpa [bl] using h
theorem mk_bl (s : ByteArray) : (⟨(bl s).toArray⟩ : ByteArray) = s := by simp [bl]

/-- A text ends here, or with a comma or a bracket. -/
def Stop (r : List UInt8) : Prop := r = [] ∨ ∃ b t, r = b :: t ∧ (b = 44 ∨ b = 41)
theorem Stop.c {r : List UInt8} (h : Stop r) : upto [58, 44, 41] r = [] ∧ past [58, 44, 41] r = r := by
  rcases h with rfl | ⟨b, t, rfl, h⟩
  · exact ⟨rfl, rfl⟩
  · have := upto_stop (ends := [58, 44, 41]) (w := []) (b := b) (t := t) (by simp) (by rcases h with rfl | rfl <;> rfl)
    simpa using this
theorem Stop.l {r : List UInt8} (h : Stop r) {w : List UInt8} (hw : ∀ x ∈ w, ([44, 41] : List UInt8).contains x = false) : upto [44, 41] (w ++ r) = w ∧ past [44, 41] (w ++ r) = r := by
  rcases h with rfl | ⟨b, t, rfl, h⟩
  · rw [List.append_nil]; exact upto_end hw
  · exact upto_stop hw (by rcases h with rfl | rfl <;> rfl)

theorem good_mk (c : Ct) : c.good = (alike c && Ct.goods c.inner) := by
  obtain ⟨k, i, l, s, t, e, n⟩ := c
  rw [Ct.good]
  rfl
theorem goods_all : ∀ l : List Ct, Ct.goods l = l.all Ct.good
  | [] => rfl
  | c :: t => by rw [Ct.goods, goods_all t]; rfl

set_option maxHeartbeats 1000000 in
theorem p_comp : ∀ n : Nat, (∀ c rest, Ct.good c = true → Stop rest → (c.text ++ rest).length < n → pC n (c.text ++ rest) = some (c, rest)) ∧
    (∀ acc cs rest, cs ≠ [] → Ct.goods cs = true → (commas (cs.map Ct.text) ++ 41 :: rest).length + 1 < n → pL n acc (commas (cs.map Ct.text) ++ 41 :: rest) = some (acc ++ cs, rest))
  | 0 => ⟨fun c rest _ _ h => by omega, fun acc cs rest _ _ h => by omega⟩
  | n + 1 => by
    obtain ⟨ihC, ihL⟩ := p_comp n
    refine ⟨fun c rest hg hs hn => ?_, fun acc cs rest hne hg hn => ?_⟩
    · obtain ⟨k, i, l, s, t, e, inn⟩ := c
      rw [good_mk, Bool.and_eq_true] at hg
      obtain ⟨ha, hi⟩ := hg
      have hin : ∀ tl, tl = commas (inn.map Ct.text) ++ 41 :: rest → inn ≠ [] → tl.length + 1 < n → pL n [] tl = some (inn, rest) := by
        rintro tl rfl hne hl
        have := ihL [] inn rest hne hi hl
        simpa using this
      simp only [alike, noNum, slotsOk, someIn] at ha
      by_cases k0 : k = 0
      · subst k0
        simp only [if_true, Bool.and_eq_true, decide_eq_true_eq, List.isEmpty_iff] at ha
        obtain ⟨⟨⟨h1, h2⟩, ⟨h3, h4⟩, h5⟩, h6⟩ := ha
        have e1 := ba_empty (by rw [List.isEmpty_iff]; exact h1)
        have e2 := ba_empty (by rw [List.isEmpty_iff]; exact h2)
        subst e1; subst e2; subst h3; subst h4; subst h5; subst h6
        rw [text0, List.nil_append, pC]
        simp [hs.c.1, Ct.zero]
      by_cases k1 : k = 1
      · subst k1
        simp only [if_true, if_neg (show ¬ (1 : Int) = 0 by decide), Bool.and_eq_true, decide_eq_true_eq, List.isEmpty_iff] at ha
        obtain ⟨⟨⟨h1, h2⟩, ⟨h3, h4⟩, h5⟩, h6⟩ := ha
        subst h3; subst h4; subst h5; subst h6
        have u1 := upto_stop (ends := [58, 44, 41]) (w := [102, 115]) (b := 58) (t := bl i ++ 58 :: (bl l ++ rest)) (by decide) rfl
        have u2 := upto_stop (ends := [58, 40, 44, 41]) (w := bl i) (b := 58) (t := bl l ++ rest) (stop_id h1) rfl
        have u3 := hs.l (stop_label h2)
        rw [text1] at hn ⊢
        rw [show [102, 115] ++ 58 :: (bl i ++ 58 :: bl l) ++ rest = [102, 115] ++ 58 :: (bl i ++ 58 :: (bl l ++ rest)) by simp]
        rw [pC, u1.1, u1.2]
        simp [skip1_at, u2.1, u2.2, u3.1, u3.2]
      by_cases k2 : k = 2
      · subst k2
        simp only [if_true, if_neg (show ¬ (2 : Int) = 0 by decide), if_neg (show ¬ (2 : Int) = 1 by decide), Bool.and_eq_true, decide_eq_true_eq] at ha
        obtain ⟨⟨⟨⟨⟨h1, h2⟩, ⟨⟨h3, h4⟩, h5⟩, h6⟩, h7⟩, h8⟩, h9⟩ := ha
        have e2 := ba_empty h2
        subst e2
        have hne : inn ≠ [] := by intro h; subst h; simp at h9
        rw [text2] at hn ⊢
        rw [show [114, 97, 105, 100] ++ 58 :: (bl i ++ 58 :: (Lib.itoa s ++ 47 :: (Lib.itoa t ++ 47 :: (Lib.itoa e ++ 40 :: (commas (inn.map Ct.text) ++ [41]))))) ++ rest = [114, 97, 105, 100] ++ 58 :: (bl i ++ 58 :: (Lib.itoa s ++ 47 :: (Lib.itoa t ++ 47 :: (Lib.itoa e ++ 40 :: (commas (inn.map Ct.text) ++ 41 :: rest))))) by simp] at hn ⊢
        generalize htl : commas (inn.map Ct.text) ++ 41 :: rest = tl at *
        have u1 := upto_stop (ends := [58, 44, 41]) (w := [114, 97, 105, 100]) (b := 58) (t := bl i ++ 58 :: (Lib.itoa s ++ 47 :: (Lib.itoa t ++ 47 :: (Lib.itoa e ++ 40 :: tl)))) (by decide) rfl
        have u2 := upto_stop (ends := [58, 40, 44, 41]) (w := bl i) (b := 58) (t := Lib.itoa s ++ 47 :: (Lib.itoa t ++ 47 :: (Lib.itoa e ++ 40 :: tl))) (stop_id h1) rfl
        have n1 := pNum_ok s (by omega) (by omega) 47 (Lib.itoa t ++ 47 :: (Lib.itoa e ++ 40 :: tl)) rfl
        have n2 := pNum_ok t (by omega) (by omega) 47 (Lib.itoa e ++ 40 :: tl) rfl
        have n3 := pNum_ok e (by omega) (by omega) 40 tl rfl
        have hl := hin tl rfl hne (by simp at hn; omega)
        rw [pC, u1.1, u1.2]
        simp [skip1_at, u2.1, u2.2, n1, n2, n3, hl]
      by_cases k3 : k = 3
      · subst k3
        simp only [if_true, if_neg (show ¬ (3 : Int) = 0 by decide), if_neg (show ¬ (3 : Int) = 1 by decide), if_neg (show ¬ (3 : Int) = 2 by decide), Bool.and_eq_true, decide_eq_true_eq] at ha
        obtain ⟨⟨⟨h1, h2⟩, ⟨h3, h4⟩, h5⟩, h9⟩ := ha
        have e2 := ba_empty h2
        subst e2; subst h3; subst h4; subst h5
        have hne : inn ≠ [] := by intro h; subst h; simp at h9
        rw [text3] at hn ⊢
        rw [show [99, 114, 121, 112, 116] ++ 58 :: (bl i ++ 40 :: (commas (inn.map Ct.text) ++ [41])) ++ rest = [99, 114, 121, 112, 116] ++ 58 :: (bl i ++ 40 :: (commas (inn.map Ct.text) ++ 41 :: rest)) by simp] at hn ⊢
        generalize htl : commas (inn.map Ct.text) ++ 41 :: rest = tl at *
        have u1 := upto_stop (ends := [58, 44, 41]) (w := [99, 114, 121, 112, 116]) (b := 58) (t := bl i ++ 40 :: tl) (by decide) rfl
        have u2 := upto_stop (ends := [58, 40, 44, 41]) (w := bl i) (b := 40) (t := tl) (stop_id h1) rfl
        have hl := hin tl rfl hne (by simp at hn; omega)
        rw [pC, u1.1, u1.2]
        simp [skip1_at, u2.1, u2.2, hl]
      by_cases k4 : k = 4
      · subst k4
        simp only [if_true, if_neg (show ¬ (4 : Int) = 0 by decide), if_neg (show ¬ (4 : Int) = 1 by decide), if_neg (show ¬ (4 : Int) = 2 by decide), if_neg (show ¬ (4 : Int) = 3 by decide), Bool.and_eq_true, decide_eq_true_eq] at ha
        obtain ⟨⟨⟨⟨h1, h2⟩, ⟨⟨h3, h4⟩, h5⟩, h6⟩, h7⟩, h8, h9⟩ := ha
        have e2 := ba_empty h2
        subst e2; subst h7
        have hne : inn ≠ [] := by intro h; subst h; simp at h8
        rw [text4] at hn ⊢
        rw [show [112, 118] ++ 58 :: (bl i ++ 58 :: (Lib.itoa s ++ 47 :: (Lib.itoa t ++ 40 :: (commas (inn.map Ct.text) ++ [41])))) ++ rest = [112, 118] ++ 58 :: (bl i ++ 58 :: (Lib.itoa s ++ 47 :: (Lib.itoa t ++ 40 :: (commas (inn.map Ct.text) ++ 41 :: rest)))) by simp] at hn ⊢
        generalize htl : commas (inn.map Ct.text) ++ 41 :: rest = tl at *
        have u1 := upto_stop (ends := [58, 44, 41]) (w := [112, 118]) (b := 58) (t := bl i ++ 58 :: (Lib.itoa s ++ 47 :: (Lib.itoa t ++ 40 :: tl))) (by decide) rfl
        have u2 := upto_stop (ends := [58, 40, 44, 41]) (w := bl i) (b := 58) (t := Lib.itoa s ++ 47 :: (Lib.itoa t ++ 40 :: tl)) (stop_id h1) rfl
        have n1 := pNum_ok s (by omega) (by omega) 47 (Lib.itoa t ++ 40 :: tl) rfl
        have n2 := pNum_ok t (by omega) (by omega) 40 tl rfl
        have hl := hin tl rfl hne (by simp at hn; omega)
        rw [pC, u1.1, u1.2]
        simp [skip1_at, u2.1, u2.2, n1, n2, hl]
      by_cases k5 : k = 5
      · subst k5
        simp only [if_true, if_neg (show ¬ (5 : Int) = 0 by decide), if_neg (show ¬ (5 : Int) = 1 by decide), if_neg (show ¬ (5 : Int) = 2 by decide), if_neg (show ¬ (5 : Int) = 3 by decide), if_neg (show ¬ (5 : Int) = 4 by decide), Bool.and_eq_true, decide_eq_true_eq] at ha
        obtain ⟨⟨⟨h1, h2⟩, ⟨h3, h4⟩, h5⟩, h8, h9⟩ := ha
        have e2 := ba_empty h2
        subst e2; subst h3; subst h4; subst h5
        have hne : inn ≠ [] := by intro h; subst h; simp at h8
        rw [text5] at hn ⊢
        rw [show [116, 97, 98, 108, 101] ++ 58 :: (bl i ++ 40 :: (commas (inn.map Ct.text) ++ [41])) ++ rest = [116, 97, 98, 108, 101] ++ 58 :: (bl i ++ 40 :: (commas (inn.map Ct.text) ++ 41 :: rest)) by simp] at hn ⊢
        generalize htl : commas (inn.map Ct.text) ++ 41 :: rest = tl at *
        have u1 := upto_stop (ends := [58, 44, 41]) (w := [116, 97, 98, 108, 101]) (b := 58) (t := bl i ++ 40 :: tl) (by decide) rfl
        have u2 := upto_stop (ends := [58, 40, 44, 41]) (w := bl i) (b := 40) (t := tl) (stop_id h1) rfl
        have hl := hin tl rfl hne (by simp at hn; omega)
        rw [pC, u1.1, u1.2]
        simp [skip1_at, u2.1, u2.2, hl]
      simp [k0, k1, k2, k3, k4, k5] at ha
    · cases cs with
      | nil => exact absurd rfl hne
      | cons c t =>
        rw [Ct.goods, Bool.and_eq_true] at hg
        rw [pL]
        cases t with
        | nil =>
          simp only [List.map_cons, List.map_nil, commas] at hn ⊢
          rw [ihC c (41 :: rest) hg.1 (.inr ⟨_, _, rfl, .inr rfl⟩) (by omega)]
          simp [skip1_at]
        | cons d u =>
          have e : commas (List.map Ct.text (c :: d :: u)) ++ 41 :: rest = c.text ++ 44 :: (commas (List.map Ct.text (d :: u)) ++ 41 :: rest) := by
            simp [commas]
          rw [e] at hn ⊢
          rw [ihC c _ hg.1 (.inr ⟨_, _, rfl, .inl rfl⟩) (by omega)]
          have h2 : skip1 41 (44 :: (commas (List.map Ct.text (d :: u)) ++ 41 :: rest)) = none := by simp [skip1]
          have h3 := ihL (acc ++ [c]) (d :: u) rest (by simp) hg.2 (by simp at hn ⊢; omega)
          simp only [Option.bind_some, h2, skip1_at, h3]
          simp

/-- The content whose text s is. -/
def parseC (s : ByteArray) : Option Ct :=
  if 256 < (bl s).length then none else
  match pC ((bl s).length + 1) (bl s) with
  | some (c, []) => if c.valid = true then some c else none
  | _ => none
theorem parse_iff (s : ByteArray) (c : Ct) : parseC s = some c ↔ (bl s).length ≤ 256 ∧ c.valid = true ∧ c.text = bl s := by
  unfold parseC
  constructor
  · intro h
    split at h
    · cases h
    · rename_i hl
      split at h
      · rename_i c' hp
        split at h
        · rename_i hv
          injection h with h
          subst h
          have := (p_sound _).1 _ _ _ hp
          exact ⟨by omega, hv, by rw [this]; simp⟩
        · cases h
      · cases h
  · rintro ⟨h1, h2, h3⟩
    rw [if_neg (by omega)]
    have hg : c.good = true := by unfold Ct.valid at h2; rw [Bool.and_eq_true] at h2; exact h2.2
    have := (p_comp ((bl s).length + 1)).1 c [] hg (.inl rfl) (by simp [h3])
    rw [List.append_nil, h3] at this
    rw [this]
    simp [h2]
end Go.Proofs.YtbblkknndaoefaaGreatDoor
namespace Go.Proofs.YtbblkknndaoefaaGreatDoor
open Go
set_option linter.unusedVariables false
mutual
def Ct.count : Ct → Nat
  | .mk _ _ _ _ _ _ n => Ct.counts n + 1
def Ct.counts : List Ct → Nat
  | [] => 0
  | c :: t => c.count + Ct.counts t
end
theorem counts_append : ∀ (l m : List Ct), Ct.counts (l ++ m) = Ct.counts l + Ct.counts m
  | [], m => by simp [Ct.counts]
  | c :: t, m => by rw [List.cons_append, Ct.counts, Ct.counts, counts_append t m]; omega
mutual
theorem depth_count : ∀ c : Ct, c.depth ≤ c.count
  | .mk k i l s t e n => by
    have h := depths_counts n
    rw [Ct.depth, Ct.count]
    split <;> omega
theorem depths_counts : ∀ l : List Ct, Ct.depths l ≤ Ct.counts l
  | [] => by simp [Ct.depths, Ct.counts]
  | c :: t => by
    have h1 := depth_count c
    have h2 := depths_counts t
    rw [Ct.depths, Ct.counts]
    omega
end
theorem count_pos : ∀ c : Ct, 0 < c.count
  | .mk k i l s t e n => by rw [Ct.count]; omega
theorem len_counts : ∀ l : List Ct, l.length ≤ Ct.counts l
  | [] => by simp
  | c :: t => by
    have h1 := count_pos c
    have h2 := len_counts t
    rw [List.length_cons, Ct.counts]
    omega
theorem mem_count {c : Ct} : ∀ {l : List Ct}, c ∈ l → c.count ≤ Ct.counts l
  | [], h => by cases h
  | d :: t, h => by
    rw [Ct.counts]
    rcases List.mem_cons.1 h with rfl | h
    · omega
    · have := mem_count h
      omega
theorem mem_depth {c : Ct} : ∀ {l : List Ct}, c ∈ l → c.depth ≤ Ct.depths l
  | [], h => by cases h
  | d :: t, h => by
    rw [Ct.depths]
    rcases List.mem_cons.1 h with rfl | h
    · omega
    · have := mem_depth h
      omega
theorem depths_snoc : ∀ (l : List Ct) (c : Ct), Ct.depths (l ++ [c]) = max (Ct.depths l) c.depth
  | [], c => by simp [Ct.depths]
  | d :: t, c => by rw [List.cons_append, Ct.depths, Ct.depths, depths_snoc t c]; omega
theorem past_len (ends r : List UInt8) : (past ends r).length ≤ r.length := by
  have h := congrArg List.length (upto_past ends r)
  rw [List.length_append] at h
  omega
theorem skip1_len {b : UInt8} {r t : List UInt8} (h : skip1 b r = some t) : r.length = t.length + 1 := by rw [skip1_some h]; rfl
theorem pNum_len {r : List UInt8} {p : Int × List UInt8} (h : pNum r = some p) : p.2.length ≤ r.length := by
  have := congrArg List.length (pNum_some (v := p.1) (r' := p.2) h)
  rw [List.length_append] at this
  omega
theorem p_count : ∀ n : Nat, (∀ r c r', pC n r = some (c, r') → c.count + r'.length ≤ r.length + 1) ∧ (∀ acc r l r', pL n acc r = some (l, r') → Ct.counts l + r'.length ≤ Ct.counts acc + r.length)
  | 0 => ⟨fun r c r' h => by simp [pC] at h, fun acc r l r' h => by simp [pL] at h⟩
  | n + 1 => by
    obtain ⟨ihC, ihL⟩ := p_count n
    have hin : ∀ ra (pb : List Ct × List UInt8), pL n [] ra = some pb → Ct.counts pb.1 + pb.2.length ≤ ra.length := fun ra pb h => by
      have := ihL [] ra pb.1 pb.2 h
      simpa [Ct.counts] using this
    refine ⟨fun r c r' h => ?_, fun acc r l r' h => ?_⟩
    · have hr := past_len [58, 44, 41] r
      rw [pC] at h
      by_cases h0 : upto [58, 44, 41] r = []
      · rw [if_pos h0] at h
        injection h with h
        injection h with h1 h2
        subst h1; subst h2
        simp [Ct.zero, Ct.count, Ct.counts]; omega
      rw [if_neg h0] at h
      obtain ⟨r2, hr2, h⟩ := Option.bind_eq_some_iff.1 h
      have e2 := skip1_len hr2
      have hid := past_len [58, 40, 44, 41] r2
      simp only at h
      generalize upto [58, 40, 44, 41] r2 = di at h
      generalize past [58, 40, 44, 41] r2 = r3 at h hid
      split at h
      · obtain ⟨r4, hr4, h⟩ := Option.bind_eq_some_iff.1 h
        have e4 := skip1_len hr4
        have hl := past_len [44, 41] r4
        injection h with h
        injection h with h1 h2
        subst h1; subst h2
        simp [Ct.count, Ct.counts]; omega
      split at h
      · obtain ⟨r4, hr4, h⟩ := Option.bind_eq_some_iff.1 h
        obtain ⟨p5, hp5, h⟩ := Option.bind_eq_some_iff.1 h
        obtain ⟨r6, hr6, h⟩ := Option.bind_eq_some_iff.1 h
        obtain ⟨p7, hp7, h⟩ := Option.bind_eq_some_iff.1 h
        obtain ⟨r8, hr8, h⟩ := Option.bind_eq_some_iff.1 h
        obtain ⟨p9, hp9, h⟩ := Option.bind_eq_some_iff.1 h
        obtain ⟨ra, hra, h⟩ := Option.bind_eq_some_iff.1 h
        obtain ⟨pb, hpb, h⟩ := Option.bind_eq_some_iff.1 h
        injection h with h
        injection h with h1 h2
        subst h1; subst h2
        have e5 := pNum_len hp5
        have e7 := pNum_len hp7
        have e9 := pNum_len hp9
        have e4 := skip1_len hr4
        have e6 := skip1_len hr6
        have e8 := skip1_len hr8
        have ea := skip1_len hra
        have eb := hin ra pb hpb
        rw [Ct.count]
        omega
      split at h
      · obtain ⟨ra, hra, h⟩ := Option.bind_eq_some_iff.1 h
        obtain ⟨pb, hpb, h⟩ := Option.bind_eq_some_iff.1 h
        injection h with h
        injection h with h1 h2
        subst h1; subst h2
        have ea := skip1_len hra
        have eb := hin ra pb hpb
        rw [Ct.count]
        omega
      split at h
      · obtain ⟨r4, hr4, h⟩ := Option.bind_eq_some_iff.1 h
        obtain ⟨p5, hp5, h⟩ := Option.bind_eq_some_iff.1 h
        obtain ⟨r6, hr6, h⟩ := Option.bind_eq_some_iff.1 h
        obtain ⟨p7, hp7, h⟩ := Option.bind_eq_some_iff.1 h
        obtain ⟨ra, hra, h⟩ := Option.bind_eq_some_iff.1 h
        obtain ⟨pb, hpb, h⟩ := Option.bind_eq_some_iff.1 h
        injection h with h
        injection h with h1 h2
        subst h1; subst h2
        have e5 := pNum_len hp5
        have e7 := pNum_len hp7
        have e4 := skip1_len hr4
        have e6 := skip1_len hr6
        have ea := skip1_len hra
        have eb := hin ra pb hpb
        rw [Ct.count]
        omega
      split at h
      · obtain ⟨ra, hra, h⟩ := Option.bind_eq_some_iff.1 h
        obtain ⟨pb, hpb, h⟩ := Option.bind_eq_some_iff.1 h
        injection h with h
        injection h with h1 h2
        subst h1; subst h2
        have ea := skip1_len hra
        have eb := hin ra pb hpb
        rw [Ct.count]
        omega
      · cases h
    · rw [pL] at h
      obtain ⟨p, hp, h⟩ := Option.bind_eq_some_iff.1 h
      have e1 := ihC r p.1 p.2 hp
      cases hs : skip1 41 p.2 with
      | some r2 =>
        rw [hs] at h
        simp only at h
        injection h with h
        injection h with h1 h2
        subst h1; subst h2
        have e2 := skip1_len hs
        rw [counts_append]
        simp only [Ct.counts]
        omega
      | none =>
        rw [hs] at h
        simp only at h
        obtain ⟨r2, hr2, h⟩ := Option.bind_eq_some_iff.1 h
        have e2 := skip1_len hr2
        have := ihL _ r2 l r' h
        rw [counts_append] at this
        simp only [Ct.counts] at this
        omega
end Go.Proofs.YtbblkknndaoefaaGreatDoor
namespace Go.Proofs.YtbblkknndaoefaaGreatDoor
open Go
set_option linter.unusedVariables false
mutual
/-- A content and all in it. -/
def Ct.walk : Ct → List Ct
  | .mk k i l s t e n => .mk k i l s t e n :: Ct.walks n
def Ct.walks : List Ct → List Ct
  | [] => []
  | c :: t => c.walk ++ Ct.walks t
end
mutual
theorem walk_len : ∀ c : Ct, c.walk.length = c.count
  | .mk k i l s t e n => by rw [Ct.walk, Ct.count, List.length_cons, walks_len n]
theorem walks_len : ∀ l : List Ct, (Ct.walks l).length = Ct.counts l
  | [] => rfl
  | c :: t => by rw [Ct.walks, Ct.counts, List.length_append, walk_len c, walks_len t]
end
theorem walks_append : ∀ (l m : List Ct), Ct.walks (l ++ m) = Ct.walks l ++ Ct.walks m
  | [], m => rfl
  | c :: t, m => by rw [List.cons_append, Ct.walks, Ct.walks, walks_append t m, List.append_assoc]
mutual
theorem good_walk : ∀ c : Ct, c.good = c.walk.all alike
  | .mk k i l s t e n => by rw [Ct.good, Ct.walk, List.all_cons, goods_walk n]
theorem goods_walk : ∀ l : List Ct, Ct.goods l = (Ct.walks l).all alike
  | [] => rfl
  | c :: t => by rw [Ct.goods, Ct.walks, List.all_append, good_walk c, goods_walk t]
end
/-- Its ID and label are of at most m bytes. -/
def SmallC (m : Nat) (d : Ct) : Prop := d.id.size ≤ m ∧ d.label.size ≤ m
theorem SmallC.mono {m m' : Nat} {d : Ct} (h : SmallC m d) (hm : m ≤ m') : SmallC m' d := ⟨Nat.le_trans h.1 hm, Nat.le_trans h.2 hm⟩
theorem upto_len (ends r : List UInt8) : (upto ends r).length ≤ r.length := by
  have h := congrArg List.length (upto_past ends r)
  rw [List.length_append] at h
  omega
theorem p_small : ∀ n : Nat, (∀ r c r', pC n r = some (c, r') → ∀ d ∈ c.walk, SmallC r.length d) ∧ (∀ acc r l r', pL n acc r = some (l, r') → ∀ d ∈ Ct.walks l, d ∈ Ct.walks acc ∨ SmallC r.length d)
  | 0 => ⟨fun r c r' h => by simp [pC] at h, fun acc r l r' h => by simp [pL] at h⟩
  | n + 1 => by
    obtain ⟨ihC, ihL⟩ := p_small n
    have ihN := (p_count n).1
    have hin : ∀ ra (pb : List Ct × List UInt8), pL n [] ra = some pb → ∀ d ∈ Ct.walks pb.1, SmallC ra.length d := fun ra pb h d hd => by
      rcases ihL [] ra pb.1 pb.2 h d hd with h | h
      · simp [Ct.walks] at h
      · exact h
    refine ⟨fun r c r' h => ?_, fun acc r l r' h => ?_⟩
    · have hr := past_len [58, 44, 41] r
      rw [pC] at h
      by_cases h0 : upto [58, 44, 41] r = []
      · rw [if_pos h0] at h
        injection h with h
        injection h with h1 h2
        subst h1; subst h2
        intro d hd
        simp [Ct.zero, Ct.walk, Ct.walks] at hd
        subst hd
        exact ⟨Nat.zero_le _, Nat.zero_le _⟩
      rw [if_neg h0] at h
      obtain ⟨r2, hr2, h⟩ := Option.bind_eq_some_iff.1 h
      have e2 := skip1_len hr2
      have hid := past_len [58, 40, 44, 41] r2
      have hiu := upto_len [58, 40, 44, 41] r2
      simp only at h
      generalize upto [58, 40, 44, 41] r2 = di at h hiu
      generalize past [58, 40, 44, 41] r2 = r3 at h hid
      split at h
      · obtain ⟨r4, hr4, h⟩ := Option.bind_eq_some_iff.1 h
        have e4 := skip1_len hr4
        have hl := past_len [44, 41] r4
        injection h with h
        injection h with h1 h2
        subst h1; subst h2
        have hlu := upto_len [44, 41] r4
        intro d hd
        simp only [Ct.walk, Ct.walks, List.mem_singleton] at hd
        subst hd
        exact ⟨by show di.toArray.size ≤ _; simp; omega, by show (upto [44, 41] r4).toArray.size ≤ _; simp; omega⟩
      split at h
      · obtain ⟨r4, hr4, h⟩ := Option.bind_eq_some_iff.1 h
        obtain ⟨p5, hp5, h⟩ := Option.bind_eq_some_iff.1 h
        obtain ⟨r6, hr6, h⟩ := Option.bind_eq_some_iff.1 h
        obtain ⟨p7, hp7, h⟩ := Option.bind_eq_some_iff.1 h
        obtain ⟨r8, hr8, h⟩ := Option.bind_eq_some_iff.1 h
        obtain ⟨p9, hp9, h⟩ := Option.bind_eq_some_iff.1 h
        obtain ⟨ra, hra, h⟩ := Option.bind_eq_some_iff.1 h
        obtain ⟨pb, hpb, h⟩ := Option.bind_eq_some_iff.1 h
        injection h with h
        injection h with h1 h2
        subst h1; subst h2
        have e5 := pNum_len hp5
        have e7 := pNum_len hp7
        have e9 := pNum_len hp9
        have e4 := skip1_len hr4
        have e6 := skip1_len hr6
        have e8 := skip1_len hr8
        have ea := skip1_len hra
        have eb := hin ra pb hpb
        intro d hd
        rw [Ct.walk] at hd
        rcases List.mem_cons.1 hd with rfl | hd
        · exact ⟨by show di.toArray.size ≤ _; simp; omega, Nat.zero_le _⟩
        · exact (eb d hd).mono (by omega)
      split at h
      · obtain ⟨ra, hra, h⟩ := Option.bind_eq_some_iff.1 h
        obtain ⟨pb, hpb, h⟩ := Option.bind_eq_some_iff.1 h
        injection h with h
        injection h with h1 h2
        subst h1; subst h2
        have ea := skip1_len hra
        have eb := hin ra pb hpb
        intro d hd
        rw [Ct.walk] at hd
        rcases List.mem_cons.1 hd with rfl | hd
        · exact ⟨by show di.toArray.size ≤ _; simp; omega, Nat.zero_le _⟩
        · exact (eb d hd).mono (by omega)
      split at h
      · obtain ⟨r4, hr4, h⟩ := Option.bind_eq_some_iff.1 h
        obtain ⟨p5, hp5, h⟩ := Option.bind_eq_some_iff.1 h
        obtain ⟨r6, hr6, h⟩ := Option.bind_eq_some_iff.1 h
        obtain ⟨p7, hp7, h⟩ := Option.bind_eq_some_iff.1 h
        obtain ⟨ra, hra, h⟩ := Option.bind_eq_some_iff.1 h
        obtain ⟨pb, hpb, h⟩ := Option.bind_eq_some_iff.1 h
        injection h with h
        injection h with h1 h2
        subst h1; subst h2
        have e5 := pNum_len hp5
        have e7 := pNum_len hp7
        have e4 := skip1_len hr4
        have e6 := skip1_len hr6
        have ea := skip1_len hra
        have eb := hin ra pb hpb
        intro d hd
        rw [Ct.walk] at hd
        rcases List.mem_cons.1 hd with rfl | hd
        · exact ⟨by show di.toArray.size ≤ _; simp; omega, Nat.zero_le _⟩
        · exact (eb d hd).mono (by omega)
      split at h
      · obtain ⟨ra, hra, h⟩ := Option.bind_eq_some_iff.1 h
        obtain ⟨pb, hpb, h⟩ := Option.bind_eq_some_iff.1 h
        injection h with h
        injection h with h1 h2
        subst h1; subst h2
        have ea := skip1_len hra
        have eb := hin ra pb hpb
        intro d hd
        rw [Ct.walk] at hd
        rcases List.mem_cons.1 hd with rfl | hd
        · exact ⟨by show di.toArray.size ≤ _; simp; omega, Nat.zero_le _⟩
        · exact (eb d hd).mono (by omega)
      · cases h
    · rw [pL] at h
      obtain ⟨p, hp, h⟩ := Option.bind_eq_some_iff.1 h
      have e1 := ihC r p.1 p.2 hp
      cases hs : skip1 41 p.2 with
      | some r2 =>
        rw [hs] at h
        simp only at h
        injection h with h
        injection h with h1 h2
        subst h1; subst h2
        have e2 := skip1_len hs
        intro d hd
        rw [walks_append] at hd
        rcases List.mem_append.1 hd with hd | hd
        · exact .inl hd
        · exact .inr (e1 d (by simpa [Ct.walks] using hd))
      | none =>
        rw [hs] at h
        simp only at h
        obtain ⟨r2, hr2, h⟩ := Option.bind_eq_some_iff.1 h
        have e2 := skip1_len hr2
        have e3 := ihN r p.1 p.2 hp
        have e4 := count_pos p.1
        intro d hd
        rcases ihL _ r2 l r' h d hd with h5 | h5
        · rw [walks_append] at h5
          rcases List.mem_append.1 h5 with h5 | h5
          · exact .inl h5
          · exact .inr (e1 d (by simpa [Ct.walks] using h5))
        · exact .inr (h5.mono (by omega))
mutual
theorem inner_len : ∀ {c d : Ct}, d ∈ c.walk → d.inner.length ≤ c.count
  | .mk k i l s t e n, d, h => by
    rw [Ct.walk] at h
    rw [Ct.count]
    rcases List.mem_cons.1 h with rfl | h
    · have := len_counts n
      show n.length ≤ _
      omega
    · have := inner_lens h
      omega
theorem inner_lens : ∀ {n : List Ct} {d : Ct}, d ∈ Ct.walks n → d.inner.length ≤ Ct.counts n
  | [], d, h => by simp [Ct.walks] at h
  | c :: t, d, h => by
    rw [Ct.walks] at h
    rw [Ct.counts]
    rcases List.mem_append.1 h with h | h
    · have := inner_len h
      omega
    · have := inner_lens h
      omega
end
end Go.Proofs.YtbblkknndaoefaaGreatDoor
namespace Go.Proofs.YtbblkknndaoefaaGreatDoor
open Go
set_option linter.unusedVariables false
theorem bl_append (a b : ByteArray) : bl (a ++ b) = bl a ++ bl b := by simp [bl]
theorem ba_ext {a b : ByteArray} (h : bl a = bl b) : a = b := by
  rw [← mk_bl a, ← mk_bl b, h]
/-- The text of a content. -/
def Ct.txt (c : Ct) : ByteArray := ⟨c.text.toArray⟩
theorem bl_txt (c : Ct) : bl c.txt = c.text := bl_mk _
theorem join_commas : ∀ l : List (List UInt8), Lib.join l [44] = commas l
  | [] => rfl
  | [x] => by simp [Lib.join, commas, List.intercalate]
  | x :: y :: t => by
    have h := join_commas (y :: t)
    unfold Lib.join at *
    rw [commas, ← h]
    simp [List.intercalate, List.intersperse]
theorem commas_mem {x : List UInt8} : ∀ {l : List (List UInt8)}, x ∈ l → x.length ≤ (commas l).length
  | [], h => by cases h
  | [y], h => by simp at h; subst h; simp [commas]
  | y :: z :: t, h => by
    rw [commas]
    rcases List.mem_cons.1 h with rfl | h
    · simp
    · have := commas_mem h
      simp; omega
/-- What stands in the brackets. -/
def inTxt (n : List Ct) : ByteArray := ⟨(commas (n.map Ct.text)).toArray⟩
theorem bl_in (n : List Ct) : bl (inTxt n) = commas (n.map Ct.text) := bl_mk _
theorem in_join (n : List Ct) : (⟨(Lib.join ((n.map Ct.txt).map (·.data.toList)) [44]).toArray⟩ : ByteArray) = inTxt n := by
  rw [join_commas, List.map_map]
  have : (fun c => ((fun x : ByteArray => x.data.toList) ∘ Ct.txt) c) = Ct.text := funext fun c => bl_txt c
  show (⟨(commas (n.map (fun c => ((fun x : ByteArray => x.data.toList) ∘ Ct.txt) c))).toArray⟩ : ByteArray) = _
  rw [this]; rfl
theorem in_len (n : List Ct) : (Lib.join ((n.map Ct.txt).map (·.data.toList)) [44]).length = (commas (n.map Ct.text)).length := by
  have := congrArg bl (in_join n)
  rw [bl_mk, bl_in] at this
  rw [this]
theorem isId_size {i : ByteArray} (h : isId i = true) : i.size ≤ 16 := by
  unfold isId at h
  simp only [Bool.and_eq_true, decide_eq_true_eq] at h
  exact h.1.2
theorem good_alike {c : Ct} (h : c.good = true) : alike c = true ∧ c.inner.all Ct.good = true := by
  rw [good_mk, Bool.and_eq_true, goods_all] at h
  exact h
/-- Words of a content that has the fields of its kind are short. -/
theorem alike_small {k s t e : Int} {i l : ByteArray} {n : List Ct} (h : alike (.mk k i l s t e n) = true) : i.size ≤ 16 ∧ l.size ≤ 16 := by
  have he : ∀ x : ByteArray, (bl x).isEmpty = true → x.size ≤ 16 := fun x hx => by rw [ba_empty hx]; decide
  rw [alike] at h
  by_cases hk0 : k = 0
  · rw [if_pos hk0] at h
    simp only [Bool.and_eq_true] at h; exact ⟨he _ h.1.1.1, he _ h.1.1.2⟩
  rw [if_neg hk0] at h
  by_cases hk1 : k = 1
  · rw [if_pos hk1] at h
    simp only [Bool.and_eq_true, Bool.or_eq_true] at h
    exact ⟨isId_size h.1.1.1, h.1.1.2.elim (he _) isId_size⟩
  rw [if_neg hk1] at h
  by_cases hk2 : k = 2
  · rw [if_pos hk2] at h
    simp only [Bool.and_eq_true] at h; exact ⟨isId_size h.1.1.1.1.1, he _ h.1.1.1.1.2⟩
  rw [if_neg hk2] at h
  by_cases hk3 : k = 3
  · rw [if_pos hk3] at h
    simp only [Bool.and_eq_true] at h; exact ⟨isId_size h.1.1.1, he _ h.1.1.2⟩
  rw [if_neg hk3] at h
  by_cases hk4 : k = 4
  · rw [if_pos hk4] at h
    simp only [Bool.and_eq_true] at h; exact ⟨isId_size h.1.1.1.1, he _ h.1.1.1.2⟩
  rw [if_neg hk4] at h
  by_cases hk5 : k = 5
  · rw [if_pos hk5] at h
    simp only [Bool.and_eq_true] at h; exact ⟨isId_size h.1.1.1, he _ h.1.1.2⟩
  rw [if_neg hk5] at h
  cases h
theorem alike_kind {k s t e : Int} {i l : ByteArray} {n : List Ct} (h : alike (.mk k i l s t e n) = true) : ((k = 0 ∨ k = 1) ∧ n = []) ∨ (k = 2 ∧ 1 ≤ s ∧ s ≤ 16 ∧ 1 ≤ t ∧ t ≤ 16 ∧ 1 ≤ e ∧ e ≤ 16) ∨ k = 3 ∨ (k = 4 ∧ 1 ≤ s ∧ s ≤ 16 ∧ 1 ≤ t ∧ t ≤ 16) ∨ k = 5 := by
  rw [alike] at h
  by_cases hk0 : k = 0
  · rw [if_pos hk0] at h
    simp only [Bool.and_eq_true, List.isEmpty_iff] at h; exact .inl ⟨.inl hk0, h.2⟩
  rw [if_neg hk0] at h
  by_cases hk1 : k = 1
  · rw [if_pos hk1] at h
    simp only [Bool.and_eq_true, List.isEmpty_iff] at h; exact .inl ⟨.inr hk1, h.2⟩
  rw [if_neg hk1] at h
  by_cases hk2 : k = 2
  · rw [if_pos hk2] at h
    simp only [Bool.and_eq_true, slotsOk, decide_eq_true_eq] at h
    exact .inr (.inl ⟨hk2, by omega⟩)
  rw [if_neg hk2] at h
  by_cases hk3 : k = 3
  · rw [if_pos hk3] at h
    exact .inr (.inr (.inl hk3))
  rw [if_neg hk3] at h
  by_cases hk4 : k = 4
  · rw [if_pos hk4] at h
    simp only [Bool.and_eq_true, slotsOk, decide_eq_true_eq] at h
    exact .inr (.inr (.inr (.inl ⟨hk4, by omega⟩)))
  rw [if_neg hk4] at h
  by_cases hk5 : k = 5
  · rw [if_pos hk5] at h
    exact .inr (.inr (.inr (.inr hk5)))
  rw [if_neg hk5] at h
  cases h
/-- What stands in the brackets is shorter than the text. -/
theorem in_le {c : Ct} (h : c.good = true) : (commas (c.inner.map Ct.text)).length ≤ c.text.length := by
  obtain ⟨k, i, l, s, t, e, n⟩ := c
  have ha := (good_alike h).1
  show (commas (n.map Ct.text)).length ≤ _
  rcases alike_kind ha with ⟨_, rfl⟩ | ⟨rfl, _⟩ | rfl | ⟨rfl, _⟩ | rfl
  · simp [commas]
  · rw [text2]; simp; omega
  · rw [text3]; simp; omega
  · rw [text4]; simp; omega
  · rw [text5]; simp; omega
theorem itoa_nat (k : Nat) : Lib.itoa (k : Int) = Lib.decDigits k := by unfold Lib.itoa; rw [if_neg (by omega)]; simp
/-- A small number's digits. -/
def numBA (k : Nat) : ByteArray := ⟨(Lib.decDigits k).toArray⟩
theorem num_size {k : Nat} (h1 : 1 ≤ k) (h2 : k ≤ 16) : (numBA k).size ≤ 2 := by
  show (Lib.decDigits k).toArray.size ≤ 2
  rw [dec_small k h1 h2]
  split <;> simp
theorem bl_num (k : Nat) : bl (numBA k) = Lib.itoa (k : Int) := by rw [itoa_nat]; exact bl_mk _
def boxed (n : List Ct) : ByteArray := ⟨#[40]⟩ ++ inTxt n ++ ⟨#[41]⟩
theorem bl_boxed (n : List Ct) : bl (boxed n) = 40 :: (commas (n.map Ct.text) ++ [41]) := by unfold boxed; rw [bl_append, bl_append, bl_in]; rfl
section
variable (i l : ByteArray) (s t e : Int) (n : List Ct) (a b c : Nat)
theorem txt0 : (Ct.mk 0 i l s t e n).txt = ⟨#[]⟩ := ba_ext (by rw [bl_txt, text0])
theorem txt1 : (Ct.mk 1 i l s t e n).txt = (⟨#[102, 115, 58]⟩ : ByteArray) ++ i ++ ⟨#[58]⟩ ++ l := ba_ext (by rw [bl_txt, text1]; simp only [bl_append]; simp [bl])
theorem txt2 : (Ct.mk 2 i l a b c n).txt = (⟨#[114, 97, 105, 100, 58]⟩ : ByteArray) ++ i ++ ⟨#[58]⟩ ++ numBA a ++ ⟨#[47]⟩ ++ numBA b ++ ⟨#[47]⟩ ++ numBA c ++ boxed n := ba_ext (by rw [bl_txt, text2]; simp only [bl_append, bl_num, bl_boxed]; simp [bl])
theorem txt3 : (Ct.mk 3 i l s t e n).txt = (⟨#[99, 114, 121, 112, 116, 58]⟩ : ByteArray) ++ i ++ boxed n := ba_ext (by rw [bl_txt, text3]; simp only [bl_append, bl_boxed]; simp [bl])
theorem txt4 : (Ct.mk 4 i l a b e n).txt = (⟨#[112, 118, 58]⟩ : ByteArray) ++ i ++ ⟨#[58]⟩ ++ numBA a ++ ⟨#[47]⟩ ++ numBA b ++ boxed n := ba_ext (by rw [bl_txt, text4]; simp only [bl_append, bl_num, bl_boxed]; simp [bl])
theorem txt5 : (Ct.mk 5 i l s t e n).txt = (⟨#[116, 97, 98, 108, 101, 58]⟩ : ByteArray) ++ i ++ boxed n := ba_ext (by rw [bl_txt, text5]; simp only [bl_append, bl_boxed]; simp [bl])
end
end Go.Proofs.YtbblkknndaoefaaGreatDoor
