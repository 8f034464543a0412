/- Contents and their texts. Plain: no program is in sight. A valid content's text is parsed as this content. Plain. tree.Find. One, Contents. Tree: makes a tree of any numbers. tree.first, tree.Find; the closure of Gone. -/
import Derived.Lib.AtoiAll
import Derived.Lib.ItoaNum
import Derived.Test.YtbblkknndaoefaaGreatDoorZA2
import Derived.Test.YtbblkknndaoefaaGreatDoorZA3
import Derived.Test.YtbblkknndaoefaaGreatDoorZA6
import Derived.Test.YtbblkknndaoefaaGreatDoorZA1
import Derived.Deep.DeepCutAuto
import Derived.Lib.SliceRun
namespace Go.Proofs.YtbblkknndaoefaaGreatDoor
open Go
set_option linter.unusedVariables false

/-- A content. -/
inductive Ct where
  | mk (kind : Int) (id label : ByteArray) (slot total least : Int) (inner : List Ct)
namespace Ct
def kind : Ct → Int | .mk k _ _ _ _ _ _ => k
def id : Ct → ByteArray | .mk _ i _ _ _ _ _ => i
def label : Ct → ByteArray | .mk _ _ l _ _ _ _ => l
def slot : Ct → Int | .mk _ _ _ s _ _ _ => s
def total : Ct → Int | .mk _ _ _ _ t _ _ => t
def least : Ct → Int | .mk _ _ _ _ _ e _ => e
def inner : Ct → List Ct | .mk _ _ _ _ _ _ n => n
def zero : Ct := .mk 0 ⟨#[]⟩ ⟨#[]⟩ 0 0 0 []
end Ct

/-- Texts with a comma between them. -/
def commas : List (List UInt8) → List UInt8
  | [] => []
  | [x] => x
  | x :: y :: t => x ++ 44 :: commas (y :: t)
/-- The bytes of a text. -/
abbrev bl (s : ByteArray) : List UInt8 := s.data.toList
def headText (k : Int) (i l : ByteArray) (s t e : Int) : List UInt8 :=
  if k = 1 then [102, 115, 58] ++ bl i ++ [58] ++ bl l
  else if k = 2 then [114, 97, 105, 100, 58] ++ bl i ++ [58] ++ Lib.itoa s ++ [47] ++ Lib.itoa t ++ [47] ++ Lib.itoa e
  else if k = 3 then [99, 114, 121, 112, 116, 58] ++ bl i
  else if k = 4 then [112, 118, 58] ++ bl i ++ [58] ++ Lib.itoa s ++ [47] ++ Lib.itoa t
  else if k = 5 then [116, 97, 98, 108, 101, 58] ++ bl i
  else []
def hasIn (k : Int) : Bool := decide (k = 2) || decide (k = 3) || decide (k = 4) || decide (k = 5)
mutual
/-- The text of a content. -/
def Ct.text : Ct → List UInt8
  | .mk k i l s t e n => headText k i l s t e ++ if hasIn k = true then 40 :: commas (Ct.texts n) ++ [41] else []
def Ct.texts : List Ct → List (List UInt8)
  | [] => []
  | c :: t => c.text :: Ct.texts t
end
theorem texts_map : ∀ l : List Ct, Ct.texts l = l.map Ct.text
  | [] => rfl
  | c :: t => by rw [Ct.texts, texts_map t]; rfl
section
variable (i l : ByteArray) (s t e : Int) (n : List Ct)
theorem text0 : (Ct.mk 0 i l s t e n).text = [] := by rw [Ct.text]; rfl
theorem text1 : (Ct.mk 1 i l s t e n).text = [102, 115] ++ 58 :: (bl i ++ 58 :: bl l) := by rw [Ct.text]; simp [headText, hasIn]
theorem text2 : (Ct.mk 2 i l s t e n).text = [114, 97, 105, 100] ++ 58 :: (bl i ++ 58 :: (Lib.itoa s ++ 47 :: (Lib.itoa t ++ 47 :: (Lib.itoa e ++ 40 :: (commas (n.map Ct.text) ++ [41]))))) := by rw [Ct.text, texts_map]; simp [headText, hasIn]
theorem text3 : (Ct.mk 3 i l s t e n).text = [99, 114, 121, 112, 116] ++ 58 :: (bl i ++ 40 :: (commas (n.map Ct.text) ++ [41])) := by rw [Ct.text, texts_map]; simp [headText, hasIn]
theorem text4 : (Ct.mk 4 i l s t e n).text = [112, 118] ++ 58 :: (bl i ++ 58 :: (Lib.itoa s ++ 47 :: (Lib.itoa t ++ 40 :: (commas (n.map Ct.text) ++ [41])))) := by rw [Ct.text, texts_map]; simp [headText, hasIn]
theorem text5 : (Ct.mk 5 i l s t e n).text = [116, 97, 98, 108, 101] ++ 58 :: (bl i ++ 40 :: (commas (n.map Ct.text) ++ [41])) := by rw [Ct.text, texts_map]; simp [headText, hasIn]
end

def idByte (b : UInt8) : Bool := (decide (65 ≤ b) && decide (b ≤ 90)) || (decide (97 ≤ b) && decide (b ≤ 122)) || (decide (48 ≤ b) && decide (b ≤ 57)) || decide (b = 95) || decide (b = 46) || decide (b = 45)
/-- An ID. -/
def isId (s : ByteArray) : Bool := !(bl s).isEmpty && decide ((bl s).length ≤ 16) && (bl s).all idByte
def noNum (s t e : Int) : Bool := decide (s = 0) && decide (t = 0) && decide (e = 0)
def slotsOk (s t : Int) : Bool := decide (1 ≤ t) && decide (t ≤ 16) && decide (1 ≤ s) && decide (s ≤ t)
def someIn (n : List Ct) : Bool := decide (1 ≤ n.length) && decide (n.length ≤ 16)
/-- A content has the fields of its kind. -/
def alike : Ct → Bool
  | .mk k i l s t e n =>
    if k = 0 then (bl i).isEmpty && (bl l).isEmpty && noNum s t e && n.isEmpty
    else if k = 1 then isId i && ((bl l).isEmpty || isId l) && noNum s t e && n.isEmpty
    else if k = 2 then isId i && (bl l).isEmpty && slotsOk s t && decide (1 ≤ e) && decide (e ≤ t) && decide (n.length = 1)
    else if k = 3 then isId i && (bl l).isEmpty && noNum s t e && decide (n.length = 1)
    else if k = 4 then isId i && (bl l).isEmpty && slotsOk s t && decide (e = 0) && someIn n
    else if k = 5 then isId i && (bl l).isEmpty && noNum s t e && someIn n
    else false
mutual
/-- All contents in it have the fields of their kinds. -/
def Ct.good : Ct → Bool
  | .mk k i l s t e n => alike (.mk k i l s t e n) && Ct.goods n
def Ct.goods : List Ct → Bool
  | [] => true
  | c :: t => c.good && Ct.goods t
end
mutual
def Ct.depth : Ct → Nat
  | .mk k _ _ _ _ _ n => if k = 0 then Ct.depths n else Ct.depths n + 1
def Ct.depths : List Ct → Nat
  | [] => 0
  | c :: t => max c.depth (Ct.depths t)
end
/-- A valid content. -/
def Ct.valid (c : Ct) : Bool := decide (c.depth ≤ 6) && c.good

/-! ### The program's parser -/
def upto (ends r : List UInt8) : List UInt8 := r.takeWhile fun b => !ends.contains b
def past (ends r : List UInt8) : List UInt8 := r.dropWhile fun b => !ends.contains b
theorem upto_past (ends r : List UInt8) : upto ends r ++ past ends r = r := List.takeWhile_append_dropWhile
def skip1 (b : UInt8) : List UInt8 → Option (List UInt8)
  | [] => none
  | x :: t => if x = b then some t else none
theorem skip1_some {b : UInt8} {r t : List UInt8} (h : skip1 b r = some t) : r = b :: t := by
  cases r with
  | nil => cases h
  | cons x r =>
    simp only [skip1] at h
    by_cases e : x = b
    · rw [if_pos e] at h; injection h with h; rw [e, h]
    · rw [if_neg e] at h; cases h
/-- A number: canonical digits up to one of / ( , ) : -/
def pNum (r : List UInt8) : Option (Int × List UInt8) :=
  match Lib.atoiAll (upto [47, 40, 44, 41, 58] r) with
  | .ok v => if Lib.itoa v = upto [47, 40, 44, 41, 58] r then some (v, past [47, 40, 44, 41, 58] r) else none
  | _ => none
theorem pNum_some {r r' : List UInt8} {v : Int} (h : pNum r = some (v, r')) : r = Lib.itoa v ++ r' := by
  unfold pNum at h
  split at h
  · split at h
    · rename_i e
      injection h with h
      injection h with h1 h2
      subst h1; subst h2
      rw [e, upto_past]
    · cases h
  · cases h
mutual
def pC : Nat → List UInt8 → Option (Ct × List UInt8)
  | 0, _ => none
  | n + 1, r =>
    if upto [58, 44, 41] r = [] then some (Ct.zero, r) else
    (skip1 58 (past [58, 44, 41] r)).bind fun r2 =>
    let id : ByteArray := ⟨(upto [58, 40, 44, 41] r2).toArray⟩
    let r3 := past [58, 40, 44, 41] r2
    if upto [58, 44, 41] r = [102, 115] then
      (skip1 58 r3).bind fun r4 => some (.mk 1 id ⟨(upto [44, 41] r4).toArray⟩ 0 0 0 [], past [44, 41] r4)
    else if upto [58, 44, 41] r = [114, 97, 105, 100] then
      (skip1 58 r3).bind fun r4 => (pNum r4).bind fun p5 => (skip1 47 p5.2).bind fun r6 => (pNum r6).bind fun p7 => (skip1 47 p7.2).bind fun r8 => (pNum r8).bind fun p9 =>
        (skip1 40 p9.2).bind fun ra => (pL n [] ra).bind fun pb => some (.mk 2 id ⟨#[]⟩ p5.1 p7.1 p9.1 pb.1, pb.2)
    else if upto [58, 44, 41] r = [99, 114, 121, 112, 116] then
      (skip1 40 r3).bind fun ra => (pL n [] ra).bind fun pb => some (.mk 3 id ⟨#[]⟩ 0 0 0 pb.1, pb.2)
    else if upto [58, 44, 41] r = [112, 118] then
      (skip1 58 r3).bind fun r4 => (pNum r4).bind fun p5 => (skip1 47 p5.2).bind fun r6 => (pNum r6).bind fun p7 =>
        (skip1 40 p7.2).bind fun ra => (pL n [] ra).bind fun pb => some (.mk 4 id ⟨#[]⟩ p5.1 p7.1 0 pb.1, pb.2)
    else if upto [58, 44, 41] r = [116, 97, 98, 108, 101] then
      (skip1 40 r3).bind fun ra => (pL n [] ra).bind fun pb => some (.mk 5 id ⟨#[]⟩ 0 0 0 pb.1, pb.2)
    else none
def pL : Nat → List Ct → List UInt8 → Option (List Ct × List UInt8)
  | 0, _, _ => none
  | n + 1, acc, r => (pC n r).bind fun p =>
    match skip1 41 p.2 with
    | some r2 => some (acc ++ [p.1], r2)
    | none => (skip1 44 p.2).bind fun r2 => pL n (acc ++ [p.1]) r2
end

/-! ### What is parsed is the text -/
theorem commas_snoc : ∀ (l : List (List UInt8)) (x : List UInt8), l ≠ [] → commas (l ++ [x]) = commas l ++ 44 :: x
  | [], x, h => absurd rfl h
  | [y], x, _ => rfl
  | y :: z :: t, x, _ => by
    show commas (y :: z :: (t ++ [x])) = _
    have h := commas_snoc (z :: t) x (by simp)
    simp only [commas, List.cons_append] at h ⊢
    rw [h]
    simp
theorem bl_mk (l : List UInt8) : bl (⟨l.toArray⟩ : ByteArray) = l := by simp [bl]

/-- What stands ahead of a further content in brackets. -/
def accText (acc : List Ct) : List UInt8 := if acc = [] then [] else commas (acc.map Ct.text) ++ [44]
theorem acc_snoc (acc : List Ct) (c : Ct) : accText acc ++ c.text = commas ((acc ++ [c]).map Ct.text) := by
  unfold accText
  by_cases h : acc = []
  · subst h; simp [commas]
  · rw [if_neg h, List.map_append, List.map_cons, List.map_nil, commas_snoc _ _ (by simpa using h)]
    simp
theorem acc_snoc2 (acc : List Ct) (c : Ct) : accText (acc ++ [c]) = accText acc ++ c.text ++ [44] := by
  rw [acc_snoc]
  unfold accText
  rw [if_neg (by simp)]

theorem p_sound : ∀ n : Nat, (∀ r c r', pC n r = some (c, r') → r = c.text ++ r') ∧ (∀ acc r l r', pL n acc r = some (l, r') → accText acc ++ r = commas (l.map Ct.text) ++ 41 :: r')
  | 0 => ⟨fun r c r' h => by simp [pC] at h, fun acc r l r' h => by simp [pL] at h⟩
  | n + 1 => by
    obtain ⟨ihC, ihL⟩ := p_sound n
    have hin : ∀ ra (pb : List Ct × List UInt8), pL n [] ra = some pb → ra = commas (pb.1.map Ct.text) ++ 41 :: pb.2 := fun ra pb h => by
      have := ihL [] ra pb.1 pb.2 h
      simpa [accText] using this
    refine ⟨fun r c r' h => ?_, fun acc r l r' h => ?_⟩
    · have hr := upto_past [58, 44, 41] r
      rw [pC] at h
      by_cases h0 : upto [58, 44, 41] r = []
      · rw [if_pos h0] at h
        injection h with h
        injection h with h1 h2
        subst h1; subst h2
        rw [Ct.zero, text0]; rfl
      rw [if_neg h0] at h
      obtain ⟨r2, hr2, h⟩ := Option.bind_eq_some_iff.1 h
      have e2 := skip1_some hr2
      have hid := upto_past [58, 40, 44, 41] r2
      rw [e2] at hr
      simp only at h
      generalize upto [58, 40, 44, 41] r2 = di at h hid
      generalize past [58, 40, 44, 41] r2 = r3 at h hid
      generalize upto [58, 44, 41] r = kd at h hr
      split at h
      · rename_i hk
        obtain ⟨r4, hr4, h⟩ := Option.bind_eq_some_iff.1 h
        have e4 := skip1_some hr4
        have hl := upto_past [44, 41] r4
        generalize upto [44, 41] r4 = lb at h hl
        generalize past [44, 41] r4 = rs at h hl
        injection h with h
        injection h with h1 h2
        subst h1; subst h2
        rw [text1, bl_mk, bl_mk]
        rw [← hr, hk, ← hid, e4, ← hl]
        simp
      split at h
      · rename_i hk
        obtain ⟨r4, hr4, h⟩ := Option.bind_eq_some_iff.1 h
        obtain ⟨p5, hp5, h⟩ := Option.bind_eq_some_iff.1 h
        obtain ⟨r6, hr6, h⟩ := Option.bind_eq_some_iff.1 h
        obtain ⟨p7, hp7, h⟩ := Option.bind_eq_some_iff.1 h
        obtain ⟨r8, hr8, h⟩ := Option.bind_eq_some_iff.1 h
        obtain ⟨p9, hp9, h⟩ := Option.bind_eq_some_iff.1 h
        obtain ⟨ra, hra, h⟩ := Option.bind_eq_some_iff.1 h
        obtain ⟨pb, hpb, h⟩ := Option.bind_eq_some_iff.1 h
        injection h with h
        injection h with h1 h2
        subst h1; subst h2
        have e5 := pNum_some hp5
        have e7 := pNum_some hp7
        have e9 := pNum_some hp9
        rw [text2, bl_mk]
        rw [← hr, hk, ← hid, skip1_some hr4, e5, skip1_some hr6, e7, skip1_some hr8, e9, skip1_some hra, hin ra pb hpb]
        simp
      split at h
      · rename_i hk
        obtain ⟨ra, hra, h⟩ := Option.bind_eq_some_iff.1 h
        obtain ⟨pb, hpb, h⟩ := Option.bind_eq_some_iff.1 h
        injection h with h
        injection h with h1 h2
        subst h1; subst h2
        rw [text3, bl_mk]
        rw [← hr, hk, ← hid, skip1_some hra, hin ra pb hpb]
        simp
      split at h
      · rename_i hk
        obtain ⟨r4, hr4, h⟩ := Option.bind_eq_some_iff.1 h
        obtain ⟨p5, hp5, h⟩ := Option.bind_eq_some_iff.1 h
        obtain ⟨r6, hr6, h⟩ := Option.bind_eq_some_iff.1 h
        obtain ⟨p7, hp7, h⟩ := Option.bind_eq_some_iff.1 h
        obtain ⟨ra, hra, h⟩ := Option.bind_eq_some_iff.1 h
        obtain ⟨pb, hpb, h⟩ := Option.bind_eq_some_iff.1 h
        injection h with h
        injection h with h1 h2
        subst h1; subst h2
        have e5 := pNum_some hp5
        have e7 := pNum_some hp7
        rw [text4, bl_mk]
        rw [← hr, hk, ← hid, skip1_some hr4, e5, skip1_some hr6, e7, skip1_some hra, hin ra pb hpb]
        simp
      split at h
      · rename_i hk
        obtain ⟨ra, hra, h⟩ := Option.bind_eq_some_iff.1 h
        obtain ⟨pb, hpb, h⟩ := Option.bind_eq_some_iff.1 h
        injection h with h
        injection h with h1 h2
        subst h1; subst h2
        rw [text5, bl_mk]
        rw [← hr, hk, ← hid, skip1_some hra, hin ra pb hpb]
        simp
      · cases h
    · rw [pL] at h
      obtain ⟨p, hp, h⟩ := Option.bind_eq_some_iff.1 h
      have e1 := ihC r p.1 p.2 hp
      cases hs : skip1 41 p.2 with
      | some r2 =>
        rw [hs] at h
        simp only at h
        injection h with h
        injection h with h1 h2
        subst h1; subst h2
        rw [← acc_snoc, e1, skip1_some hs]
        simp
      | none =>
        rw [hs] at h
        simp only at h
        obtain ⟨r2, hr2, h⟩ := Option.bind_eq_some_iff.1 h
        have := ihL _ r2 l r' h
        rw [acc_snoc2] at this
        rw [← this, e1, skip1_some hr2]
        simp
end Go.Proofs.YtbblkknndaoefaaGreatDoor
namespace Go.Proofs.YtbblkknndaoefaaGreatDoor
open Go
set_option linter.unusedVariables false

theorem upto_stop {ends : List UInt8} : ∀ {w : List UInt8} {b : UInt8} {t : List UInt8}, (∀ x ∈ w, ends.contains x = false) → ends.contains b = true → upto ends (w ++ b :: t) = w ∧ past ends (w ++ b :: t) = b :: t
  | [], b, t, _, hb => by
    simp only [upto, past, List.nil_append, List.takeWhile_cons, List.dropWhile_cons, hb]
    simp
  | x :: w, b, t, hw, hb => by
    have hx := hw x (by simp)
    have ih := upto_stop (w := w) (b := b) (t := t) (fun y hy => hw y (by simp [hy])) hb
    simp only [upto, past, List.cons_append, List.takeWhile_cons, List.dropWhile_cons, hx, Bool.not_false, if_true] at ih ⊢
    rw [ih.1, ih.2]
    exact ⟨rfl, rfl⟩
theorem upto_end {ends : List UInt8} : ∀ {w : List UInt8}, (∀ x ∈ w, ends.contains x = false) → upto ends w = w ∧ past ends w = []
  | [], _ => ⟨rfl, rfl⟩
  | x :: w, hw => by
    have hx := hw x (by simp)
    have ih := upto_end (w := w) (fun y hy => hw y (by simp [hy]))
    simp only [upto, past, List.takeWhile_cons, List.dropWhile_cons, hx, Bool.not_false, if_true] at ih ⊢
    rw [ih.1, ih.2]
    exact ⟨rfl, rfl⟩
theorem skip1_at (b : UInt8) (t : List UInt8) : skip1 b (b :: t) = some t := by simp [skip1]

theorem dec_small (k : Nat) (h1 : 1 ≤ k) (h2 : k ≤ 16) : Lib.decDigits k = if k < 10 then [UInt8.ofNat (48 + k)] else [49, UInt8.ofNat (48 + k % 10)] := by
  rw [Lib.decDigits]
  by_cases h : k < 10
  · rw [dif_pos h, if_pos h]
  · rw [dif_neg h, if_neg h, Lib.decDigits, dif_pos (by omega)]
    have : k / 10 = 1 := by omega
    rw [this]
    rfl
theorem pNum_ok (v : Int) (h1 : 1 ≤ v) (h2 : v ≤ 16) (b : UInt8) (t : List UInt8) (hb : ([47, 40, 44, 41, 58] : List UInt8).contains b = true) : pNum (Lib.itoa v ++ b :: t) = some (v, b :: t) := by
  obtain ⟨k, rfl⟩ := Int.eq_ofNat_of_zero_le (show 0 ≤ v by omega)
  have hd := dec_small k (by omega) (by omega)
  have hi : Lib.itoa (k : Int) = Lib.decDigits k := by unfold Lib.itoa; rw [if_neg (by omega)]; simp
  have key : (∀ x ∈ Lib.itoa (k : Int), ([47, 40, 44, 41, 58] : List UInt8).contains x = false) ∧ Lib.atoiAll (Lib.itoa (k : Int)) = .ok (k : Int) := by
    rw [hi, hd]
    rcases (by omega : k = 1 ∨ k = 2 ∨ k = 3 ∨ k = 4 ∨ k = 5 ∨ k = 6 ∨ k = 7 ∨ k = 8 ∨ k = 9 ∨ k = 10 ∨ k = 11 ∨ k = 12 ∨ k = 13 ∨ k = 14 ∨ k = 15 ∨ k = 16) with rfl | rfl | rfl | rfl | rfl | rfl | rfl | rfl | rfl | rfl | rfl | rfl | rfl | rfl | rfl | rfl <;> exact ⟨by decide, rfl⟩
  obtain ⟨e1, e2⟩ := upto_stop (t := t) key.1 hb
  unfold pNum
  rw [e1, e2, key.2]
  simp

theorem id_stop {s : ByteArray} (h : isId s = true) : ∀ x ∈ bl s, x ≠ 58 ∧ x ≠ 40 ∧ x ≠ 44 ∧ x ≠ 41 ∧ x ≠ 47 := by
  unfold isId at h
  simp only [Bool.and_eq_true, List.all_eq_true] at h
  intro x hx
  have h1 := h.2 x hx
  refine ⟨?_, ?_, ?_, ?_, ?_⟩ <;> (rintro rfl; revert h1; decide)
theorem stop_id {s : ByteArray} (h : isId s = true) : ∀ x ∈ bl s, ([58, 40, 44, 41] : List UInt8).contains x = false := by
  intro x hx
  obtain ⟨h1, h2, h3, h4, h5⟩ := id_stop h x hx
  simp [h1, h2, h3, h4]
theorem stop_label {s : ByteArray} (h : ((bl s).isEmpty || isId s) = true) : ∀ x ∈ bl s, ([44, 41] : List UInt8).contains x = false := by
  intro x hx
  rw [Bool.or_eq_true] at h
  rcases h with h | h
  · rw [List.isEmpty_iff] at h; rw [h] at hx; simp at hx
  · obtain ⟨h1, h2, h3, h4, h5⟩ := id_stop h x hx
    simp [h3, h4]
theorem ba_empty {s : ByteArray} (h : (bl s).isEmpty = true) : s = ⟨#[]⟩ := by
  rw [List.isEmpty_iff] at h
  apply ByteArray.ext
  apply Array.ext'
  simpa [bl] using h
theorem mk_bl (s : ByteArray) : (⟨(bl s).toArray⟩ : ByteArray) = s := by simp [bl]

/-- A text ends here, or with a comma or a bracket. -/
def Stop (r : List UInt8) : Prop := r = [] ∨ ∃ b t, r = b :: t ∧ (b = 44 ∨ b = 41)
theorem Stop.c {r : List UInt8} (h : Stop r) : upto [58, 44, 41] r = [] ∧ past [58, 44, 41] r = r := by
  rcases h with rfl | ⟨b, t, rfl, h⟩
  · exact ⟨rfl, rfl⟩
  · have := upto_stop (ends := [58, 44, 41]) (w := []) (b := b) (t := t) (by simp) (by rcases h with rfl | rfl <;> rfl)
    simpa using this
theorem Stop.l {r : List UInt8} (h : Stop r) {w : List UInt8} (hw : ∀ x ∈ w, ([44, 41] : List UInt8).contains x = false) : upto [44, 41] (w ++ r) = w ∧ past [44, 41] (w ++ r) = r := by
  rcases h with rfl | ⟨b, t, rfl, h⟩
  · rw [List.append_nil]; exact upto_end hw
  · exact upto_stop hw (by rcases h with rfl | rfl <;> rfl)

theorem good_mk (c : Ct) : c.good = (alike c && Ct.goods c.inner) := by
  obtain ⟨k, i, l, s, t, e, n⟩ := c
  rw [Ct.good]
  rfl
theorem goods_all : ∀ l : List Ct, Ct.goods l = l.all Ct.good
  | [] => rfl
  | c :: t => by rw [Ct.goods, goods_all t]; rfl

set_option maxHeartbeats 1000000 in
theorem p_comp : ∀ n : Nat, (∀ c rest, Ct.good c = true → Stop rest → (c.text ++ rest).length < n → pC n (c.text ++ rest) = some (c, rest)) ∧
    (∀ acc cs rest, cs ≠ [] → Ct.goods cs = true → (commas (cs.map Ct.text) ++ 41 :: rest).length + 1 < n → pL n acc (commas (cs.map Ct.text) ++ 41 :: rest) = some (acc ++ cs, rest))
  | 0 => ⟨fun c rest _ _ h => by omega, fun acc cs rest _ _ h => by omega⟩
  | n + 1 => by
    obtain ⟨ihC, ihL⟩ := p_comp n
    refine ⟨fun c rest hg hs hn => ?_, fun acc cs rest hne hg hn => ?_⟩
    · obtain ⟨k, i, l, s, t, e, inn⟩ := c
      rw [good_mk, Bool.and_eq_true] at hg
      obtain ⟨ha, hi⟩ := hg
      have hin : ∀ tl, tl = commas (inn.map Ct.text) ++ 41 :: rest → inn ≠ [] → tl.length + 1 < n → pL n [] tl = some (inn, rest) := by
        rintro tl rfl hne hl
        have := ihL [] inn rest hne hi hl
        simpa using this
      simp only [alike, noNum, slotsOk, someIn] at ha
      by_cases k0 : k = 0
      · subst k0
        simp only [if_true, Bool.and_eq_true, decide_eq_true_eq, List.isEmpty_iff] at ha
        obtain ⟨⟨⟨h1, h2⟩, ⟨h3, h4⟩, h5⟩, h6⟩ := ha
        have e1 := ba_empty (by rw [List.isEmpty_iff]; exact h1)
        have e2 := ba_empty (by rw [List.isEmpty_iff]; exact h2)
        subst e1; subst e2; subst h3; subst h4; subst h5; subst h6
        rw [text0, List.nil_append, pC]
        simp [hs.c.1, Ct.zero]
      by_cases k1 : k = 1
      · subst k1
        simp only [if_true, if_neg (show ¬ (1 : Int) = 0 by decide), Bool.and_eq_true, decide_eq_true_eq, List.isEmpty_iff] at ha
        obtain ⟨⟨⟨h1, h2⟩, ⟨h3, h4⟩, h5⟩, h6⟩ := ha
        subst h3; subst h4; subst h5; subst h6
        have u1 := upto_stop (ends := [58, 44, 41]) (w := [102, 115]) (b := 58) (t := bl i ++ 58 :: (bl l ++ rest)) (by decide) rfl
        have u2 := upto_stop (ends := [58, 40, 44, 41]) (w := bl i) (b := 58) (t := bl l ++ rest) (stop_id h1) rfl
        have u3 := hs.l (stop_label h2)
        rw [text1] at hn ⊢
        rw [show [102, 115] ++ 58 :: (bl i ++ 58 :: bl l) ++ rest = [102, 115] ++ 58 :: (bl i ++ 58 :: (bl l ++ rest)) by simp]
        rw [pC, u1.1, u1.2]
        simp [skip1_at, u2.1, u2.2, u3.1, u3.2]
      by_cases k2 : k = 2
      · subst k2
        simp only [if_true, if_neg (show ¬ (2 : Int) = 0 by decide), if_neg (show ¬ (2 : Int) = 1 by decide), Bool.and_eq_true, decide_eq_true_eq] at ha
        obtain ⟨⟨⟨⟨⟨h1, h2⟩, ⟨⟨h3, h4⟩, h5⟩, h6⟩, h7⟩, h8⟩, h9⟩ := ha
        have e2 := ba_empty h2
        subst e2
        have hne : inn ≠ [] := by intro h; subst h; simp at h9
        rw [text2] at hn ⊢
        rw [show [114, 97, 105, 100] ++ 58 :: (bl i ++ 58 :: (Lib.itoa s ++ 47 :: (Lib.itoa t ++ 47 :: (Lib.itoa e ++ 40 :: (commas (inn.map Ct.text) ++ [41]))))) ++ rest = [114, 97, 105, 100] ++ 58 :: (bl i ++ 58 :: (Lib.itoa s ++ 47 :: (Lib.itoa t ++ 47 :: (Lib.itoa e ++ 40 :: (commas (inn.map Ct.text) ++ 41 :: rest))))) by simp] at hn ⊢
        generalize htl : commas (inn.map Ct.text) ++ 41 :: rest = tl at *
        have u1 := upto_stop (ends := [58, 44, 41]) (w := [114, 97, 105, 100]) (b := 58) (t := bl i ++ 58 :: (Lib.itoa s ++ 47 :: (Lib.itoa t ++ 47 :: (Lib.itoa e ++ 40 :: tl)))) (by decide) rfl
        have u2 := upto_stop (ends := [58, 40, 44, 41]) (w := bl i) (b := 58) (t := Lib.itoa s ++ 47 :: (Lib.itoa t ++ 47 :: (Lib.itoa e ++ 40 :: tl))) (stop_id h1) rfl
        have n1 := pNum_ok s (by omega) (by omega) 47 (Lib.itoa t ++ 47 :: (Lib.itoa e ++ 40 :: tl)) rfl
        have n2 := pNum_ok t (by omega) (by omega) 47 (Lib.itoa e ++ 40 :: tl) rfl
        have n3 := pNum_ok e (by omega) (by omega) 40 tl rfl
        have hl := hin tl rfl hne (by simp at hn; omega)
        rw [pC, u1.1, u1.2]
        simp [skip1_at, u2.1, u2.2, n1, n2, n3, hl]
      by_cases k3 : k = 3
      · subst k3
        simp only [if_true, if_neg (show ¬ (3 : Int) = 0 by decide), if_neg (show ¬ (3 : Int) = 1 by decide), if_neg (show ¬ (3 : Int) = 2 by decide), Bool.and_eq_true, decide_eq_true_eq] at ha
        obtain ⟨⟨⟨h1, h2⟩, ⟨h3, h4⟩, h5⟩, h9⟩ := ha
        have e2 := ba_empty h2
        subst e2; subst h3; subst h4; subst h5
        have hne : inn ≠ [] := by intro h; subst h; simp at h9
        rw [text3] at hn ⊢
        rw [show [99, 114, 121, 112, 116] ++ 58 :: (bl i ++ 40 :: (commas (inn.map Ct.text) ++ [41])) ++ rest = [99, 114, 121, 112, 116] ++ 58 :: (bl i ++ 40 :: (commas (inn.map Ct.text) ++ 41 :: rest)) by simp] at hn ⊢
        generalize htl : commas (inn.map Ct.text) ++ 41 :: rest = tl at *
        have u1 := upto_stop (ends := [58, 44, 41]) (w := [99, 114, 121, 112, 116]) (b := 58) (t := bl i ++ 40 :: tl) (by decide) rfl
        have u2 := upto_stop (ends := [58, 40, 44, 41]) (w := bl i) (b := 40) (t := tl) (stop_id h1) rfl
        have hl := hin tl rfl hne (by simp at hn; omega)
        rw [pC, u1.1, u1.2]
        simp [skip1_at, u2.1, u2.2, hl]
      by_cases k4 : k = 4
      · subst k4
        simp only [if_true, if_neg (show ¬ (4 : Int) = 0 by decide), if_neg (show ¬ (4 : Int) = 1 by decide), if_neg (show ¬ (4 : Int) = 2 by decide), if_neg (show ¬ (4 : Int) = 3 by decide), Bool.and_eq_true, decide_eq_true_eq] at ha
        obtain ⟨⟨⟨⟨h1, h2⟩, ⟨⟨h3, h4⟩, h5⟩, h6⟩, h7⟩, h8, h9⟩ := ha
        have e2 := ba_empty h2
        subst e2; subst h7
        have hne : inn ≠ [] := by intro h; subst h; simp at h8
        rw [text4] at hn ⊢
        rw [show [112, 118] ++ 58 :: (bl i ++ 58 :: (Lib.itoa s ++ 47 :: (Lib.itoa t ++ 40 :: (commas (inn.map Ct.text) ++ [41])))) ++ rest = [112, 118] ++ 58 :: (bl i ++ 58 :: (Lib.itoa s ++ 47 :: (Lib.itoa t ++ 40 :: (commas (inn.map Ct.text) ++ 41 :: rest)))) by simp] at hn ⊢
        generalize htl : commas (inn.map Ct.text) ++ 41 :: rest = tl at *
        have u1 := upto_stop (ends := [58, 44, 41]) (w := [112, 118]) (b := 58) (t := bl i ++ 58 :: (Lib.itoa s ++ 47 :: (Lib.itoa t ++ 40 :: tl))) (by decide) rfl
        have u2 := upto_stop (ends := [58, 40, 44, 41]) (w := bl i) (b := 58) (t := Lib.itoa s ++ 47 :: (Lib.itoa t ++ 40 :: tl)) (stop_id h1) rfl
        have n1 := pNum_ok s (by omega) (by omega) 47 (Lib.itoa t ++ 40 :: tl) rfl
        have n2 := pNum_ok t (by omega) (by omega) 40 tl rfl
        have hl := hin tl rfl hne (by simp at hn; omega)
        rw [pC, u1.1, u1.2]
        simp [skip1_at, u2.1, u2.2, n1, n2, hl]
      by_cases k5 : k = 5
      · subst k5
        simp only [if_true, if_neg (show ¬ (5 : Int) = 0 by decide), if_neg (show ¬ (5 : Int) = 1 by decide), if_neg (show ¬ (5 : Int) = 2 by decide), if_neg (show ¬ (5 : Int) = 3 by decide), if_neg (show ¬ (5 : Int) = 4 by decide), Bool.and_eq_true, decide_eq_true_eq] at ha
        obtain ⟨⟨⟨h1, h2⟩, ⟨h3, h4⟩, h5⟩, h8, h9⟩ := ha
        have e2 := ba_empty h2
        subst e2; subst h3; subst h4; subst h5
        have hne : inn ≠ [] := by intro h; subst h; simp at h8
        rw [text5] at hn ⊢
        rw [show [116, 97, 98, 108, 101] ++ 58 :: (bl i ++ 40 :: (commas (inn.map Ct.text) ++ [41])) ++ rest = [116, 97, 98, 108, 101] ++ 58 :: (bl i ++ 40 :: (commas (inn.map Ct.text) ++ 41 :: rest)) by simp] at hn ⊢
        generalize htl : commas (inn.map Ct.text) ++ 41 :: rest = tl at *
        have u1 := upto_stop (ends := [58, 44, 41]) (w := [116, 97, 98, 108, 101]) (b := 58) (t := bl i ++ 40 :: tl) (by decide) rfl
        have u2 := upto_stop (ends := [58, 40, 44, 41]) (w := bl i) (b := 40) (t := tl) (stop_id h1) rfl
        have hl := hin tl rfl hne (by simp at hn; omega)
        rw [pC, u1.1, u1.2]
        simp [skip1_at, u2.1, u2.2, hl]
      simp [k0, k1, k2, k3, k4, k5] at ha
    · cases cs with
      | nil => exact absurd rfl hne
      | cons c t =>
        rw [Ct.goods, Bool.and_eq_true] at hg
        rw [pL]
        cases t with
        | nil =>
          simp only [List.map_cons, List.map_nil, commas] at hn ⊢
          rw [ihC c (41 :: rest) hg.1 (.inr ⟨_, _, rfl, .inr rfl⟩) (by omega)]
          simp [skip1_at]
        | cons d u =>
          have e : commas (List.map Ct.text (c :: d :: u)) ++ 41 :: rest = c.text ++ 44 :: (commas (List.map Ct.text (d :: u)) ++ 41 :: rest) := by
            simp [commas]
          rw [e] at hn ⊢
          rw [ihC c _ hg.1 (.inr ⟨_, _, rfl, .inl rfl⟩) (by omega)]
          have h2 : skip1 41 (44 :: (commas (List.map Ct.text (d :: u)) ++ 41 :: rest)) = none := by simp [skip1]
          have h3 := ihL (acc ++ [c]) (d :: u) rest (by simp) hg.2 (by simp at hn ⊢; omega)
          simp only [Option.bind_some, h2, skip1_at, h3]
          simp

/-- The content whose text s is. -/
def parseC (s : ByteArray) : Option Ct :=
  if 256 < (bl s).length then none else
  match pC ((bl s).length + 1) (bl s) with
  | some (c, []) => if c.valid = true then some c else none
  | _ => none
theorem parse_iff (s : ByteArray) (c : Ct) : parseC s = some c ↔ (bl s).length ≤ 256 ∧ c.valid = true ∧ c.text = bl s := by
  unfold parseC
  constructor
  · intro h
    split at h
    · cases h
    · rename_i hl
      split at h
      · rename_i c' hp
        split at h
        · rename_i hv
          injection h with h
          subst h
          have := (p_sound _).1 _ _ _ hp
          exact ⟨by omega, hv, by rw [this]; simp⟩
        · cases h
      · cases h
  · rintro ⟨h1, h2, h3⟩
    rw [if_neg (by omega)]
    have hg : c.good = true := by unfold Ct.valid at h2; rw [Bool.and_eq_true] at h2; exact h2.2
    have := (p_comp ((bl s).length + 1)).1 c [] hg (.inl rfl) (by simp [h3])
    rw [List.append_nil, h3] at this
    rw [this]
    simp [h2]
end Go.Proofs.YtbblkknndaoefaaGreatDoor
namespace Go.Proofs.YtbblkknndaoefaaGreatDoor
open Go.RowKit Go.Maps
set_option linter.unusedVariables false

def aflat (l : List (ByteArray × ByteArray)) : List Value := l.flatMap (fun x => [.string x.1, .string x.2])
theorem aflat_len (l : List (ByteArray × ByteArray)) : (aflat l).length = l.length * 2 := by
  induction l with
  | nil => rfl
  | cons d t ih =>
    have : aflat (d :: t) = [.string d.1, .string d.2] ++ aflat t := by simp [aflat]
    rw [this, List.length_append, ih]
    simp; omega
theorem aflat_at : ∀ (l : List (ByteArray × ByteArray)) (i : Nat) (x : ByteArray × ByteArray), l[i]? = some x → (aflat l)[i * 2]? = some (.string x.1) ∧ (aflat l)[i * 2 + 1]? = some (.string x.2)
  | [], i, d, h => by simp at h
  | y :: t, 0, x, h => by
    simp at h; subst h
    exact ⟨rfl, rfl⟩
  | y :: t, i + 1, x, h => by
    have e : aflat (y :: t) = .string y.1 :: .string y.2 :: aflat t := by simp [aflat]
    have h1 := aflat_at t i x (by simpa using h)
    rw [e, show (i + 1) * 2 = i * 2 + 1 + 1 from by omega]
    exact h1
theorem aflat_inv (l : List (ByteArray × ByteArray)) (j : Nat) (u : Value) (h : (aflat l)[j]? = some u) : ∃ i x, l[i]? = some x ∧ ((j = i * 2 ∧ u = .string x.1) ∨ (j = i * 2 + 1 ∧ u = .string x.2)) := by
  have hlt : j < (aflat l).length := (List.getElem?_eq_some_iff.1 h).1
  rw [aflat_len] at hlt
  have hi : j / 2 < l.length := by omega
  have h1 := aflat_at l (j / 2) l[j / 2] (List.getElem?_eq_getElem hi)
  refine ⟨j / 2, l[j / 2], List.getElem?_eq_getElem hi, ?_⟩
  rcases (by omega : j = j / 2 * 2 ∨ j = j / 2 * 2 + 1) with e | e
  · left; refine ⟨e, ?_⟩
    rw [e, h1.1] at h; exact (Option.some.inj h).symm
  · right; refine ⟨e, ?_⟩
    rw [e, h1.2] at h; exact (Option.some.inj h).symm
theorem aflat_one (l : List (ByteArray × ByteArray)) : ∀ u ∈ aflat l, u.oneCell' = true := by
  intro u hu
  obtain ⟨x, _, hu⟩ := List.mem_flatMap.1 hu
  simp at hu
  rcases hu with rfl | rfl <;> rfl
theorem Atts.src {W : World} {a : Option Addr} {cap : Nat} {l : List (ByteArray × ByteArray)} (h : Atts W a cap l) : ∀ ad, a = some ad → ∀ j u, (aflat l)[j]? = some u → W.cell? (ad.add j) = some u := by
  intro ad e j u hu
  obtain ⟨i, x, hx, hj⟩ := aflat_inv _ _ _ hu
  obtain ⟨h1, _, h3⟩ := h.cell ad e (by intro e; subst e; simp at hx)
  obtain ⟨b, o, sp⟩ := ad
  simp only at h1; subst h1
  have h4 := h3 i x hx
  rw [Addr.add_lit]
  rcases hj with ⟨rfl, rfl⟩ | ⟨rfl, rfl⟩
  · exact h4.1
  · exact h4.2
theorem Atts.of_own {w : World} {base : Nat} {e : TypeId} {v : Value} {l : List (ByteArray × ByteArray)} (h : w.ownsRow base e 2 v l.length (aflat l)) (hw : ∀ x ∈ l, x.1.size ≤ maxLen ∧ x.2.size ≤ maxLen) :
    ∃ a cap, v = .slice a l.length cap ∧ Atts w a cap l ∧ ∀ ad, a = some ad → base ≤ ad.block := by
  obtain ⟨_, ⟨rfl, h2⟩ | ⟨g, cap, cur, rfl, hg, hb, h1, h2, h3, h4⟩⟩ := h
  · have : l = [] := List.eq_nil_of_length_eq_zero h2
    subst this
    exact ⟨none, 0, rfl, Atts.nil w, fun _ e => by cases e⟩
  · refine ⟨some ⟨g, 0, none⟩, cap, rfl, ⟨h1, h2, (fun e => by cases e), hw, ?_⟩, fun ad e => by cases e; exact hg⟩
    intro ad e hne
    cases e
    refine ⟨rfl, lt_of_block hb, fun i x hi => ?_⟩
    have hlt : i < l.length := (List.getElem?_eq_some_iff.1 hi).1
    have h5 := aflat_at l i x hi
    rw [cell_of_block hb, cell_of_block hb]
    simp only [Nat.zero_add]
    rw [← Array.getElem?_toList, ← Array.getElem?_toList]
    have e1 : ∀ j, j < l.length * 2 → cur.toList[j]? = (aflat l)[j]? := fun j hj => by
      rw [← h4, List.getElem?_take_of_lt hj]
    rw [e1 _ (by omega), e1 _ (by omega)]
    exact h5

end Go.Proofs.YtbblkknndaoefaaGreatDoor
namespace Go.Proofs.YtbblkknndaoefaaGreatDoor
open Go.RowKit Go.Maps
set_option linter.unusedVariables false

/-- One text of a list is handed back. -/
def OneOf (l : List ByteArray) (e : Ending) : Prop := ∃ s, e = .returned (.string s) ∧ s ∈ l

set_option maxHeartbeats 1000000 in
theorem tape_one (B tb k : Nat) (a : Option Addr) (cap : Nat) (l : List ByteArray) (w : World) (ht : Tape w B tb k) (hk : k ≤ 1000000000000) (hl : Strs w a cap l) (h1 : 1 ≤ l.length) (h2 : l.length ≤ 4294967296) (htb : ∀ ad, a = some ad → ad.block ≠ tb) :
    Calls Tryz.prog 54 #[.pointer (some ⟨tb, 0, none⟩), .slice a l.length cap] w fun e w' => OneOf l e ∧ Tape w' B tb (k + 1) ∧ Fr (Is tb) w w' := by
  have hne : ((l.length : Int) == 0) = false := by simp; intro h; subst h; simp at h1
  go_enter Tryz.func54, Tryz.ntmps54
  go_wp2_with fail
  refine (tape_next B tb k l.length _ ht hk (by omega) (by omega)).mono ?_
  rintro e w1 ⟨r, rfl, hr1, hr2, ht1, hf1⟩
  obtain ⟨r, rfl⟩ := Int.eq_ofNat_of_zero_le hr1
  have hlt : r < l.length := by omega
  have hl1 := hl.fr hf1 (fun ad e _ h => htb ad e h)
  obtain ⟨b, off, x, rfl, hx, hc⟩ := hl1.at hlt
  have Hx := Lib.hid hx
  clear hx
  go_wp2_with fail
  go_ret
  exact ⟨⟨x, rfl, List.mem_of_getElem? Hx.out⟩, ht1, hf1⟩

/-- The contents that Contents hands back. -/
def contents : List ByteArray := [
  ⟨#[]⟩,
  ⟨#[102, 115, 58, 102, 58]⟩,
  ⟨#[102, 115, 58, 103, 58, 76]⟩,
  ⟨#[114, 97, 105, 100, 58, 114, 58, 49, 47, 50, 47, 49, 40, 102, 115, 58, 102, 58, 41]⟩,
  ⟨#[114, 97, 105, 100, 58, 114, 58, 50, 47, 50, 47, 49, 40, 102, 115, 58, 102, 58, 41]⟩,
  ⟨#[99, 114, 121, 112, 116, 58, 99, 40, 102, 115, 58, 103, 58, 41]⟩,
  ⟨#[112, 118, 58, 118, 58, 49, 47, 49, 40, 102, 115, 58, 102, 58, 44, 99, 114, 121, 112, 116, 58, 99, 40, 102, 115, 58, 104, 58, 41, 41]⟩,
  ⟨#[116, 97, 98, 108, 101, 58, 116, 40, 102, 115, 58, 102, 58, 44, 99, 114, 121, 112, 116, 58, 99, 40, 114, 97, 105, 100, 58, 114, 58, 49, 47, 50, 47, 49, 40, 102, 115, 58, 120, 58, 41, 41, 41]⟩,
  ⟨#[116, 97, 98, 108, 101, 58, 116, 40, 114, 97, 105, 100, 58, 114, 58, 49, 47, 50, 47, 49, 40, 116, 97, 98, 108, 101, 58, 117, 40, 102, 115, 58, 102, 58, 41, 41, 44, 114, 97, 105, 100, 58, 114, 58, 50, 47, 50, 47, 49, 40, 116, 97, 98, 108, 101, 58, 117, 40, 102, 115, 58, 102, 58, 41, 41, 41]⟩,
  ⟨#[114, 97, 105, 100, 58, 114, 58, 49, 47, 49, 47, 49, 40, 114, 97, 105, 100, 58, 114, 58, 49, 47, 49, 47, 49, 40, 102, 115, 58, 102, 58, 41, 41]⟩,
  ⟨#[112, 118, 58, 118, 58, 49, 47, 50, 40, 102, 115, 58, 102, 58, 41]⟩,
  ⟨#[112, 118, 58, 118, 58, 50, 47, 50, 40, 102, 115, 58, 102, 58, 41]⟩,
  ⟨#[99, 114, 121, 112, 116, 58, 100, 40, 112, 118, 58, 118, 58, 49, 47, 49, 40, 114, 97, 105, 100, 58, 115, 58, 49, 47, 51, 47, 50, 40, 102, 115, 58, 121, 58, 41, 41, 41]⟩,
  ⟨#[114, 97, 105, 100, 58, 115, 58, 50, 47, 51, 47, 50, 40, 102, 115, 58, 121, 58, 41]⟩,
  ⟨#[114, 97, 105, 100, 58, 115, 58, 51, 47, 51, 47, 50, 40, 102, 115, 58, 121, 58, 41]⟩,
  ⟨#[110, 111, 110, 115, 101, 110, 115, 101]⟩]
theorem contents_size : ∀ s ∈ contents, s.size ≤ 256 := by decide
theorem contents_len : contents.length = 16 := rfl

theorem Strs.of_block {w : World} {b : Nat} {l : List ByteArray} {T : TypeId} {fz : Nat × Nat} (h : w.heap[b]? = some (.cells (l.map Value.string).toArray T fz)) (hm : l.length ≤ maxLen) : Strs w (some ⟨b, 0, none⟩) l.length l := by
  refine ⟨Nat.le_refl _, hm, (fun e => by cases e), fun ad e hne => ?_⟩
  cases e
  refine ⟨rfl, lt_of_block h, fun i x hi => ?_⟩
  rw [cell_of_block h]
  simp [hi]

set_option maxRecDepth 100000 in
set_option maxHeartbeats 1000000 in
theorem made_contents (w : World) :
    Calls Tryz.prog 36 #[] w fun e w' => e = .returned (.slice (some ⟨w.heap.size, 0, none⟩) 16 16) ∧ Strs w' (some ⟨w.heap.size, 0, none⟩) 16 contents ∧ Fr No w w' := by
  have hb := block_alloc w (.cells (contents.map Value.string).toArray 9)
  have hs := Strs.of_block hb (by rw [contents_len]; unfold maxLen; omega)
  rw [contents_len] at hs
  have hf : Fr No w (w.alloc (.cells (contents.map Value.string).toArray 9)) := (Fr.refl _ _).alloc _
  have H := Lib.hid (And.intro hs hf)
  clear hb hs hf
  go_enter Tryz.func36, Tryz.ntmps36
  go_wp2_with fail
  go_ret
  exact ⟨rfl, H.out⟩
end Go.Proofs.YtbblkknndaoefaaGreatDoor
/- Device: makes a device of any numbers. -/
namespace Go.Proofs.YtbblkknndaoefaaGreatDoor
open Go.RowKit Go.Maps
set_option linter.unusedVariables false

section
variable {w W W' : World} {B tb : Nat} {a : Option Addr} {n cap Bd : Nat} {i : Int} {k : Nat} {d : Dev} {l : List (ByteArray × ByteArray)}
end

/-- The tape's block, and what is new. -/
def TB (tb B0 : Nat) : Nat → Prop := fun x => x = tb ∨ B0 ≤ x
theorem Fr.swap {T : Nat → Prop} (w : World) (o o' : Obj) (h : T w.heap.size) : Fr T (w.alloc o) (w.alloc o') := by
  have f1 : Fr No w (w.alloc o) := (Fr.refl _ _).alloc _
  have f2 : Fr No w (w.alloc o') := (Fr.refl _ _).alloc _
  refine ⟨rfl, rfl, rfl, by simp, fun k hk hn => ?_⟩
  have hlt : k < w.heap.size := by
    rw [World.size_alloc] at hk
    by_cases e : k = w.heap.size
    · subst e; exact absurd h hn
    · omega
  exact (f2.block k hlt id).trans (f1.block k hlt id).symm

/-- What Device hands back. -/
structure DevTo (w w' : World) (B tb k' : Nat) (i : Int) (d : Dev) (l : List (ByteArray × ByteArray)) : Prop where
  fr : Fr (Is tb) w w'
  tape : Tape w' B tb k'
  ix : d.index = i
  drv : d.drv = ⟨#[]⟩
  sz : Sized d
  att : Atts w' d.aa d.ac l
  an : d.an = l.length
  afr : ∀ ad, d.aa = some ad → w.heap.size ≤ ad.block
  lb : l.length ≤ 1
def DevRes (w w' : World) (B tb K : Nat) (i : Int) (e : Ending) : Prop := ∃ k' d l, k' ≤ K ∧ e = .returned (.agg d.vals) ∧ DevTo w w' B tb k' i d l

/-- One at a list that was just laid. -/
theorem one_lit (B tb k n : Nat) (l : List ByteArray) (W : World) (ht : Tape W B tb k) (hk : k ≤ 1000000000000) (vs : Array Value) (hv : vs = (l.map Value.string).toArray) (hn : n = l.length) (h1 : 1 ≤ l.length) (h2 : l.length ≤ 4294967296) :
    Calls Tryz.prog 54 #[.pointer (some ⟨tb, 0, none⟩), .slice (some ⟨W.heap.size, 0, none⟩) n n] (W.alloc (.cells vs 9)) fun e w' => OneOf l e ∧ Tape w' B tb (k + 1) ∧ Fr (Is tb) W w' := by
  subst hv hn
  have hx : Fr No W (W.alloc (.cells (l.map Value.string).toArray 9)) := (Fr.refl _ _).alloc _
  have hs := Strs.of_block (block_alloc W (.cells (l.map Value.string).toArray 9)) (by unfold maxLen; omega)
  have htl := ht.lt
  exact (tape_one B tb k _ _ l _ (ht.fr hx (fun _ _ => id) id) hk hs h1 h2 (fun ad e => by cases e; simp; omega)).mono fun e w' ⟨h1, h2, h3⟩ => ⟨h1, h2, (hx.mono (T := Is tb) (fun _ _ h => h.elim)).step h3 (fun _ _ h => h)⟩
/-- One of some texts, all short. -/
theorem OneOf.short {l : List ByteArray} {e : Ending} (h : OneOf l e) {N : Nat} (hl : (l.all fun s => decide (s.size ≤ N)) = true) : ∃ s, e = .returned (.string s) ∧ s.size ≤ N := by
  obtain ⟨s, h1, h2⟩ := h
  exact ⟨s, h1, by simpa using List.all_eq_true.1 hl s h2⟩

end Go.Proofs.YtbblkknndaoefaaGreatDoor
namespace Go.Proofs.YtbblkknndaoefaaGreatDoor
open Go.RowKit Go.Maps
set_option linter.unusedVariables false

/-- A device whose attributes lie in memory, in blocks from base on. -/
structure ElOk (W : World) (base : Nat) (d : Dev) : Prop where
  sz : Sized d
  drv : d.drv = ⟨#[]⟩
  att : ∃ l, Atts W d.aa d.ac l ∧ d.an = l.length ∧ l.length ≤ 24
  fresh : ∀ ad, d.aa = some ad → base ≤ ad.block
/-- A tree in memory, in blocks from base on. -/
structure Tr (W : World) (base : Nat) (a : Option Addr) (cap : Nat) (ds : List Dev) : Prop where
  dv : Devs W a cap ds
  wf : TreeWf ds
  fresh : ∀ ad, a = some ad → base ≤ ad.block
  el : ∀ d ∈ ds, ElOk W base d
theorem ElOk.fr {S : Nat → Prop} {W W' : World} {base : Nat} {d : Dev} (h : ElOk W base d) (hf : Fr S W W') (hS : ∀ b, base ≤ b → ¬ S b) : ElOk W' base d := by
  obtain ⟨l, h1, h2⟩ := h.att
  exact ⟨h.sz, h.drv, ⟨l, h1.fr hf (fun ad e _ => hS _ (h.fresh ad e)), h2⟩, h.fresh⟩
theorem Tr.fr {S : Nat → Prop} {W W' : World} {base : Nat} {a : Option Addr} {cap : Nat} {ds : List Dev} (h : Tr W base a cap ds) (hf : Fr S W W') (hS : ∀ b, base ≤ b → ¬ S b) : Tr W' base a cap ds :=
  ⟨h.dv.fr hf (fun ad e _ => hS _ (h.fresh ad e)), h.wf, h.fresh, fun d hd => (h.el d hd).fr hf hS⟩
theorem Tr.no {W W' : World} {base : Nat} {a : Option Addr} {cap : Nat} {ds : List Dev} (h : Tr W base a cap ds) (hf : Fr No W W') : Tr W' base a cap ds := h.fr hf (fun _ _ => id)
theorem Tr.nil (W : World) (base : Nat) : Tr W base none 0 [] := ⟨Devs.nil W, TreeWf.nil, (fun _ e => by cases e), (fun d h => by simp at h)⟩

section
variable {w W W' : World} {B tb k : Nat} {a : Option Addr} {cap : Nat} {ds : List Dev}
theorem Tr.store (h : Tr W (w.heap.size + 2) a cap ds) {b : Nat} {x : Option Addr} {y z : Nat} {T : TypeId} (hb : W.heap[b]? = some (.cells #[.slice x y z] T)) (v : Value) : Tr (W.setCell ⟨b, 0, none⟩ v) (w.heap.size + 2) a cap ds := by
  have hf : Fr (Is b) W (W.setCell ⟨b, 0, none⟩ v) := Fr.setAt (Fr.refl _ _) _
  have hc : ∀ (o : Nat) (u : Value), W.cell? ⟨b, o, none⟩ = some u → u = .slice x y z := fun o u hu => by
    rw [cell_of_block hb] at hu
    match o, hu with
    | 0, hu => simpa using hu.symm
  refine ⟨h.dv.fr hf (fun ad e hne hS => ?_), h.wf, h.fresh, fun d hd => ?_⟩
  · obtain ⟨h1, _, h3⟩ := h.dv.cell ad e hne
    cases ds with
    | nil => exact hne rfl
    | cons d t =>
      have h4 := h3 0 d rfl 0 (by omega)
      unfold Is at hS
      rw [hS] at h4
      have := hc _ _ h4
      cases this
  · have he := h.el d hd
    obtain ⟨l, h1, h2⟩ := he.att
    refine ⟨he.sz, he.drv, ⟨l, h1.fr hf (fun ad e hne hS => ?_), h2⟩, he.fresh⟩
    obtain ⟨_, _, h3⟩ := h1.cell ad e hne
    cases l with
    | nil => exact hne rfl
    | cons q t =>
      have h4 := (h3 0 q rfl).1
      unfold Is at hS
      rw [hS] at h4
      have := hc _ _ h4
      cases this
end

theorem DevTo.el {w w' : World} {B tb k' : Nat} {i : Int} {d : Dev} {l : List (ByteArray × ByteArray)} (h : DevTo w w' B tb k' i d l) {base : Nat} (hb : base ≤ w.heap.size) : ElOk w' base d :=
  ⟨h.sz, h.drv, ⟨l, h.att, h.an, by have := h.lb; omega⟩, fun ad e => Nat.le_trans hb (h.afr ad e)⟩

/-- What Tree hands back. -/
def TreeRes (w w' : World) (B tb K N : Nat) (e : Ending) : Prop := ∃ a cap ds k', k' ≤ K ∧ ds.length ≤ N ∧ e = .returned (.agg #[.slice a ds.length cap]) ∧ Tr w' (w.heap.size + 2) a cap ds ∧ Tape w' B tb k' ∧ Fr (Is tb) w w'

end Go.Proofs.YtbblkknndaoefaaGreatDoor
/- A tree in memory under frames; a new tape. -/
namespace Go.Proofs.YtbblkknndaoefaaGreatDoor
open Go.RowKit Go.Maps
set_option linter.unusedVariables false

theorem Tr.keep {X W : World} {base : Nat} {a : Option Addr} {cap : Nat} {ds : List Dev} {S : Nat → Prop} (h : Tr X base a cap ds) (hf : Fr S X W) (hS : ∀ b, b < X.heap.size → base ≤ b → ¬ S b) : Tr W base a cap ds := by
  refine ⟨h.dv.fr hf (fun ad e hne => hS _ (h.dv.cell ad e hne).2.1 (h.fresh ad e)), h.wf, h.fresh, fun d hd => ?_⟩
  have he := h.el d hd
  obtain ⟨l, h1, h2⟩ := he.att
  exact ⟨he.sz, he.drv, ⟨l, h1.fr hf (fun ad e hne => hS _ (h1.cell ad e hne).2.1 (he.fresh ad e)), h2⟩, he.fresh⟩
theorem Tape.make {w : World} {a : Option Addr} {cap : Nat} {l : List Int} (h : Ints w a cap l) (T : TypeId) :
    Tape (w.alloc (.cells #[.slice a l.length cap, .int .i64 0] T)) w.heap.size w.heap.size 0 :=
  ⟨a, cap, l, T, h.fr ((Fr.refl No _).alloc _) (fun _ _ _ h => h), fun ad e hne => (h.cell ad e hne).2.1, Nat.le_refl _, block_alloc _ _⟩
end Go.Proofs.YtbblkknndaoefaaGreatDoor
namespace Go.Proofs.YtbblkknndaoefaaGreatDoor
open Go.RowKit Go.Maps
set_option linter.unusedVariables false

/-- A device was found, or not. -/
def FoundD (w w' : World) (ds : List Dev) (n : Int) (e : Ending) : Prop :=
  (look ds n = none ∧ e = .returned (.tuple #[.agg Dev.zero.vals, .bool false])) ∨
  ∃ d a' c' l, look ds n = some d ∧ e = .returned (.tuple #[.agg ({ d with aa := a', ac := c' } : Dev).vals, .bool true]) ∧ Atts w' a' c' l ∧ d.an = l.length ∧ l.length ≤ 24 ∧ ∀ ad, a' = some ad → w.heap.size ≤ ad.block

end Go.Proofs.YtbblkknndaoefaaGreatDoor
