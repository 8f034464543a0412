/- The words of a parsed content are short. Plain. The texts of contents as the program writes them. Plain. Frames: which blocks of a world may differ from those of an elder world. Plain laws; no function of the program is walked here. Slices of ints that are read: In, SameInts; the tape: Fold, Next. -/
import Derived.Test.YtcibciippghooaaGreatDoorZL1
import Derived.Lib.Join
import Derived.Test.YtcibciippghooaaGreatDoorProg
import Derived.WalkKit
import Derived.WalkSpells
import Derived.WalkLawsBesides
import Derived.Maps.OwnSet
import Derived.Deep.QuietTactic
import Derived.BigQuiet
import Derived.Lib.Hide
import Derived.Deep.DeepFit
import Derived.Deep.DeepMust
namespace Go.Proofs.YtcibciippghooaaGreatDoor
open Go
set_option linter.unusedVariables false
mutual
/-- A content and all in it. -/
def Ct.walk : Ct → List Ct
  | .mk k i l s t e n => .mk k i l s t e n :: Ct.walks n
def Ct.walks : List Ct → List Ct
  | [] => []
  | c :: t => c.walk ++ Ct.walks t
end
mutual
theorem walk_len : ∀ c : Ct, c.walk.length = c.count
  | .mk k i l s t e n => by rw [Ct.walk, Ct.count, List.length_cons, walks_len n]
theorem walks_len : ∀ l : List Ct, (Ct.walks l).length = Ct.counts l
  | [] => rfl
  | c :: t => by rw [Ct.walks, Ct.counts, List.length_append, walk_len c, walks_len t]
end
theorem walks_append : ∀ (l m : List Ct), Ct.walks (l ++ m) = Ct.walks l ++ Ct.walks m
  | [], m => rfl
  | c :: t, m => by rw [List.cons_append, Ct.walks, Ct.walks, walks_append t m, List.append_assoc]
mutual
theorem good_walk : ∀ c : Ct, c.good = c.walk.all alike
  | .mk k i l s t e n => by rw [Ct.good, Ct.walk, List.all_cons, goods_walk n]
theorem goods_walk : ∀ l : List Ct, Ct.goods l = (Ct.walks l).all alike
  | [] => rfl
  | c :: t => by rw [Ct.goods, Ct.walks, List.all_append, good_walk c, goods_walk t]
end
/-- Its ID and label are of at most m bytes. -/
def SmallC (m : Nat) (d : Ct) : Prop := d.id.size ≤ m ∧ d.label.size ≤ m
theorem SmallC.mono {m m' : Nat} {d : Ct} (h : SmallC m d) (hm : m ≤ m') : SmallC m' d := ⟨Nat.le_trans h.1 hm, Nat.le_trans h.2 hm⟩
theorem upto_len (ends r : List UInt8) : (upto ends r).length ≤ r.length := by
  have h := congrArg List.length (upto_past ends r)
  rw [List.length_append] at h
  omega
theorem p_small : ∀ n : Nat, (∀ r c r', pC n r = some (c, r') → ∀ d ∈ c.walk, SmallC r.length d) ∧ (∀ acc r l r', pL n acc r = some (l, r') → ∀ d ∈ Ct.walks l, d ∈ Ct.walks acc ∨ SmallC r.length d)
  | 0 => ⟨fun r c r' h => by simp [pC] at h, fun acc r l r' h => by simp [pL] at h⟩
  | n + 1 => by
    obtain ⟨ihC, ihL⟩ := p_small n
    have ihN := (p_count n).1
    have hin : ∀ ra (pb : List Ct × List UInt8), pL n [] ra = some pb → ∀ d ∈ Ct.walks pb.1, SmallC ra.length d := fun ra pb h d hd => by
      rcases ihL [] ra pb.1 pb.2 h d hd with h | h
      · simp [Ct.walks] at h
      · exact h
    refine ⟨fun r c r' h => ?_, fun acc r l r' h => ?_⟩
    · have hr := past_len [58, 44, 41] r
      rw [pC] at h
      by_cases h0 : upto [58, 44, 41] r = []
      · rw [if_pos h0] at h
        injection h with h
        injection h with h1 h2
        subst h1; subst h2
        intro d hd
        simp [Ct.zero, Ct.walk, Ct.walks] at hd
        subst hd
        exact ⟨Nat.zero_le _, Nat.zero_le _⟩
      rw [if_neg h0] at h
      obtain ⟨r2, hr2, h⟩ := Option.bind_eq_some_iff.1 h
      have e2 := skip1_len hr2
      have hid := past_len [58, 40, 44, 41] r2
      have hiu := upto_len [58, 40, 44, 41] r2
      simp only at h
      generalize upto [58, 40, 44, 41] r2 = di at h hiu
      generalize past [58, 40, 44, 41] r2 = r3 at h hid
      split at h
      · obtain ⟨r4, hr4, h⟩ := Option.bind_eq_some_iff.1 h
        have e4 := skip1_len hr4
        have hl := past_len [44, 41] r4
        injection h with h
        injection h with h1 h2
        subst h1; subst h2
        have hlu := upto_len [44, 41] r4
        intro d hd
        simp only [Ct.walk, Ct.walks, List.mem_singleton] at hd
        subst hd
        exact ⟨by show di.toArray.size ≤ _; simp; omega, by show (upto [44, 41] r4).toArray.size ≤ _; simp; omega⟩
      split at h
      · obtain ⟨r4, hr4, h⟩ := Option.bind_eq_some_iff.1 h
        obtain ⟨p5, hp5, h⟩ := Option.bind_eq_some_iff.1 h
        obtain ⟨r6, hr6, h⟩ := Option.bind_eq_some_iff.1 h
        obtain ⟨p7, hp7, h⟩ := Option.bind_eq_some_iff.1 h
        obtain ⟨r8, hr8, h⟩ := Option.bind_eq_some_iff.1 h
        obtain ⟨p9, hp9, h⟩ := Option.bind_eq_some_iff.1 h
        obtain ⟨ra, hra, h⟩ := Option.bind_eq_some_iff.1 h
        obtain ⟨pb, hpb, h⟩ := Option.bind_eq_some_iff.1 h
        injection h with h
        injection h with h1 h2
        subst h1; subst h2
        have e5 := pNum_len hp5
        have e7 := pNum_len hp7
        have e9 := pNum_len hp9
        have e4 := skip1_len hr4
        have e6 := skip1_len hr6
        have e8 := skip1_len hr8
        have ea := skip1_len hra
        have eb := hin ra pb hpb
        intro d hd
        rw [Ct.walk] at hd
        rcases List.mem_cons.1 hd with rfl | hd
        · exact ⟨by show di.toArray.size ≤ _; simp; omega, Nat.zero_le _⟩
        · exact (eb d hd).mono (by omega)
      split at h
      · obtain ⟨ra, hra, h⟩ := Option.bind_eq_some_iff.1 h
        obtain ⟨pb, hpb, h⟩ := Option.bind_eq_some_iff.1 h
        injection h with h
        injection h with h1 h2
        subst h1; subst h2
        have ea := skip1_len hra
        have eb := hin ra pb hpb
        intro d hd
        rw [Ct.walk] at hd
        rcases List.mem_cons.1 hd with rfl | hd
        · exact ⟨by show di.toArray.size ≤ _; simp; omega, Nat.zero_le _⟩
        · exact (eb d hd).mono (by omega)
      split at h
      · obtain ⟨r4, hr4, h⟩ := Option.bind_eq_some_iff.1 h
        obtain ⟨p5, hp5, h⟩ := Option.bind_eq_some_iff.1 h
        obtain ⟨r6, hr6, h⟩ := Option.bind_eq_some_iff.1 h
        obtain ⟨p7, hp7, h⟩ := Option.bind_eq_some_iff.1 h
        obtain ⟨ra, hra, h⟩ := Option.bind_eq_some_iff.1 h
        obtain ⟨pb, hpb, h⟩ := Option.bind_eq_some_iff.1 h
        injection h with h
        injection h with h1 h2
        subst h1; subst h2
        have e5 := pNum_len hp5
        have e7 := pNum_len hp7
        have e4 := skip1_len hr4
        have e6 := skip1_len hr6
        have ea := skip1_len hra
        have eb := hin ra pb hpb
        intro d hd
        rw [Ct.walk] at hd
        rcases List.mem_cons.1 hd with rfl | hd
        · exact ⟨by show di.toArray.size ≤ _; simp; omega, Nat.zero_le _⟩
        · exact (eb d hd).mono (by omega)
      split at h
      · obtain ⟨ra, hra, h⟩ := Option.bind_eq_some_iff.1 h
        obtain ⟨pb, hpb, h⟩ := Option.bind_eq_some_iff.1 h
        injection h with h
        injection h with h1 h2
        subst h1; subst h2
        have ea := skip1_len hra
        have eb := hin ra pb hpb
        intro d hd
        rw [Ct.walk] at hd
        rcases List.mem_cons.1 hd with rfl | hd
        · exact ⟨by show di.toArray.size ≤ _; simp; omega, Nat.zero_le _⟩
        · exact (eb d hd).mono (by omega)
      · cases h
    · rw [pL] at h
      obtain ⟨p, hp, h⟩ := Option.bind_eq_some_iff.1 h
      have e1 := ihC r p.1 p.2 hp
      cases hs : skip1 41 p.2 with
      | some r2 =>
        rw [hs] at h
        simp only at h
        injection h with h
        injection h with h1 h2
        subst h1; subst h2
        have e2 := skip1_len hs
        intro d hd
        rw [walks_append] at hd
        rcases List.mem_append.1 hd with hd | hd
        · exact .inl hd
        · exact .inr (e1 d (by simpa [Ct.walks] using hd))
      | none =>
        rw [hs] at h
        simp only at h
        obtain ⟨r2, hr2, h⟩ := Option.bind_eq_some_iff.1 h
        have e2 := skip1_len hr2
        have e3 := ihN r p.1 p.2 hp
        have e4 := count_pos p.1
        intro d hd
        rcases ihL _ r2 l r' h d hd with h5 | h5
        · rw [walks_append] at h5
          rcases List.mem_append.1 h5 with h5 | h5
          · exact .inl h5
          · exact .inr (e1 d (by simpa [Ct.walks] using h5))
        · exact .inr (h5.mono (by omega))
mutual
theorem inner_len : ∀ {c d : Ct}, d ∈ c.walk → d.inner.length ≤ c.count
  | .mk k i l s t e n, d, h => by
    rw [Ct.walk] at h
    rw [Ct.count]
    rcases List.mem_cons.1 h with rfl | h
    · have := len_counts n
      show n.length ≤ _
      omega
    · have := inner_lens h
      omega
theorem inner_lens : ∀ {n : List Ct} {d : Ct}, d ∈ Ct.walks n → d.inner.length ≤ Ct.counts n
  | [], d, h => by simp [Ct.walks] at h
  | c :: t, d, h => by
    rw [Ct.walks] at h
    rw [Ct.counts]
    rcases List.mem_append.1 h with h | h
    · have := inner_len h
      omega
    · have := inner_lens h
      omega
end
end Go.Proofs.YtcibciippghooaaGreatDoor
namespace Go.Proofs.YtcibciippghooaaGreatDoor
open Go
set_option linter.unusedVariables false
theorem bl_append (a b : ByteArray) : bl (a ++ b) = bl a ++ bl b := by simp [bl]
theorem ba_ext {a b : ByteArray} (h : bl a = bl b) : a = b := by
  rw [← mk_bl a, ← mk_bl b, h]
/-- The text of a content. -/
def Ct.txt (c : Ct) : ByteArray := ⟨c.text.toArray⟩
theorem bl_txt (c : Ct) : bl c.txt = c.text := bl_mk _
theorem join_commas : ∀ l : List (List UInt8), Lib.join l [44] = commas l
  | [] => rfl
  | [x] => by simp [Lib.join, commas, List.intercalate]
  | x :: y :: t => by
    have h := join_commas (y :: t)
    unfold Lib.join at *
    rw [commas, ← h]
    simp [List.intercalate, List.intersperse]
theorem commas_mem {x : List UInt8} : ∀ {l : List (List UInt8)}, x ∈ l → x.length ≤ (commas l).length
  | [], h => by cases h
  | [y], h => by simp at h; subst h; simp [commas]
  | y :: z :: t, h => by
    rw [commas]
    rcases List.mem_cons.1 h with rfl | h
    · simp
    · have := commas_mem h
      simp; omega
/-- What stands in the brackets. -/
def inTxt (n : List Ct) : ByteArray := ⟨(commas (n.map Ct.text)).toArray⟩
theorem bl_in (n : List Ct) : bl (inTxt n) = commas (n.map Ct.text) := bl_mk _
theorem in_join (n : List Ct) : (⟨(Lib.join ((n.map Ct.txt).map (·.data.toList)) [44]).toArray⟩ : ByteArray) = inTxt n := by
  rw [join_commas, List.map_map]
  have : (fun c => ((fun x : ByteArray => x.data.toList) ∘ Ct.txt) c) = Ct.text := funext fun c => bl_txt c
  show (⟨(commas (n.map (fun c => ((fun x : ByteArray => x.data.toList) ∘ Ct.txt) c))).toArray⟩ : ByteArray) = _
  rw [this]; rfl
theorem in_len (n : List Ct) : (Lib.join ((n.map Ct.txt).map (·.data.toList)) [44]).length = (commas (n.map Ct.text)).length := by
  have := congrArg bl (in_join n)
  rw [bl_mk, bl_in] at this
  rw [this]
theorem isId_size {i : ByteArray} (h : isId i = true) : i.size ≤ 16 := by
  unfold isId at h
  simp only [Bool.and_eq_true, decide_eq_true_eq] at h
  exact h.1.2
theorem good_alike {c : Ct} (h : c.good = true) : alike c = true ∧ c.inner.all Ct.good = true := by
  rw [good_mk, Bool.and_eq_true, goods_all] at h
  exact h
/-- Words of a content that has the fields of its kind are short. -/
theorem alike_small {k s t e : Int} {i l : ByteArray} {n : List Ct} (h : alike (.mk k i l s t e n) = true) : i.size ≤ 16 ∧ l.size ≤ 16 := by
  have he : ∀ x : ByteArray, (bl x).isEmpty = true → x.size ≤ 16 := fun x hx => by rw [ba_empty hx]; decide
  rw [alike] at h
  by_cases hk0 : k = 0
  · rw [if_pos hk0] at h
    simp only [Bool.and_eq_true] at h; exact ⟨he _ h.1.1.1, he _ h.1.1.2⟩
  rw [if_neg hk0] at h
  by_cases hk1 : k = 1
  · rw [if_pos hk1] at h
    simp only [Bool.and_eq_true, Bool.or_eq_true] at h
    exact ⟨isId_size h.1.1.1, h.1.1.2.elim (he _) isId_size⟩
  rw [if_neg hk1] at h
  by_cases hk2 : k = 2
  · rw [if_pos hk2] at h
    simp only [Bool.and_eq_true] at h; exact ⟨isId_size h.1.1.1.1.1, he _ h.1.1.1.1.2⟩
  rw [if_neg hk2] at h
  by_cases hk3 : k = 3
  · rw [if_pos hk3] at h
    simp only [Bool.and_eq_true] at h; exact ⟨isId_size h.1.1.1, he _ h.1.1.2⟩
  rw [if_neg hk3] at h
  by_cases hk4 : k = 4
  · rw [if_pos hk4] at h
    simp only [Bool.and_eq_true] at h; exact ⟨isId_size h.1.1.1.1, he _ h.1.1.1.2⟩
  rw [if_neg hk4] at h
  by_cases hk5 : k = 5
  · rw [if_pos hk5] at h
    simp only [Bool.and_eq_true] at h; exact ⟨isId_size h.1.1.1, he _ h.1.1.2⟩
  rw [if_neg hk5] at h
  cases h
theorem alike_kind {k s t e : Int} {i l : ByteArray} {n : List Ct} (h : alike (.mk k i l s t e n) = true) : ((k = 0 ∨ k = 1) ∧ n = []) ∨ (k = 2 ∧ 1 ≤ s ∧ s ≤ 16 ∧ 1 ≤ t ∧ t ≤ 16 ∧ 1 ≤ e ∧ e ≤ 16) ∨ k = 3 ∨ (k = 4 ∧ 1 ≤ s ∧ s ≤ 16 ∧ 1 ≤ t ∧ t ≤ 16) ∨ k = 5 := by
  rw [alike] at h
  by_cases hk0 : k = 0
  · rw [if_pos hk0] at h
    simp only [Bool.and_eq_true, List.isEmpty_iff] at h; exact .inl ⟨.inl hk0, h.2⟩
  rw [if_neg hk0] at h
  by_cases hk1 : k = 1
  · rw [if_pos hk1] at h
    simp only [Bool.and_eq_true, List.isEmpty_iff] at h; exact .inl ⟨.inr hk1, h.2⟩
  rw [if_neg hk1] at h
  by_cases hk2 : k = 2
  · rw [if_pos hk2] at h
    simp only [Bool.and_eq_true, slotsOk, decide_eq_true_eq] at h
    exact .inr (.inl ⟨hk2, by omega⟩)
  rw [if_neg hk2] at h
  by_cases hk3 : k = 3
  · rw [if_pos hk3] at h
    exact .inr (.inr (.inl hk3))
  rw [if_neg hk3] at h
  by_cases hk4 : k = 4
  · rw [if_pos hk4] at h
    simp only [Bool.and_eq_true, slotsOk, decide_eq_true_eq] at h
    exact .inr (.inr (.inr (.inl ⟨hk4, by omega⟩)))
  rw [if_neg hk4] at h
  by_cases hk5 : k = 5
  · rw [if_pos hk5] at h
    exact .inr (.inr (.inr (.inr hk5)))
  rw [if_neg hk5] at h
  cases h
/-- What stands in the brackets is shorter than the text. -/
theorem in_le {c : Ct} (h : c.good = true) : (commas (c.inner.map Ct.text)).length ≤ c.text.length := by
  obtain ⟨k, i, l, s, t, e, n⟩ := c
  have ha := (good_alike h).1
  show (commas (n.map Ct.text)).length ≤ _
  rcases alike_kind ha with ⟨_, rfl⟩ | ⟨rfl, _⟩ | rfl | ⟨rfl, _⟩ | rfl
  · simp [commas]
  · rw [text2]; simp; omega
  · rw [text3]; simp; omega
  · rw [text4]; simp; omega
  · rw [text5]; simp; omega
theorem itoa_nat (k : Nat) : Lib.itoa (k : Int) = Lib.decDigits k := by unfold Lib.itoa; rw [if_neg (by omega)]; simp
/-- A small number's digits. -/
def numBA (k : Nat) : ByteArray := ⟨(Lib.decDigits k).toArray⟩
theorem num_size {k : Nat} (h1 : 1 ≤ k) (h2 : k ≤ 16) : (numBA k).size ≤ 2 := by
  show (Lib.decDigits k).toArray.size ≤ 2
  rw [dec_small k h1 h2]
  split <;> simp
theorem bl_num (k : Nat) : bl (numBA k) = Lib.itoa (k : Int) := by rw [itoa_nat]; exact bl_mk _
def boxed (n : List Ct) : ByteArray := ⟨#[40]⟩ ++ inTxt n ++ ⟨#[41]⟩
theorem bl_boxed (n : List Ct) : bl (boxed n) = 40 :: (commas (n.map Ct.text) ++ [41]) := by unfold boxed; rw [bl_append, bl_append, bl_in]; rfl
section
variable (i l : ByteArray) (s t e : Int) (n : List Ct) (a b c : Nat)
theorem txt0 : (Ct.mk 0 i l s t e n).txt = ⟨#[]⟩ := ba_ext (by rw [bl_txt, text0])
theorem txt1 : (Ct.mk 1 i l s t e n).txt = (⟨#[102, 115, 58]⟩ : ByteArray) ++ i ++ ⟨#[58]⟩ ++ l := ba_ext (by rw [bl_txt, text1]; simp only [bl_append]; simp [bl])
theorem txt2 : (Ct.mk 2 i l a b c n).txt = (⟨#[114, 97, 105, 100, 58]⟩ : ByteArray) ++ i ++ ⟨#[58]⟩ ++ numBA a ++ ⟨#[47]⟩ ++ numBA b ++ ⟨#[47]⟩ ++ numBA c ++ boxed n := ba_ext (by rw [bl_txt, text2]; simp only [bl_append, bl_num, bl_boxed]; simp [bl])
theorem txt3 : (Ct.mk 3 i l s t e n).txt = (⟨#[99, 114, 121, 112, 116, 58]⟩ : ByteArray) ++ i ++ boxed n := ba_ext (by rw [bl_txt, text3]; simp only [bl_append, bl_boxed]; simp [bl])
theorem txt4 : (Ct.mk 4 i l a b e n).txt = (⟨#[112, 118, 58]⟩ : ByteArray) ++ i ++ ⟨#[58]⟩ ++ numBA a ++ ⟨#[47]⟩ ++ numBA b ++ boxed n := ba_ext (by rw [bl_txt, text4]; simp only [bl_append, bl_num, bl_boxed]; simp [bl])
theorem txt5 : (Ct.mk 5 i l s t e n).txt = (⟨#[116, 97, 98, 108, 101, 58]⟩ : ByteArray) ++ i ++ boxed n := ba_ext (by rw [bl_txt, text5]; simp only [bl_append, bl_boxed]; simp [bl])
end
end Go.Proofs.YtcibciippghooaaGreatDoor
namespace Go.Proofs.YtcibciippghooaaGreatDoor
open Go.RowKit Go.Maps

/-- All blocks of w but those of S are in w' as they were. -/
structure Fr (S : Nat → Prop) (w w' : World) : Prop where
  os : w'.os = w.os
  tape : w'.tape = w.tape
  output : w'.output = w.output
  size : w.heap.size ≤ w'.heap.size
  block : ∀ k, k < w.heap.size → ¬ S k → w'.heap[k]? = w.heap[k]?

def No : Nat → Prop := fun _ => False
def Is (b : Nat) : Nat → Prop := fun k => k = b
def From (b : Nat) : Nat → Prop := fun k => b ≤ k

theorem Fr.refl (S : Nat → Prop) (w : World) : Fr S w w := ⟨rfl, rfl, rfl, Nat.le_refl _, fun _ _ _ => rfl⟩

theorem Fr.trans {S T U : Nat → Prop} {w w' w'' : World} (h : Fr S w w') (k : Fr T w' w'') (hS : ∀ b, b < w.heap.size → S b → U b) (hT : ∀ b, b < w.heap.size → T b → U b) : Fr U w w'' :=
  ⟨k.os.trans h.os, k.tape.trans h.tape, k.output.trans h.output, Nat.le_trans h.size k.size,
   fun b hb hu => (k.block b (Nat.lt_of_lt_of_le hb h.size) (fun ht => hu (hT b hb ht))).trans (h.block b hb (fun hs => hu (hS b hb hs)))⟩

theorem Fr.step {S : Nat → Prop} {w w' w'' : World} (h : Fr S w w') {T : Nat → Prop} (k : Fr T w' w'') (hT : ∀ b, b < w.heap.size → T b → S b) : Fr S w w'' :=
  h.trans k (fun _ _ h => h) hT

theorem Fr.mono {S T : Nat → Prop} {w w' : World} (h : Fr S w w') (hS : ∀ b, b < w.heap.size → S b → T b) : Fr T w w' :=
  ⟨h.os, h.tape, h.output, h.size, fun b hb ht => h.block b hb (fun hs => ht (hS b hb hs))⟩

theorem Fr.of_grown {w w' : World} {row : Option Nat} (h : w.grownBy w' row) : Fr (fun k => row = some k) w w' :=
  ⟨h.os, h.tape, h.output, h.size, fun k hk hn => h.block k hk (fun e => hn e.symm)⟩

theorem Fr.of_grown_some {w w' : World} {b : Nat} (h : w.grownBy w' (some b)) : Fr (Is b) w w' :=
  (Fr.of_grown h).mono (fun _ _ e => (Option.some.inj e).symm)

theorem Fr.of_grown_none {w w' : World} (h : w.grownBy w' none) : Fr No w w' :=
  (Fr.of_grown h).mono (fun _ _ e => by cases e)

theorem Fr.of_below {B : Nat} {w w' : World} (h : Below B w w') : Fr (From B) w w' :=
  ⟨h.os, h.tape, h.output, h.size, fun k _ hn => h.block k (by unfold From at hn; omega)⟩

theorem Fr.of_below_size {w w' : World} (h : Below w.heap.size w w') : Fr No w w' :=
  ⟨h.os, h.tape, h.output, h.size, fun k hk _ => h.block k hk⟩

theorem Fr.below {S : Nat → Prop} {B : Nat} {w w' : World} (h : Fr S w w') (hB : B ≤ w.heap.size) (hS : ∀ b, b < B → ¬ S b) : Below B w w' :=
  ⟨h.os, h.tape, h.output, h.size, fun k hk => h.block k (by omega) (hS k hk)⟩

theorem Fr.grown {S : Nat → Prop} {w w' : World} {row : Option Nat} (h : Fr S w w') (hS : ∀ b, S b → row = some b) : w.grownBy w' row :=
  ⟨h.os, h.tape, h.output, h.size, fun k hk hn => h.block k hk (fun hs => hn (hS k hs).symm)⟩

theorem Fr.alloc {S : Nat → Prop} {a w : World} (h : Fr S a w) (o : Obj) : Fr S a (w.alloc o) :=
  h.step (T := No) ⟨rfl, rfl, rfl, by simp, fun k hk _ => Below.heap_alloc _ _ _ hk⟩ (fun _ _ h => h.elim)

theorem Fr.setCell {S : Nat → Prop} {a w : World} (h : Fr S a w) {p : Addr} (hp : p.block < a.heap.size → S p.block) (u : Value) : Fr S a (w.setCell p u) :=
  h.step (T := Is p.block) ⟨rfl, rfl, rfl, by simp [World.setCell], fun k _ hk => Below.heap_setCell _ _ _ _ hk⟩ (fun b hb e => by unfold Is at e; subst e; exact hp hb)

theorem Fr.drew {S : Nat → Prop} {a w : World} (h : Fr S a w) : Fr S a w.drew := ⟨h.os, h.tape, h.output, h.size, h.block⟩
theorem Fr.drewN {S : Nat → Prop} {a w : World} (h : Fr S a w) (n : Nat) : Fr S a (w.drewN n) := ⟨h.os, h.tape, h.output, h.size, h.block⟩

theorem Fr.heap {S : Nat → Prop} {w w' : World} (h : Fr S w w') {b : Nat} {o : Obj} (hb : w.heap[b]? = some o) (hS : ¬ S b) : w'.heap[b]? = some o :=
  (h.block b (Array.getElem?_eq_some_iff.1 hb).1 hS).trans hb

theorem Fr.cell {S : Nat → Prop} {w w' : World} (h : Fr S w w') {p : Addr} {v : Value} (hb : w.cell? p = some v) (hS : ¬ S p.block) : w'.cell? p = some v := by
  have hlt : p.block < w.heap.size := by
    unfold World.cell? at hb
    cases hh : w.heap[p.block]? with
    | none => simp [hh] at hb
    | some o => exact (Array.getElem?_eq_some_iff.1 hh).1
  rw [World.cell?_of_block (h.block _ hlt hS)]; exact hb

theorem Fr.ownsMap {S : Nat → Prop} {H : Type} {P : Program} {k : TypeId} {R : Value → Option (DataW H × List MemPlace)} {w w' : World} {b n : Nat} {D : DataW H} (h : Fr S w w') (ho : w.ownsMap P k R b n D) (hS : ¬ S b) : w'.ownsMap P k R b n D := by
  have hlt := ho.lt
  obtain ⟨es, clock, hb, r⟩ := ho
  exact ⟨es, clock, h.heap hb hS, r⟩

/-- The cells of a block known whole. -/
theorem cell_of_block {w : World} {b : Nat} {cs : Array Value} {T : TypeId} {fz : Nat × Nat} (h : w.heap[b]? = some (.cells cs T fz)) (i : Nat) : w.cell? ⟨b, i, none⟩ = cs[i]? := by
  simp [World.cell?, h]
theorem free_of_block {w : World} {b : Nat} {cs : Array Value} {T : TypeId} (h : w.heap[b]? = some (.cells cs T (0, 0))) (i : Nat) : w.frozen? ⟨b, i, none⟩ = false := by
  simp [World.frozen?, h]
theorem lt_of_block {w : World} {b : Nat} {o : Obj} (h : w.heap[b]? = some o) : b < w.heap.size := (Array.getElem?_eq_some_iff.1 h).1
theorem block_setCell {w : World} {b : Nat} {cs : Array Value} {T : TypeId} {fz : Nat × Nat} (h : w.heap[b]? = some (.cells cs T fz)) (i : Nat) (v : Value) :
    (w.setCell ⟨b, i, none⟩ v).heap[b]? = some (.cells (cs.setIfInBounds i v) T fz) := by
  simp [World.setCell, Array.getElem?_modify, h]
theorem block_alloc (w : World) (o : Obj) : (w.alloc o).heap[w.heap.size]? = some o := by
  show (w.heap.push o)[w.heap.size]? = _
  simp

theorem Fr.setNew {S : Nat → Prop} {a w : World} (h : Fr S a w) {p : Addr} (hp : a.heap.size ≤ p.block) (u : Value) : Fr S a (w.setCell p u) :=
  h.setCell (fun hlt => absurd hlt (by omega)) u
theorem block_alloc1 (w : World) (o o' : Obj) : ((w.alloc o).alloc o').heap[w.heap.size]? = some o := by
  show ((w.heap.push o).push o')[w.heap.size]? = _
  simp [Array.getElem?_push]
theorem block_alloc2 (w : World) (o o' : Obj) : ((w.alloc o).alloc o').heap[w.heap.size + 1]? = some o' := by
  have h := block_alloc (w.alloc o) o'
  rwa [World.size_alloc] at h
end Go.Proofs.YtcibciippghooaaGreatDoor
/- The set of Indexes of package queue: has, add, drop. -/
namespace Go.Proofs.YtcibciippghooaaGreatDoor
open Go.RowKit Go.Maps

def upd (f : Int → Bool) (x : Int) (b : Bool) : Int → Bool := fun y => if y = x then b else f y

/-- Block mb is a map[int]struct that holds just the numbers of f; N is a bound on how many. -/
def ISet (w : World) (mb : Nat) (f : Int → Bool) (N : Nat) : Prop :=
  ∃ (D : DataW Unit) (n : Nat), n ≤ N ∧ w.ownsMap Tryz.prog 3 unitElem mb n D ∧ ∀ x, has D (.int .i64 x) = f x

theorem ISet.lt {w : World} {mb : Nat} {f : Int → Bool} {N : Nat} (h : ISet w mb f N) : mb < w.heap.size := by
  obtain ⟨D, n, _, ho, _⟩ := h; exact ho.lt

theorem ISet.mono {w : World} {mb : Nat} {f : Int → Bool} {N M : Nat} (h : ISet w mb f N) (hN : N ≤ M) : ISet w mb f M := by
  obtain ⟨D, n, hn, r⟩ := h; exact ⟨D, n, by omega, r⟩

theorem ISet.fr {S : Nat → Prop} {w w' : World} {mb : Nat} {f : Int → Bool} {N : Nat} (h : ISet w mb f N) (hf : Fr S w w') (hS : ¬ S mb) : ISet w' mb f N := by
  obtain ⟨D, n, hn, ho, r⟩ := h; exact ⟨D, n, hn, hf.ownsMap ho hS, r⟩

theorem lawI : Keyed Tryz.prog 3 := int_keyed Tryz.underlying3
theorem zeroU (w : World) : (zeroValue 72).run Tryz.prog w = .ok (.agg #[]) w := by kernel_rfl

theorem isKeyInt (x : Int) : WideAt.IsKeyLit (.int .i64 x) := by
  simp [WideAt.IsKeyLit]

end Go.Proofs.YtcibciippghooaaGreatDoor
namespace Go.Proofs.YtcibciippghooaaGreatDoor
open Go.RowKit Go.Maps
set_option linter.unusedVariables false

/-- The slice value (a, l.length, cap) reads in w as the list l of ints. -/
structure Ints (w : World) (a : Option Addr) (cap : Nat) (l : List Int) : Prop where
  len : l.length ≤ cap
  max : cap ≤ maxLen
  wf : ∀ x ∈ l, (Lit.int .i64 x).wf = true
  isNil : a = none → l = [] ∧ cap = 0
  cell : ∀ ad, a = some ad → l ≠ [] → ad.spot = none ∧ ad.block < w.heap.size ∧ ∀ i x, l[i]? = some x → w.cell? ⟨ad.block, ad.off + i, none⟩ = some (.int .i64 x)

theorem Ints.at {w : World} {a : Option Addr} {cap : Nat} {l : List Int} (h : Ints w a cap l) {k : Nat} (hk : k < l.length) :
    ∃ b off x, a = some ⟨b, off, none⟩ ∧ l[k]? = some x ∧ w.cell? ⟨b, off + k, none⟩ = some (.int .i64 x) := by
  cases a with
  | none => obtain ⟨rfl, _⟩ := h.isNil rfl; simp at hk
  | some ad =>
    obtain ⟨b, off, sp⟩ := ad
    obtain ⟨h1, h2, h3⟩ := h.cell _ rfl (by intro e; subst e; simp at hk)
    simp at h1; subst h1
    exact ⟨b, off, l[k], rfl, by simp [hk], h3 k _ (by simp [hk])⟩

theorem Ints.lenmax {w : World} {a : Option Addr} {cap : Nat} {l : List Int} (h : Ints w a cap l) : l.length ≤ 9223372036854775807 := by
  have h1 := h.len; have h2 := h.max; unfold maxLen at h2; omega

theorem Ints.fr {S : Nat → Prop} {w w' : World} {a : Option Addr} {cap : Nat} {l : List Int} (h : Ints w a cap l) (hf : Fr S w w') (hS : ∀ ad, a = some ad → l ≠ [] → ¬ S ad.block) : Ints w' a cap l :=
  ⟨h.len, h.max, h.wf, h.isNil, fun ad e hne => by
    obtain ⟨h1, h2, h3⟩ := h.cell ad e hne
    exact ⟨h1, Nat.lt_of_lt_of_le h2 hf.size, fun i x hi => hf.cell (h3 i x hi) (hS ad e hne)⟩⟩

theorem Ints.no {S : Nat → Prop} {w w' : World} {a : Option Addr} {cap : Nat} {l : List Int} (h : Ints w a cap l) (hf : Fr S w w') (hS : ∀ k, ¬ S k) : Ints w' a cap l := h.fr hf (fun _ _ _ => hS _)

theorem Ints.from {w w' : World} {a : Option Addr} {cap : Nat} {l : List Int} (h : Ints w a cap l) (hf : Fr (From w.heap.size) w w') : Ints w' a cap l :=
  h.fr hf (fun ad e hne hS => by have := (h.cell ad e hne).2.1; unfold From at hS; omega)

theorem Ints.from_at {w w' : World} {a : Option Addr} {cap : Nat} {l : List Int} (h : Ints w a cap l) (hf : Fr (From w.heap.size) w w') {k : Nat} (hk : k < l.length) :
    ∃ b off x, a = some ⟨b, off, none⟩ ∧ l[k]? = some x ∧ w'.cell? ⟨b, off + k, none⟩ = some (.int .i64 x) ∧ ¬ From w.heap.size b := by
  obtain ⟨b, off, x, rfl, hx, hc⟩ := (h.from hf).at hk
  refine ⟨b, off, x, rfl, hx, hc, ?_⟩
  have := (h.cell _ rfl (by intro e; subst e; simp at hk)).2.1
  unfold From; simp at this; omega

theorem Ints.nil (w : World) : Ints w none 0 [] := ⟨by simp, by simp, by simp, fun _ => ⟨rfl, rfl⟩, fun _ e _ => by cases e⟩

/-- A row of the call's own, as a slice of ints that is read. -/
theorem Ints.of_own {w : World} {base : Nat} {e : TypeId} {v : Value} {l : List Int} (h : w.ownsRow base e 1 v l.length (l.map (Value.int .i64))) (hw : ∀ x ∈ l, (Lit.int .i64 x).wf = true) :
    ∃ a cap, v = .slice a l.length cap ∧ Ints w a cap l ∧ ∀ ad, a = some ad → base ≤ ad.block := by
  obtain ⟨_, ⟨rfl, h2⟩ | ⟨g, cap, cur, rfl, hg, hb, h1, h2, h3, h4⟩⟩ := h
  · have : l = [] := List.eq_nil_of_length_eq_zero h2
    subst this
    exact ⟨none, 0, rfl, Ints.nil w, fun _ e => by cases e⟩
  · refine ⟨some ⟨g, 0, none⟩, cap, rfl, ⟨h1, h2, hw, (fun e => by cases e), ?_⟩, fun ad e => by cases e; exact hg⟩
    intro ad e hne
    cases e
    refine ⟨rfl, lt_of_block hb, fun i x hi => ?_⟩
    rw [cell_of_block hb]
    simp only [Nat.zero_add]
    have hlt : i < l.length := (List.getElem?_eq_some_iff.1 hi).1
    have e1 : (cur.toList.take (l.length * 1))[i]? = (l.map (Value.int .i64))[i]? := by rw [h4]
    rw [List.getElem?_take_of_lt (by omega)] at e1
    rw [← Array.getElem?_toList, e1]
    simp [hi]

theorem ret_bool {a b : Bool} (h : a = b) : Ending.returned (.bool a) = .returned (.bool b) := by rw [h]
theorem ret_int {k : IntKind} {a b : Int} (h : a = b) : Ending.returned (.int k a) = .returned (.int k b) := by rw [h]

theorem take_succ_mem {l : List Int} {k : Nat} {x : Int} (h : l[k]? = some x) : l.take (k + 1) = l.take k ++ [x] := by
  rw [List.take_add_one, h]; rfl

set_option maxHeartbeats 400000 in
theorem ints_same (a a' : Option Addr) (cap cap' : Nat) (l l' : List Int) (w : World) (hl : Ints w a cap l) (hl' : Ints w a' cap' l') :
    Calls Tryz.prog 29 #[.slice a l.length cap, .slice a' l'.length cap'] w fun e w' => e = .returned (.bool (decide (l = l'))) ∧ Fr No w w' := by
  have hm := hl.lenmax
  have hm' := hl'.lenmax
  by_cases hne : l.length = l'.length
  · have hb : ((l.length : Int) != (l'.length : Int)) = false := by simp [hne]
    go_enter Tryz.func29, Tryz.ntmps29
    have Hne := Lib.hid hne
    clear hne
    go_wp2
    go_loopw [5] (fun i wr => ∃ k : Nat, k ≤ l.length ∧ i = .int .i64 k ∧ Hid (l.take k = l'.take k) ∧ Fr No w wr) (fun i _ => l.length - (intOf i).toNat)
    case atStart => exact ⟨0, by omega, rfl, by unfold Hid; simp, Fr.refl _ _⟩
    case round =>
      obtain ⟨k, hk, rfl, hno, hfr⟩ := hrel
      have hl := hl.no hfr (fun _ h => h)
      have hl' := hl'.no hfr (fun _ h => h)
      by_cases hlt : k < l.length
      · obtain ⟨b, off, x, rfl, hx, hc⟩ := hl.at hlt
        have Hx := Lib.hid hx
        clear hx
        have hlt' : k < l'.length := by have := Hne.out; omega
        obtain ⟨b', off', x', rfl, hx', hc'⟩ := hl'.at hlt'
        have Hx' := Lib.hid hx'
        clear hx'
        by_cases hxn : x = x'
        · subst hxn
          have hb : (x != x) = false := by simp
          go_wp2
          go_quiet (fail)
          go_wp2
          go_roundw
          case rel => exact ⟨k + 1, by omega, by go_num, by unfold Hid; rw [take_succ_mem Hx.out, take_succ_mem Hx'.out, hno.out], hfr.drewN _⟩
          case measure => simp [intOf]; omega
        · have hb : (x != x') = true := by simpa using hxn
          go_wp2
          go_quiet (fail)
          go_wp2
          go_ret
          refine ⟨ret_bool (a := false) (decide_eq_false ?_).symm, hfr.drewN _⟩
          rintro rfl
          have h1 := Hx.out
          rw [Hx'.out] at h1
          exact hxn (Option.some.inj h1).symm
      · go_wp2
        go_ret
        have h := hno.out
        rw [List.take_of_length_le (by omega), List.take_of_length_le (by have := Hne.out; omega)] at h
        exact ⟨ret_bool (a := true) (decide_eq_true h).symm, hfr⟩
  · have hb : ((l.length : Int) != (l'.length : Int)) = true := by simp; omega
    go_enter Tryz.func29, Tryz.ntmps29
    go_wp2
    go_ret
    refine ⟨ret_bool (a := false) (decide_eq_false ?_).symm, Fr.refl _ _⟩
    rintro rfl
    exact hne rfl

/-- A slice of ints that came in, as the guide's shell of a proof tells it. -/
theorem Ints.of_isRow {w : World} {a : Option Addr} {len cap : Nat} {zs : List Int} (h : (a = none ∧ len = 0 ∧ cap = 0 ∧ zs = []) ∨
    ∃ x, a = some x ∧ len ≤ cap ∧ cap ≤ maxLen ∧ zs.length = cap ∧ (∀ i, i < zs.length → w.cell? (x.add i) = some (.int .i64 (zs.getD i 0))) ∧ ∀ n ∈ zs, (Lit.int .i64 n).wf = true) :
    ∃ l : List Int, l.length = len ∧ Ints w a cap l := by
  rcases h with ⟨rfl, rfl, rfl, rfl⟩ | ⟨x, rfl, h1, h2, h3, h4, h5⟩
  · exact ⟨[], rfl, Ints.nil w⟩
  · refine ⟨zs.take len, by simp; omega, by simp; omega, h2, fun x hx => h5 x (List.mem_of_mem_take hx), (fun e => by cases e), ?_⟩
    intro ad e hne
    cases e
    have hpos : 0 < zs.length := by
      cases zs with
      | nil => simp at hne
      | cons _ _ => simp
    have h0 := h4 0 hpos
    have hsp : x.spot = none := by simpa [Addr.add] using World.cell?_spot h0
    obtain ⟨b, off, sp⟩ := x
    simp at hsp
    subst hsp
    refine ⟨rfl, ?_, fun i y hi => ?_⟩
    · unfold World.cell? at h0
      simp only [Addr.add] at h0
      cases hh : w.heap[b]? with
      | none => simp [hh] at h0
      | some o => exact (Array.getElem?_eq_some_iff.1 hh).1
    · have hlt : i < (zs.take len).length := (List.getElem?_eq_some_iff.1 hi).1
      have h6 := h4 i (by simp at hlt; omega)
      rw [List.getElem?_take_of_lt (by simp at hlt; omega)] at hi
      rw [List.getD_eq_getElem?_getD, hi] at h6
      rw [Addr.add_lit] at h6
      simpa using h6

/-- Fold returns a number from 0 to n - 1. -/
theorem fold_any (v n : Int) (w : World) (h1 : 1 ≤ n) (h2 : n ≤ 4294967296) (hv : (Lit.int .i64 v).wf = true) :
    Calls Tryz.prog 23 #[.int .i64 v, .int .i64 n] w fun e w' => ∃ r, e = .returned (.int .i64 r) ∧ 0 ≤ r ∧ r < n ∧ w = w' := by
  by_cases h : n ≤ 1
  · go_enter Tryz.func23, Tryz.ntmps23
    go_wp2
    go_ret
    exact ⟨_, rfl, by omega, by omega, rfl⟩
  · have hlo : -n < v.tmod n := by have := Int.lt_tmod_of_pos v (b := n) (by omega); omega
    have hhi : v.tmod n < n := Int.tmod_lt_of_pos v (by omega)
    by_cases hneg : v.tmod n < 0
    · go_enter Tryz.func23, Tryz.ntmps23
      go_wp2
      go_ret
      exact ⟨_, rfl, by omega, by omega, rfl⟩
    · go_enter Tryz.func23, Tryz.ntmps23
      go_wp2
      go_ret
      exact ⟨_, rfl, by omega, by omega, rfl⟩

/-- Block tb is a tape that has read k numbers; its list lies below block B. -/
def Tape (w : World) (B tb k : Nat) : Prop :=
  ∃ a cap l T, Ints w a cap l ∧ (∀ ad, a = some ad → l ≠ [] → ad.block < B) ∧ B ≤ tb ∧ w.heap[tb]? = some (.cells #[.slice a l.length cap, .int .i64 (k : Int)] T (0, 0))

theorem Tape.lt {w : World} {B tb k : Nat} (h : Tape w B tb k) : tb < w.heap.size := by
  obtain ⟨a, cap, l, T, _, _, _, hb⟩ := h; exact lt_of_block hb
theorem Tape.le {w : World} {B tb k : Nat} (h : Tape w B tb k) : B ≤ tb := by
  obtain ⟨a, cap, l, T, _, _, h, _⟩ := h; exact h
theorem Tape.fr {S : Nat → Prop} {w w' : World} {B tb k : Nat} (h : Tape w B tb k) (hf : Fr S w w') (hS : ∀ b, b < B → ¬ S b) (ht : ¬ S tb) : Tape w' B tb k := by
  obtain ⟨a, cap, l, T, h1, h2, h3, hb⟩ := h
  exact ⟨a, cap, l, T, h1.fr hf (fun ad e hne => hS _ (h2 ad e hne)), h2, h3, hf.heap hb ht⟩

set_option maxHeartbeats 1000000 in
theorem tape_next (B tb k : Nat) (n : Int) (w : World) (ht : Tape w B tb k) (hk : k ≤ 1000000000000) (h1 : 1 ≤ n) (h2 : n ≤ 4294967296) :
    Calls Tryz.prog 8 #[.pointer (some ⟨tb, 0, none⟩), .int .i64 n] w fun e w' => ∃ r, e = .returned (.int .i64 r) ∧ 0 ≤ r ∧ r < n ∧ Tape w' B tb (k + 1) ∧ Fr (Is tb) w w' := by
  obtain ⟨a, cap, l, T, hl, ha, hB, hb⟩ := ht
  have c0 : w.cell? ⟨tb, 0, none⟩ = some (.slice a l.length cap) := by rw [cell_of_block hb]; rfl
  have c1 : w.cell? ⟨tb, 1, none⟩ = some (.int .i64 (k : Int)) := by rw [cell_of_block hb]; rfl
  have f1 : w.frozen? ⟨tb, 1, none⟩ = false := free_of_block hb 1
  have hm := hl.lenmax
  have hend : ∀ m : Nat, Tape ((w.setCell ⟨tb, 1, none⟩ (.int .i64 ((k : Int) + 1))).drewN m) B tb (k + 1) ∧ Fr (Is tb) w ((w.setCell ⟨tb, 1, none⟩ (.int .i64 ((k : Int) + 1))).drewN m) := fun m => by
    have hf : Fr (Is tb) w ((w.setCell ⟨tb, 1, none⟩ (.int .i64 ((k : Int) + 1))).drewN m) := (Fr.setCell (S := Is tb) (p := ⟨tb, 1, none⟩) (Fr.refl _ _) (fun _ => rfl) _).drewN m
    refine ⟨⟨a, cap, l, T, hl.fr hf (fun ad e hne h => by have := ha ad e hne; unfold Is at h; omega), ha, hB, ?_⟩, hf⟩
    show (w.setCell ⟨tb, 1, none⟩ (.int .i64 ((k : Int) + 1))).heap[tb]? = _
    rw [block_setCell hb]; rfl
  have Hend := Lib.hid hend
  clear hend
  by_cases hlt : k < l.length
  · obtain ⟨b, off, x, rfl, hx, hc⟩ := hl.at hlt
    have Hx := Lib.hid (hl.wf x (List.mem_of_getElem? hx))
    have hlt' : (k : Int) < l.length := by omega
    clear hx
    go_enter Tryz.func8, Tryz.ntmps8
    go_wp2_with fail
    go_quiet (fail)
    go_wp2_with fail
    go_quiet (fail)
    go_wp2_with fail
    refine (fold_any _ n _ h1 h2 Hx.out).mono ?_
    rintro e w1 ⟨r, rfl, hr1, hr2, rfl⟩
    go_wp2_with fail
    go_ret
    exact ⟨r, rfl, hr1, hr2, Hend.out _⟩
  · have hlt' : ¬ (k : Int) < l.length := by omega
    go_enter Tryz.func8, Tryz.ntmps8
    go_wp2_with fail
    go_quiet (fail)
    go_wp2_with fail
    refine (fold_any _ n _ h1 h2 (WalkArith.wf_i64 (by omega))).mono ?_
    rintro e w1 ⟨r, rfl, hr1, hr2, rfl⟩
    go_wp2_with fail
    go_ret
    exact ⟨r, rfl, hr1, hr2, Hend.out _⟩
end Go.Proofs.YtcibciippghooaaGreatDoor
