/- The words of a parsed content are short. Plain. The texts of contents as the program writes them. Plain. coldplugref32.In, coldplugmake.SameTexts. Wanted devices in memory: slices of api.Virtual. What Open and Asks answer; the laws on it. Plain. -/
import Derived.Test.YtmieegcgeolckaaGreatDoorZV10
import Derived.Lib.Join
import Derived.Test.YtmieegcgeolckaaGreatDoorZV3
import Derived.Test.YtmieegcgeolckaaGreatDoorZV2
import Derived.Test.YtmieegcgeolckaaGreatDoorZV7
import Derived.Test.YtmieegcgeolckaaGreatDoorZV6
namespace Go.Proofs.YtmieegcgeolckaaGreatDoor
open Go
set_option linter.unusedVariables false
mutual
/-- A content and all in it. -/
def Ct.walk : Ct → List Ct
  | .mk k i l s t e n => .mk k i l s t e n :: Ct.walks n
def Ct.walks : List Ct → List Ct
  | [] => []
  | c :: t => c.walk ++ Ct.walks t
end
mutual
theorem walk_len : ∀ c : Ct, c.walk.length = c.count
  | .mk k i l s t e n => by rw [Ct.walk, Ct.count, List.length_cons, walks_len n]
theorem walks_len : ∀ l : List Ct, (Ct.walks l).length = Ct.counts l
  | [] => rfl
  | c :: t => by rw [Ct.walks, Ct.counts, List.length_append, walk_len c, walks_len t]
end
theorem walks_append : ∀ (l m : List Ct), Ct.walks (l ++ m) = Ct.walks l ++ Ct.walks m
  | [], m => rfl
  | c :: t, m => by rw [List.cons_append, Ct.walks, Ct.walks, walks_append t m, List.append_assoc]
mutual
theorem good_walk : ∀ c : Ct, c.good = c.walk.all alike
  | .mk k i l s t e n => by rw [Ct.good, Ct.walk, List.all_cons, goods_walk n]
theorem goods_walk : ∀ l : List Ct, Ct.goods l = (Ct.walks l).all alike
  | [] => rfl
  | c :: t => by rw [Ct.goods, Ct.walks, List.all_append, good_walk c, goods_walk t]
end
/-- Its ID and label are of at most m bytes. -/
def SmallC (m : Nat) (d : Ct) : Prop := d.id.size ≤ m ∧ d.label.size ≤ m
theorem SmallC.mono {m m' : Nat} {d : Ct} (h : SmallC m d) (hm : m ≤ m') : SmallC m' d := ⟨Nat.le_trans h.1 hm, Nat.le_trans h.2 hm⟩
theorem upto_len (ends r : List UInt8) : (upto ends r).length ≤ r.length := by
  have h := congrArg List.length (upto_past ends r)
  rw [List.length_append] at h
  omega
theorem p_small : ∀ n : Nat, (∀ r c r', pC n r = some (c, r') → ∀ d ∈ c.walk, SmallC r.length d) ∧ (∀ acc r l r', pL n acc r = some (l, r') → ∀ d ∈ Ct.walks l, d ∈ Ct.walks acc ∨ SmallC r.length d)
  | 0 => ⟨fun r c r' h => by simp [pC] at h, fun acc r l r' h => by simp [pL] at h⟩
  | n + 1 => by
    obtain ⟨ihC, ihL⟩ := p_small n
    have ihN := (p_count n).1
    have hin : ∀ ra (pb : List Ct × List UInt8), pL n [] ra = some pb → ∀ d ∈ Ct.walks pb.1, SmallC ra.length d := fun ra pb h d hd => by
      rcases ihL [] ra pb.1 pb.2 h d hd with h | h
      · simp [Ct.walks] at h
      · exact h
    refine ⟨fun r c r' h => ?_, fun acc r l r' h => ?_⟩
    · have hr := past_len [58, 44, 41] r
      rw [pC] at h
      by_cases h0 : upto [58, 44, 41] r = []
      · rw [if_pos h0] at h
        injection h with h
        injection h with h1 h2
        subst h1; subst h2
        intro d hd
        simp [Ct.zero, Ct.walk, Ct.walks] at hd
        subst hd
        exact ⟨Nat.zero_le _, Nat.zero_le _⟩
      rw [if_neg h0] at h
      obtain ⟨r2, hr2, h⟩ := Option.bind_eq_some_iff.1 h
      have e2 := skip1_len hr2
      have hid := past_len [58, 40, 44, 41] r2
      have hiu := upto_len [58, 40, 44, 41] r2
      simp only at h
      generalize upto [58, 40, 44, 41] r2 = di at h hiu
      generalize past [58, 40, 44, 41] r2 = r3 at h hid
      split at h
      · obtain ⟨r4, hr4, h⟩ := Option.bind_eq_some_iff.1 h
        have e4 := skip1_len hr4
        have hl := past_len [44, 41] r4
        injection h with h
        injection h with h1 h2
        subst h1; subst h2
        have hlu := upto_len [44, 41] r4
        intro d hd
        simp only [Ct.walk, Ct.walks, List.mem_singleton] at hd
        subst hd
        exact ⟨by show di.toArray.size ≤ _; simp; omega, by show (upto [44, 41] r4).toArray.size ≤ _; simp; omega⟩
      split at h
      · obtain ⟨r4, hr4, h⟩ := Option.bind_eq_some_iff.1 h
        obtain ⟨p5, hp5, h⟩ := Option.bind_eq_some_iff.1 h
        obtain ⟨r6, hr6, h⟩ := Option.bind_eq_some_iff.1 h
        obtain ⟨p7, hp7, h⟩ := Option.bind_eq_some_iff.1 h
        obtain ⟨r8, hr8, h⟩ := Option.bind_eq_some_iff.1 h
        obtain ⟨p9, hp9, h⟩ := Option.bind_eq_some_iff.1 h
        obtain ⟨ra, hra, h⟩ := Option.bind_eq_some_iff.1 h
        obtain ⟨pb, hpb, h⟩ := Option.bind_eq_some_iff.1 h
        injection h with h
        injection h with h1 h2
        subst h1; subst h2
        have e5 := pNum_len hp5
        have e7 := pNum_len hp7
        have e9 := pNum_len hp9
        have e4 := skip1_len hr4
        have e6 := skip1_len hr6
        have e8 := skip1_len hr8
        have ea := skip1_len hra
        have eb := hin ra pb hpb
        intro d hd
        rw [Ct.walk] at hd
        rcases List.mem_cons.1 hd with rfl | hd
        · exact ⟨by show di.toArray.size ≤ _; simp; omega, Nat.zero_le _⟩
        · exact (eb d hd).mono (by omega)
      split at h
      · obtain ⟨ra, hra, h⟩ := Option.bind_eq_some_iff.1 h
        obtain ⟨pb, hpb, h⟩ := Option.bind_eq_some_iff.1 h
        injection h with h
        injection h with h1 h2
        subst h1; subst h2
        have ea := skip1_len hra
        have eb := hin ra pb hpb
        intro d hd
        rw [Ct.walk] at hd
        rcases List.mem_cons.1 hd with rfl | hd
        · exact ⟨by show di.toArray.size ≤ _; simp; omega, Nat.zero_le _⟩
        · exact (eb d hd).mono (by omega)
      split at h
      · obtain ⟨r4, hr4, h⟩ := Option.bind_eq_some_iff.1 h
        obtain ⟨p5, hp5, h⟩ := Option.bind_eq_some_iff.1 h
        obtain ⟨r6, hr6, h⟩ := Option.bind_eq_some_iff.1 h
        obtain ⟨p7, hp7, h⟩ := Option.bind_eq_some_iff.1 h
        obtain ⟨ra, hra, h⟩ := Option.bind_eq_some_iff.1 h
        obtain ⟨pb, hpb, h⟩ := Option.bind_eq_some_iff.1 h
        injection h with h
        injection h with h1 h2
        subst h1; subst h2
        have e5 := pNum_len hp5
        have e7 := pNum_len hp7
        have e4 := skip1_len hr4
        have e6 := skip1_len hr6
        have ea := skip1_len hra
        have eb := hin ra pb hpb
        intro d hd
        rw [Ct.walk] at hd
        rcases List.mem_cons.1 hd with rfl | hd
        · exact ⟨by show di.toArray.size ≤ _; simp; omega, Nat.zero_le _⟩
        · exact (eb d hd).mono (by omega)
      split at h
      · obtain ⟨ra, hra, h⟩ := Option.bind_eq_some_iff.1 h
        obtain ⟨pb, hpb, h⟩ := Option.bind_eq_some_iff.1 h
        injection h with h
        injection h with h1 h2
        subst h1; subst h2
        have ea := skip1_len hra
        have eb := hin ra pb hpb
        intro d hd
        rw [Ct.walk] at hd
        rcases List.mem_cons.1 hd with rfl | hd
        · exact ⟨by show di.toArray.size ≤ _; simp; omega, Nat.zero_le _⟩
        · exact (eb d hd).mono (by omega)
      · cases h
    · rw [pL] at h
      obtain ⟨p, hp, h⟩ := Option.bind_eq_some_iff.1 h
      have e1 := ihC r p.1 p.2 hp
      cases hs : skip1 41 p.2 with
      | some r2 =>
        rw [hs] at h
        simp only at h
        injection h with h
        injection h with h1 h2
        subst h1; subst h2
        have e2 := skip1_len hs
        intro d hd
        rw [walks_append] at hd
        rcases List.mem_append.1 hd with hd | hd
        · exact .inl hd
        · exact .inr (e1 d (by simpa [Ct.walks] using hd))
      | none =>
        rw [hs] at h
        simp only at h
        obtain ⟨r2, hr2, h⟩ := Option.bind_eq_some_iff.1 h
        have e2 := skip1_len hr2
        have e3 := ihN r p.1 p.2 hp
        have e4 := count_pos p.1
        intro d hd
        rcases ihL _ r2 l r' h d hd with h5 | h5
        · rw [walks_append] at h5
          rcases List.mem_append.1 h5 with h5 | h5
          · exact .inl h5
          · exact .inr (e1 d (by simpa [Ct.walks] using h5))
        · exact .inr (h5.mono (by omega))
mutual
theorem inner_len : ∀ {c d : Ct}, d ∈ c.walk → d.inner.length ≤ c.count
  | .mk k i l s t e n, d, h => by
    rw [Ct.walk] at h
    rw [Ct.count]
    rcases List.mem_cons.1 h with rfl | h
    · have := len_counts n
      show n.length ≤ _
      omega
    · have := inner_lens h
      omega
theorem inner_lens : ∀ {n : List Ct} {d : Ct}, d ∈ Ct.walks n → d.inner.length ≤ Ct.counts n
  | [], d, h => by simp [Ct.walks] at h
  | c :: t, d, h => by
    rw [Ct.walks] at h
    rw [Ct.counts]
    rcases List.mem_append.1 h with h | h
    · have := inner_len h
      omega
    · have := inner_lens h
      omega
end
end Go.Proofs.YtmieegcgeolckaaGreatDoor
namespace Go.Proofs.YtmieegcgeolckaaGreatDoor
open Go
set_option linter.unusedVariables false
theorem bl_append (a b : ByteArray) : bl (a ++ b) = bl a ++ bl b := by simp [bl]
theorem ba_ext {a b : ByteArray} (h : bl a = bl b) : a = b := by
  rw [← mk_bl a, ← mk_bl b, h]
/-- The text of a content. -/
def Ct.txt (c : Ct) : ByteArray := ⟨c.text.toArray⟩
theorem bl_txt (c : Ct) : bl c.txt = c.text := bl_mk _
theorem join_commas : ∀ l : List (List UInt8), Lib.join l [44] = commas l
  | [] => rfl
  | [x] => by simp [Lib.join, commas, List.intercalate]
  | x :: y :: t => by
    have h := join_commas (y :: t)
    unfold Lib.join at *
    rw [commas, ← h]
    simp [List.intercalate, List.intersperse]
theorem commas_mem {x : List UInt8} : ∀ {l : List (List UInt8)}, x ∈ l → x.length ≤ (commas l).length
  | [], h => by cases h
  | [y], h => by simp at h; subst h; simp [commas]
  | y :: z :: t, h => by
    rw [commas]
    rcases List.mem_cons.1 h with rfl | h
    · simp
    · have := commas_mem h
      simp; omega
/-- What stands in the brackets. -/
def inTxt (n : List Ct) : ByteArray := ⟨(commas (n.map Ct.text)).toArray⟩
theorem bl_in (n : List Ct) : bl (inTxt n) = commas (n.map Ct.text) := bl_mk _
theorem in_join (n : List Ct) : (⟨(Lib.join ((n.map Ct.txt).map (·.data.toList)) [44]).toArray⟩ : ByteArray) = inTxt n := by
  rw [join_commas, List.map_map]
  have : (fun c => ((fun x : ByteArray => x.data.toList) ∘ Ct.txt) c) = Ct.text := funext fun c => bl_txt c
  show (⟨(commas (n.map (fun c => ((fun x : ByteArray => x.data.toList) ∘ Ct.txt) c))).toArray⟩ : ByteArray) = _
  rw [this]; rfl
theorem in_len (n : List Ct) : (Lib.join ((n.map Ct.txt).map (·.data.toList)) [44]).length = (commas (n.map Ct.text)).length := by
  have := congrArg bl (in_join n)
  rw [bl_mk, bl_in] at this
  rw [this]
theorem isId_size {i : ByteArray} (h : isId i = true) : i.size ≤ 16 := by
  unfold isId at h
  simp only [Bool.and_eq_true, decide_eq_true_eq] at h
  exact h.1.2
theorem good_alike {c : Ct} (h : c.good = true) : alike c = true ∧ c.inner.all Ct.good = true := by
  rw [good_mk, Bool.and_eq_true, goods_all] at h
  exact h
/-- Words of a content that has the fields of its kind are short. -/
theorem alike_small {k s t e : Int} {i l : ByteArray} {n : List Ct} (h : alike (.mk k i l s t e n) = true) : i.size ≤ 16 ∧ l.size ≤ 16 := by
  have he : ∀ x : ByteArray, (bl x).isEmpty = true → x.size ≤ 16 := fun x hx => by rw [ba_empty hx]; decide
  rw [alike] at h
  by_cases hk0 : k = 0
  · rw [if_pos hk0] at h
    simp only [Bool.and_eq_true] at h; exact ⟨he _ h.1.1.1, he _ h.1.1.2⟩
  rw [if_neg hk0] at h
  by_cases hk1 : k = 1
  · rw [if_pos hk1] at h
    simp only [Bool.and_eq_true, Bool.or_eq_true] at h
    exact ⟨isId_size h.1.1.1, h.1.1.2.elim (he _) isId_size⟩
  rw [if_neg hk1] at h
  by_cases hk2 : k = 2
  · rw [if_pos hk2] at h
    simp only [Bool.and_eq_true] at h; exact ⟨isId_size h.1.1.1.1.1, he _ h.1.1.1.1.2⟩
  rw [if_neg hk2] at h
  by_cases hk3 : k = 3
  · rw [if_pos hk3] at h
    simp only [Bool.and_eq_true] at h; exact ⟨isId_size h.1.1.1, he _ h.1.1.2⟩
  rw [if_neg hk3] at h
  by_cases hk4 : k = 4
  · rw [if_pos hk4] at h
    simp only [Bool.and_eq_true] at h; exact ⟨isId_size h.1.1.1.1, he _ h.1.1.1.2⟩
  rw [if_neg hk4] at h
  by_cases hk5 : k = 5
  · rw [if_pos hk5] at h
    simp only [Bool.and_eq_true] at h; exact ⟨isId_size h.1.1.1, he _ h.1.1.2⟩
  rw [if_neg hk5] at h
  cases h
theorem alike_kind {k s t e : Int} {i l : ByteArray} {n : List Ct} (h : alike (.mk k i l s t e n) = true) : ((k = 0 ∨ k = 1) ∧ n = []) ∨ (k = 2 ∧ 1 ≤ s ∧ s ≤ 16 ∧ 1 ≤ t ∧ t ≤ 16 ∧ 1 ≤ e ∧ e ≤ 16) ∨ k = 3 ∨ (k = 4 ∧ 1 ≤ s ∧ s ≤ 16 ∧ 1 ≤ t ∧ t ≤ 16) ∨ k = 5 := by
  rw [alike] at h
  by_cases hk0 : k = 0
  · rw [if_pos hk0] at h
    simp only [Bool.and_eq_true, List.isEmpty_iff] at h; exact .inl ⟨.inl hk0, h.2⟩
  rw [if_neg hk0] at h
  by_cases hk1 : k = 1
  · rw [if_pos hk1] at h
    simp only [Bool.and_eq_true, List.isEmpty_iff] at h; exact .inl ⟨.inr hk1, h.2⟩
  rw [if_neg hk1] at h
  by_cases hk2 : k = 2
  · rw [if_pos hk2] at h
    simp only [Bool.and_eq_true, slotsOk, decide_eq_true_eq] at h
    exact .inr (.inl ⟨hk2, by omega⟩)
  rw [if_neg hk2] at h
  by_cases hk3 : k = 3
  · rw [if_pos hk3] at h
    exact .inr (.inr (.inl hk3))
  rw [if_neg hk3] at h
  by_cases hk4 : k = 4
  · rw [if_pos hk4] at h
    simp only [Bool.and_eq_true, slotsOk, decide_eq_true_eq] at h
    exact .inr (.inr (.inr (.inl ⟨hk4, by omega⟩)))
  rw [if_neg hk4] at h
  by_cases hk5 : k = 5
  · rw [if_pos hk5] at h
    exact .inr (.inr (.inr (.inr hk5)))
  rw [if_neg hk5] at h
  cases h
/-- What stands in the brackets is shorter than the text. -/
theorem in_le {c : Ct} (h : c.good = true) : (commas (c.inner.map Ct.text)).length ≤ c.text.length := by
  obtain ⟨k, i, l, s, t, e, n⟩ := c
  have ha := (good_alike h).1
  show (commas (n.map Ct.text)).length ≤ _
  rcases alike_kind ha with ⟨_, rfl⟩ | ⟨rfl, _⟩ | rfl | ⟨rfl, _⟩ | rfl
  · simp [commas]
  · rw [text2]; simp; omega
  · rw [text3]; simp; omega
  · rw [text4]; simp; omega
  · rw [text5]; simp; omega
theorem itoa_nat (k : Nat) : Lib.itoa (k : Int) = Lib.decDigits k := by unfold Lib.itoa; rw [if_neg (by omega)]; simp
/-- A small number's digits. -/
def numBA (k : Nat) : ByteArray := ⟨(Lib.decDigits k).toArray⟩
theorem num_size {k : Nat} (h1 : 1 ≤ k) (h2 : k ≤ 16) : (numBA k).size ≤ 2 := by
  show (Lib.decDigits k).toArray.size ≤ 2
  rw [dec_small k h1 h2]
  split <;> simp
theorem bl_num (k : Nat) : bl (numBA k) = Lib.itoa (k : Int) := by rw [itoa_nat]; exact bl_mk _
def boxed (n : List Ct) : ByteArray := ⟨#[40]⟩ ++ inTxt n ++ ⟨#[41]⟩
theorem bl_boxed (n : List Ct) : bl (boxed n) = 40 :: (commas (n.map Ct.text) ++ [41]) := by unfold boxed; rw [bl_append, bl_append, bl_in]; rfl
section
variable (i l : ByteArray) (s t e : Int) (n : List Ct) (a b c : Nat)
theorem txt0 : (Ct.mk 0 i l s t e n).txt = ⟨#[]⟩ := ba_ext (by rw [bl_txt, text0])
theorem txt1 : (Ct.mk 1 i l s t e n).txt = (⟨#[102, 115, 58]⟩ : ByteArray) ++ i ++ ⟨#[58]⟩ ++ l := ba_ext (by rw [bl_txt, text1]; simp only [bl_append]; simp [bl])
theorem txt2 : (Ct.mk 2 i l a b c n).txt = (⟨#[114, 97, 105, 100, 58]⟩ : ByteArray) ++ i ++ ⟨#[58]⟩ ++ numBA a ++ ⟨#[47]⟩ ++ numBA b ++ ⟨#[47]⟩ ++ numBA c ++ boxed n := ba_ext (by rw [bl_txt, text2]; simp only [bl_append, bl_num, bl_boxed]; simp [bl])
theorem txt3 : (Ct.mk 3 i l s t e n).txt = (⟨#[99, 114, 121, 112, 116, 58]⟩ : ByteArray) ++ i ++ boxed n := ba_ext (by rw [bl_txt, text3]; simp only [bl_append, bl_boxed]; simp [bl])
theorem txt4 : (Ct.mk 4 i l a b e n).txt = (⟨#[112, 118, 58]⟩ : ByteArray) ++ i ++ ⟨#[58]⟩ ++ numBA a ++ ⟨#[47]⟩ ++ numBA b ++ boxed n := ba_ext (by rw [bl_txt, text4]; simp only [bl_append, bl_num, bl_boxed]; simp [bl])
theorem txt5 : (Ct.mk 5 i l s t e n).txt = (⟨#[116, 97, 98, 108, 101, 58]⟩ : ByteArray) ++ i ++ boxed n := ba_ext (by rw [bl_txt, text5]; simp only [bl_append, bl_boxed]; simp [bl])
end
end Go.Proofs.YtmieegcgeolckaaGreatDoor
namespace Go.Proofs.YtmieegcgeolckaaGreatDoor
open Go.RowKit Go.Maps
set_option linter.unusedVariables false

def hasS (l : List ByteArray) (s : ByteArray) : Bool := l.any fun x => x.toList == s.toList
def IdxS (l : List ByteArray) (s : ByteArray) (e : Ending) : Prop := ∃ i : Int, e = .returned (.int .i64 i) ∧ decide (0 ≤ i) = hasS l s

theorem hasS_at {l : List ByteArray} {s : ByteArray} {k : Nat} {x : ByteArray} (h : l[k]? = some x) (h2 : (x.toList == s.toList) = true) : hasS l s = true := by
  unfold hasS; rw [List.any_eq_true]; exact ⟨x, List.mem_of_getElem? h, h2⟩
theorem hasS_no {l : List ByteArray} {s : ByteArray} (h : ∀ x ∈ l, (x.toList == s.toList) = false) : hasS l s = false := by
  unfold hasS; rw [List.any_eq_false]; intro x hx; simp [h x hx]

set_option maxHeartbeats 1000000 in
theorem ref_in32 (a : Option Addr) (cap : Nat) (l : List ByteArray) (s : ByteArray) (w : World) (hl : Strs w a cap l) :
    Calls Tryz.prog 26 #[.slice a l.length cap, .string s] w fun e w' => e = .returned (.bool (hasS l s)) ∧ Fr No w w' := by
  have hm := hl.lenmax
  go_enter Tryz.func26, Tryz.ntmps26
  go_wp2_with fail
  go_loop [5] (fun i => ∃ k : Nat, k ≤ l.length ∧ i = .int .i64 k ∧ Hid (∀ x ∈ l.take k, (x.toList == s.toList) = false)) (fun i => l.length - (intOf i).toNat)
  case atStart => exact ⟨0, by omega, rfl, by unfold Hid; simp⟩
  case round =>
    obtain ⟨k, hk, rfl, hno⟩ := hrel
    by_cases hlt : k < l.length
    · have hlt' : (k : Int) < l.length := by omega
      obtain ⟨b, off, x, rfl, hx, hc⟩ := hl.at hlt
      have Hx := Lib.hid hx
      clear hx
      rcases he : (x.toList == s.toList) with _ | _
      · go_wp2_with fail
        go_round
        case rel =>
          refine ⟨k + 1, by omega, by go_num, ?_⟩
          unfold Hid
          intro y hy
          rw [List.take_add_one, Hx.out] at hy
          rcases List.mem_append.1 hy with h | h
          · exact hno.out y h
          · simp at h; subst h; exact he
        case measure => simp [intOf]; omega
      · have Hg : Hid (hasS l s = true) := hasS_at Hx.out he
        go_wp2_with fail
        go_ret
        exact ⟨ret_bool Hg.out.symm, Fr.refl _ _⟩
    · obtain rfl : k = l.length := by omega
      have h := hno.out
      rw [List.take_of_length_le (by omega)] at h
      have Hg : Hid (hasS l s = false) := hasS_no h
      go_wp2_with fail
      go_ret
      exact ⟨ret_bool Hg.out.symm, Fr.refl _ _⟩

def sameT (l l' : List ByteArray) : Bool := decide (l.map (·.toList) = l'.map (·.toList))

set_option maxHeartbeats 1000000 in
theorem same_texts (a a' : Option Addr) (cap cap' : Nat) (l l' : List ByteArray) (w : World) (hl : Strs w a cap l) (hl' : Strs w a' cap' l') :
    Calls Tryz.prog 36 #[.slice a l.length cap, .slice a' l'.length cap'] w fun e w' => e = .returned (.bool (sameT l l')) ∧ Fr No w w' := by
  have hm := hl.lenmax
  have hm' := hl'.lenmax
  by_cases hlen : l.length = l'.length
  · have hlb : ((l.length : Int) != l'.length) = false := by simp [hlen]
    have Hlen := Lib.hid hlen
    clear hlen
    go_enter Tryz.func36, Tryz.ntmps36
    go_wp2_with fail
    go_loopw [5] (fun i wr => ∃ k : Nat, k ≤ l.length ∧ i = .int .i64 (k : Int) ∧ Hid ((l.take k).map (·.toList) = (l'.take k).map (·.toList)) ∧ Fr No w wr) (fun i _ => l.length - (intOf i).toNat)
    case atStart => exact ⟨0, by omega, rfl, by unfold Hid; simp, Fr.refl _ _⟩
    case round =>
      obtain ⟨k, hk, rfl, hp, hf⟩ := hrel
      by_cases hlt : k < l.length
      · have hlt1 : (k : Int) < l.length := by omega
        have hlt2 : (k : Int) < l'.length := by have := Hlen.out; omega
        have hlt3 : k < l'.length := by omega
        go_wp2_with fail
        refine region_sig No [(0, false), (1, false), (2, false), (3, false), (4, false), (5, false), (6, false), (7, false), (8, false)] (by kernel_rfl) (by kernel_rfl) (fun w0 hf0 => ?_)
        have hf1 := hf.step hf0 (fun _ _ h => h)
        obtain ⟨b, off, x, rfl, hx, c0⟩ := (hl.no hf1 (fun _ => id)).at hlt
        obtain ⟨b', off', x', rfl, hx', c1⟩ := (hl'.no hf1 (fun _ => id)).at hlt3
        have g0 : ∀ g : Gr No w0, g.W.cell? ⟨b, off + k, none⟩ = some (.string x) := fun g => g.fr.cell c0 id
        have g1 : ∀ g : Gr No w0, g.W.cell? ⟨b', off' + k, none⟩ = some (.string x') := fun g => g.fr.cell c1 id
        have Hx := Lib.hid hx
        have Hx' := Lib.hid hx'
        clear c0 c1 hx hx'
        repeat (apply sig_q; exact rfl; exact rfl; exact rfl; intro K hK; go_big_quiet_op; go_big_quiet_on)
        refine sig_end ?_
        rcases he : (x.toList == x'.toList) with _ | _
        · have Hs : Hid (sameT l l' = false) := by
            unfold Hid sameT
            rw [decide_eq_false_iff_not]
            intro h
            have h1 : (l.map (·.toList))[k]? = (l'.map (·.toList))[k]? := by rw [h]
            rw [List.getElem?_map, List.getElem?_map, Hx.out, Hx'.out] at h1
            simp at h1
            rw [h1] at he
            simp at he
          go_wp2_with fail
          go_ret
          exact ⟨ret_bool Hs.out.symm, hf1⟩
        · have He := Lib.hid he
          go_wp2_with fail
          go_roundw
          case rel =>
            refine ⟨k + 1, by omega, by go_num, ?_, hf1⟩
            unfold Hid
            rw [List.take_add_one, List.take_add_one, Hx.out, Hx'.out, List.map_append, List.map_append, hp.out]
            have := He.out
            simp at this
            simp [this]
          case measure => simp [intOf]; omega
      · obtain rfl : k = l.length := by omega
        have Hs : Hid (sameT l l' = true) := by
          unfold Hid sameT
          have h := hp.out
          rw [List.take_length, Hlen.out, List.take_length] at h
          simpa using h
        go_wp2_with fail
        go_ret
        exact ⟨ret_bool Hs.out.symm, hf⟩
  · have hlb : ((l.length : Int) != l'.length) = true := by simp; omega
    have Hs : Hid (sameT l l' = false) := by
      unfold Hid sameT
      rw [decide_eq_false_iff_not]
      intro h
      have := congrArg List.length h
      simp at this
      exact hlen this
    clear hlen
    go_enter Tryz.func36, Tryz.ntmps36
    go_wp2_with fail
    go_ret
    exact ⟨ret_bool Hs.out.symm, Fr.refl _ _⟩
end Go.Proofs.YtmieegcgeolckaaGreatDoor
namespace Go.Proofs.YtmieegcgeolckaaGreatDoor
open Go.RowKit Go.Maps
set_option linter.unusedVariables false

structure Vir where
  q : ByteArray
  o : ByteArray
  c : ByteArray
  r : Int
def Vir.vals (v : Vir) : Array Value := #[.string v.q, .string v.o, .string v.c, .int .i64 v.r]
structure Virs (w : World) (a : Option Addr) (cap : Nat) (L : List Vir) : Prop where
  len : L.length ≤ cap
  max : cap ≤ maxLen
  isNil : a = none → L = [] ∧ cap = 0
  cell : ∀ ad, a = some ad → L ≠ [] → ad.spot = none ∧ ad.block < w.heap.size ∧ ∀ i m, L[i]? = some m → ∀ j, j < 4 → w.cell? ⟨ad.block, ad.off + (i * 4 + j), none⟩ = m.vals[j]?
/-- The four cells of a wanted device at (b, o). -/
structure VirAt (w : World) (b o : Nat) (m : Vir) : Prop where
  c0 : w.cell? ⟨b, o, none⟩ = some (.string m.q)
  c1 : w.cell? ⟨b, o + 1, none⟩ = some (.string m.o)
  c2 : w.cell? ⟨b, o + 2, none⟩ = some (.string m.c)
  c3 : w.cell? ⟨b, o + 3, none⟩ = some (.int .i64 m.r)
theorem Virs.elem {w : World} {a : Option Addr} {cap : Nat} {L : List Vir} (h : Virs w a cap L) {k : Nat} (hk : k < L.length) :
    ∃ b off m, a = some ⟨b, off, none⟩ ∧ L[k]? = some m ∧ VirAt w b (off + k * 4) m ∧ b < w.heap.size := by
  cases a with
  | none => obtain ⟨rfl, _⟩ := h.isNil rfl; simp at hk
  | some ad =>
    obtain ⟨b, off, sp⟩ := ad
    obtain ⟨h1, h2, h3⟩ := h.cell _ rfl (by intro e; subst e; simp at hk)
    simp at h1; subst h1
    have hc := h3 k _ (List.getElem?_eq_getElem hk)
    exact ⟨b, off, L[k], rfl, List.getElem?_eq_getElem hk, ⟨hc 0 (by omega), hc 1 (by omega), hc 2 (by omega), hc 3 (by omega)⟩, h2⟩
theorem Virs.lenmax {w : World} {a : Option Addr} {cap : Nat} {L : List Vir} (h : Virs w a cap L) : L.length ≤ 9223372036854775807 := by
  have h1 := h.len; have h2 := h.max; unfold maxLen at h2; omega
theorem Virs.fr {S : Nat → Prop} {w w' : World} {a : Option Addr} {cap : Nat} {L : List Vir} (h : Virs w a cap L) (hf : Fr S w w') (hS : ∀ ad, a = some ad → L ≠ [] → ¬ S ad.block) : Virs w' a cap L :=
  ⟨h.len, h.max, h.isNil, fun ad e hne => by
    obtain ⟨h1, h2, h3⟩ := h.cell ad e hne
    refine ⟨h1, Nat.lt_of_lt_of_le h2 hf.size, fun i m hi j hj => ?_⟩
    rw [← h3 i m hi j hj]
    exact World.cell?_of_block (hf.block _ h2 (hS ad e hne))⟩
theorem Virs.no {S : Nat → Prop} {w w' : World} {a : Option Addr} {cap : Nat} {L : List Vir} (h : Virs w a cap L) (hf : Fr S w w') (hS : ∀ k, ¬ S k) : Virs w' a cap L := h.fr hf (fun _ _ _ => hS _)
theorem Virs.nil (w : World) : Virs w none 0 [] := ⟨by simp, by simp, fun _ => ⟨rfl, rfl⟩, fun _ e _ => by cases e⟩
theorem infoV : (Tryz.prog.info? 44).map (fun i => (i.zero, i.size, i.bytes)) = some (some (.agg #[.string ByteArray.empty, .string ByteArray.empty, .string ByteArray.empty, .int .i64 0]), 4, 56) := by kernel_rfl
def vflat (L : List Vir) : List Value := L.flatMap (fun m => m.vals.toList)
theorem vflat_snoc (L : List Vir) (m : Vir) : vflat (L ++ [m]) = vflat L ++ m.vals.toList := by simp [vflat]
theorem vvals_one (m : Vir) : ∀ u ∈ m.vals.toList, u.oneCell' = true := by
  intro u hu
  simp [Vir.vals] at hu
  rcases hu with rfl | rfl | rfl | rfl <;> rfl
theorem vflat_at : ∀ (L : List Vir) (i : Nat) (m : Vir), L[i]? = some m → ∀ j, j < 4 → (vflat L)[i * 4 + j]? = m.vals[j]?
  | [], i, m, h, j, hj => by simp at h
  | x :: t, 0, m, h, j, hj => by
    simp at h; subst h
    have : vflat (x :: t) = x.vals.toList ++ vflat t := by simp [vflat]
    rw [this, List.getElem?_append_left (by simp [Vir.vals]; omega)]
    simp
  | x :: t, i + 1, m, h, j, hj => by
    have : vflat (x :: t) = x.vals.toList ++ vflat t := by simp [vflat]
    rw [this, List.getElem?_append_right (by simp [Vir.vals]; omega), show (i + 1) * 4 + j - x.vals.toList.length = i * 4 + j from by simp [Vir.vals]; omega]
    exact vflat_at t i m (by simpa using h) j hj
theorem Virs.of_own {w : World} {base : Nat} {e : TypeId} {v : Value} {L : List Vir} (h : w.ownsRow base e 4 v L.length (vflat L)) :
    ∃ a cap, v = .slice a L.length cap ∧ Virs w a cap L ∧ ∀ ad, a = some ad → base ≤ ad.block := by
  obtain ⟨_, ⟨rfl, h2⟩ | ⟨g, cap, cur, rfl, hg, hb, h1, h2, h3, h4⟩⟩ := h
  · have : L = [] := List.eq_nil_of_length_eq_zero h2
    subst this
    exact ⟨none, 0, rfl, Virs.nil w, fun _ e => by cases e⟩
  · refine ⟨some ⟨g, 0, none⟩, cap, rfl, ⟨h1, h2, (fun e => by cases e), ?_⟩, fun ad e => by cases e; exact hg⟩
    intro ad e hne
    cases e
    refine ⟨rfl, lt_of_block hb, fun i m hi j hj => ?_⟩
    rw [cell_of_block hb]
    simp only [Nat.zero_add]
    have hlt : i < L.length := (List.getElem?_eq_some_iff.1 hi).1
    have e1 : (cur.toList.take (L.length * 4))[i * 4 + j]? = (vflat L)[i * 4 + j]? := by rw [h4]
    rw [List.getElem?_take_of_lt (by omega), vflat_at L i m hi j hj] at e1
    rw [← Array.getElem?_toList, e1]
end Go.Proofs.YtmieegcgeolckaaGreatDoor
namespace Go.Proofs.YtmieegcgeolckaaGreatDoor
open Go.RowKit
set_option linter.unusedVariables false

theorem hasS_iff {l : List ByteArray} {s : ByteArray} : hasS l s = true ↔ s ∈ l := by
  unfold hasS
  rw [List.any_eq_true]
  constructor
  · rintro ⟨x, hx, h⟩
    rw [strEq] at h
    rw [← of_decide_eq_true h]; exact hx
  · intro h
    exact ⟨s, h, by rw [strEq]; simp⟩
def openT : ByteArray := ⟨#[111, 112, 101, 110, 45]⟩
theorem append_inj {a x y : ByteArray} (h : a ++ x = a ++ y) : x = y := by
  have h1 := congrArg (fun b : ByteArray => b.data.toList) h
  simp at h1
  cases x; cases y
  simp only at h1
  rw [h1]
/-- The content of the layer of an ID. -/
def inner0 (L : List Mem) (x : ByteArray) : ByteArray := ((best L (kb x)).getD Mem.zero).l.headD ⟨#[]⟩
def virOf (L : List Mem) (r : Int) (x : ByteArray) : Vir := ⟨⟨#[]⟩, openT ++ x, inner0 L x, r⟩
def opened (ids K : List ByteArray) : List ByteArray := ids.filter (hasS K)
def asked (ids K : List ByteArray) : List ByteArray := ids.filter fun x => !hasS K x
def cntO (V : List Vir) (s : ByteArray) : Nat := (V.filter fun v => v.o.toList == s.toList).length
def cntS (l : List ByteArray) (s : ByteArray) : Nat := (l.filter fun x => x.toList == s.toList).length
theorem cntO_snoc (V : List Vir) (v : Vir) (s : ByteArray) : cntO (V ++ [v]) s = cntO V s + (if (v.o.toList == s.toList) = true then 1 else 0) := by
  unfold cntO
  rw [List.filter_append, List.length_append]
  congr 1
  rw [List.filter_cons]
  split <;> rfl
theorem cntS_snoc (l : List ByteArray) (x s : ByteArray) : cntS (l ++ [x]) s = cntS l s + (if (x.toList == s.toList) = true then 1 else 0) := by
  unfold cntS
  rw [List.filter_append, List.length_append]
  congr 1
  rw [List.filter_cons]
  split <;> rfl
theorem cntO_le (V : List Vir) (s : ByteArray) : cntO V s ≤ V.length := List.length_filter_le _ _
theorem cntS_le (l : List ByteArray) (s : ByteArray) : cntS l s ≤ l.length := List.length_filter_le _ _
theorem cntS_count (l : List ByteArray) (s : ByteArray) : cntS l s = (l.filter fun x => decide (x = s)).length := by
  unfold cntS
  congr 1
  refine List.filter_congr (fun x _ => ?_)
  rw [strEq]
theorem cntO_open (L : List Mem) (r : Int) (l : List ByteArray) (x : ByteArray) : cntO (l.map (virOf L r)) (openT ++ x) = cntS l x := by
  unfold cntO cntS
  rw [List.filter_map, List.length_map]
  congr 1
  refine List.filter_congr (fun y _ => ?_)
  show ((openT ++ y).toList == (openT ++ x).toList) = (y.toList == x.toList)
  rw [strEq, strEq, decide_eq_decide]
  exact ⟨append_inj, fun e => by rw [e]⟩
theorem AscS.nodup {l : List ByteArray} (h : AscS (l.map kb)) : l.Nodup := by
  have h1 := List.pairwise_map.1 h
  exact h1.imp (fun {a b} h e => h.2 (by rw [e]))
theorem filter_one {l : List ByteArray} (h : l.Nodup) {x : ByteArray} (hx : x ∈ l) : (l.filter fun y => decide (y = x)).length = 1 := by
  induction l with
  | nil => cases hx
  | cons y t ih =>
    obtain ⟨h1, h2⟩ := List.nodup_cons.1 h
    by_cases e : y = x
    · subst e
      have : t.filter (fun z => decide (z = y)) = [] := by
        rw [List.filter_eq_nil_iff]
        intro z hz
        simp
        rintro rfl
        exact h1 hz
      simp [this]
    · have hx' : x ∈ t := by
        rcases List.mem_cons.1 hx with h3 | h3
        · exact absurd h3.symm e
        · exact h3
      simp [e, ih h2 hx']
/-- Each layer is opened or asked for, and never both. -/
theorem shares {L : List Mem} {ids : List ByteArray} (h : IsIds L ids) (K : List ByteArray) (r : Int) {x : ByteArray} (hx : x ∈ ids) : cntO ((opened ids K).map (virOf L r)) (openT ++ x) + cntS (asked ids K) x = 1 := by
  rw [cntO_open, cntS_count, cntS_count]
  unfold opened asked
  have hn := AscS.nodup h.asc
  cases hk : hasS K x with
  | true =>
    have h1 : x ∈ ids.filter (hasS K) := List.mem_filter.2 ⟨hx, hk⟩
    rw [filter_one (hn.filter _) h1]
    have : (ids.filter fun y => !hasS K y).filter (fun y => decide (y = x)) = [] := by
      rw [List.filter_eq_nil_iff]
      intro z hz
      simp
      rintro rfl
      have := (List.mem_filter.1 hz).2
      simp [hk] at this
    rw [this]; rfl
  | false =>
    have h1 : x ∈ ids.filter (fun y => !hasS K y) := List.mem_filter.2 ⟨hx, by simp [hk]⟩
    rw [filter_one (hn.filter _) h1]
    have : (ids.filter (hasS K)).filter (fun y => decide (y = x)) = [] := by
      rw [List.filter_eq_nil_iff]
      intro z hz
      simp
      rintro rfl
      have := (List.mem_filter.1 hz).2
      simp [hk] at this
    rw [this]; rfl
theorem opened_asked_len (ids K : List ByteArray) : (opened ids K).length + (asked ids K).length = ids.length := by
  unfold opened asked
  induction ids with
  | nil => rfl
  | cons x t ih =>
    rw [List.filter_cons, List.filter_cons]
    cases hasS K x <;> simp <;> omega
/-- IDs ascend strictly, bytewise. -/
theorem leS_less (x y : List UInt8) : leS x y = (Op.bytesLess x y || decide (x = y)) := by
  unfold leS
  induction x generalizing y with
  | nil => cases y <;> simp [Op.bytesLess]
  | cons a s ih =>
    cases y with
    | nil => simp [Op.bytesLess]
    | cons b t =>
      have h := ih t
      by_cases h1 : a < b
      · have h4 : (a :: s ≤ b :: t) := List.cons_le_cons_iff.2 (.inl h1)
        simp [Op.bytesLess, h1, h4]
      · by_cases h2 : b < a
        · have h3 : a ≠ b := fun e => by subst e; exact absurd h2 (UInt8.lt_irrefl _)
          have h4 : ¬ (a :: s ≤ b :: t) := fun h5 => by
            rcases List.cons_le_cons_iff.1 h5 with h6 | ⟨h6, _⟩
            · exact h1 h6
            · exact h3 h6
          simp [Op.bytesLess, h1, h3, h4]
        · have h3 : a = b := UInt8.le_antisymm (UInt8.not_lt.1 h2) (UInt8.not_lt.1 h1)
          subst h3
          have h4 : (a :: s ≤ a :: t) ↔ s ≤ t := by
            rw [List.cons_le_cons_iff]
            constructor
            · rintro (h6 | ⟨_, h6⟩)
              · exact absurd h6 h1
              · exact h6
            · intro h6; exact .inr ⟨rfl, h6⟩
          simp only [h4, h, Op.bytesLess]
          simp

/-! ### one more key -/
/-- What one more key makes of what was opened. -/
theorem opened_key {ids K : List ByteArray} (hn : ids.Nodup) (key : ByteArray) :
    (hasS (asked ids K) key = false ∧ opened ids (K ++ [key]) = opened ids K) ∨
    (hasS (asked ids K) key = true ∧ opened ids K = (opened ids (K ++ [key])).filter (fun x => !decide (x = key)) ∧ (opened ids (K ++ [key])).length = (opened ids K).length + 1) := by
  have hk : ∀ x, hasS (K ++ [key]) x = (hasS K x || decide (x = key)) := fun x => by
    unfold hasS
    rw [List.any_append]
    simp only [List.any_cons, List.any_nil, Bool.or_false]
    congr 1
    rw [strEq]
    by_cases e : key = x
    · simp [e]
    · simp [e, Ne.symm e]
  cases ha : hasS (asked ids K) key with
  | false =>
    refine .inl ⟨rfl, ?_⟩
    unfold opened
    refine List.filter_congr (fun x hx => ?_)
    rw [hk]
    by_cases e : x = key
    · subst e
      cases hK : hasS K x with
      | true => rfl
      | false =>
        exfalso
        have : x ∈ asked ids K := List.mem_filter.2 ⟨hx, by simp [hK]⟩
        rw [hasS_iff.2 this] at ha; cases ha
    · simp [e]
  | true =>
    have hm := List.mem_filter.1 (hasS_iff.1 ha)
    have hK : hasS K key = false := by simpa using hm.2
    have e1 : opened ids K = (opened ids (K ++ [key])).filter (fun x => !decide (x = key)) := by
      unfold opened
      rw [List.filter_filter]
      refine List.filter_congr (fun x hx => ?_)
      rw [hk]
      by_cases e : x = key
      · subst e; simp [hK]
      · simp [e]
    refine .inr ⟨rfl, e1, ?_⟩
    have hx : key ∈ opened ids (K ++ [key]) := List.mem_filter.2 ⟨hm.1, by rw [hk]; simp⟩
    have h2 := filter_one (l := opened ids (K ++ [key])) (hn.filter _) hx
    have h3 : ∀ l : List ByteArray, (l.filter fun x => !decide (x = key)).length + (l.filter fun x => decide (x = key)).length = l.length := by
      intro l
      induction l with
      | nil => rfl
      | cons y t ih =>
        rw [List.filter_cons, List.filter_cons]
        by_cases e : y = key <;> simp [e] <;> omega
    have h4 := h3 (opened ids (K ++ [key]))
    rw [← e1, h2] at h4
    exact h4.symm
theorem filter_at {α : Type} (p : α → Bool) : ∀ (l : List α) (j : Nat) (x : α), l[j]? = some x → p x = true → (l.filter p)[((l.take j).filter p).length]? = some x
  | [], j, x, h, _ => by simp at h
  | y :: t, 0, x, h, hp => by
    simp at h; subst h
    simp [hp]
  | y :: t, j + 1, x, h, hp => by
    have ih := filter_at p t j x (by simpa using h) hp
    rw [List.take_succ_cons, List.filter_cons, List.filter_cons]
    split
    · simpa using ih
    · exact ih
end Go.Proofs.YtmieegcgeolckaaGreatDoor
