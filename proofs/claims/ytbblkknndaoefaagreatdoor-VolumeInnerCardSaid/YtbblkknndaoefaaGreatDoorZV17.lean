/- How many contents a text holds. Plain. The words of a parsed content are short. Plain. The texts of contents as the program writes them. Plain. The example of the chapter of layers. Plain. The example of the chapter of volumes. Plain. Depth of a content. Copies of contents and all contents in one: only the outer values. -/
import Derived.Test.YtbblkknndaoefaaGreatDoorZV7
import Derived.Lib.Join
import Derived.Test.YtbblkknndaoefaaGreatDoorZV6
import Derived.Test.YtbblkknndaoefaaGreatDoorZV5
import Derived.Test.YtbblkknndaoefaaGreatDoorZV13
import Derived.Test.YtbblkknndaoefaaGreatDoorZV9
import Derived.Test.YtbblkknndaoefaaGreatDoorZV10
namespace Go.Proofs.YtbblkknndaoefaaGreatDoor
open Go
set_option linter.unusedVariables false
mutual
def Ct.count : Ct → Nat
  | .mk _ _ _ _ _ _ n => Ct.counts n + 1
def Ct.counts : List Ct → Nat
  | [] => 0
  | c :: t => c.count + Ct.counts t
end
theorem counts_append : ∀ (l m : List Ct), Ct.counts (l ++ m) = Ct.counts l + Ct.counts m
  | [], m => by simp [Ct.counts]
  | c :: t, m => by rw [List.cons_append, Ct.counts, Ct.counts, counts_append t m]; omega
mutual
theorem depth_count : ∀ c : Ct, c.depth ≤ c.count
  | .mk k i l s t e n => by
    have h := depths_counts n
    rw [Ct.depth, Ct.count]
    split <;> omega
theorem depths_counts : ∀ l : List Ct, Ct.depths l ≤ Ct.counts l
  | [] => by simp [Ct.depths, Ct.counts]
  | c :: t => by
    have h1 := depth_count c
    have h2 := depths_counts t
    rw [Ct.depths, Ct.counts]
    omega
end
theorem count_pos : ∀ c : Ct, 0 < c.count
  | .mk k i l s t e n => by rw [Ct.count]; omega
theorem len_counts : ∀ l : List Ct, l.length ≤ Ct.counts l
  | [] => by simp
  | c :: t => by
    have h1 := count_pos c
    have h2 := len_counts t
    rw [List.length_cons, Ct.counts]
    omega
theorem mem_count {c : Ct} : ∀ {l : List Ct}, c ∈ l → c.count ≤ Ct.counts l
  | [], h => by cases h
  | d :: t, h => by
    rw [Ct.counts]
    rcases List.mem_cons.1 h with rfl | h
    · omega
    · have := mem_count h
      omega
theorem mem_depth {c : Ct} : ∀ {l : List Ct}, c ∈ l → c.depth ≤ Ct.depths l
  | [], h => by cases h
  | d :: t, h => by
    rw [Ct.depths]
    rcases List.mem_cons.1 h with rfl | h
    · omega
    · have := mem_depth h
      omega
theorem depths_snoc : ∀ (l : List Ct) (c : Ct), Ct.depths (l ++ [c]) = max (Ct.depths l) c.depth
  | [], c => by simp [Ct.depths]
  | d :: t, c => by rw [List.cons_append, Ct.depths, Ct.depths, depths_snoc t c]; omega
theorem past_len (ends r : List UInt8) : (past ends r).length ≤ r.length := by
  have h := congrArg List.length (upto_past ends r)
  rw [List.length_append] at h
  omega
theorem skip1_len {b : UInt8} {r t : List UInt8} (h : skip1 b r = some t) : r.length = t.length + 1 := by rw [skip1_some h]; rfl
theorem pNum_len {r : List UInt8} {p : Int × List UInt8} (h : pNum r = some p) : p.2.length ≤ r.length := by
  have := congrArg List.length (pNum_some (v := p.1) (r' := p.2) h)
  rw [List.length_append] at this
  omega
theorem p_count : ∀ n : Nat, (∀ r c r', pC n r = some (c, r') → c.count + r'.length ≤ r.length + 1) ∧ (∀ acc r l r', pL n acc r = some (l, r') → Ct.counts l + r'.length ≤ Ct.counts acc + r.length)
  | 0 => ⟨fun r c r' h => by simp [pC] at h, fun acc r l r' h => by simp [pL] at h⟩
  | n + 1 => by
    obtain ⟨ihC, ihL⟩ := p_count n
    have hin : ∀ ra (pb : List Ct × List UInt8), pL n [] ra = some pb → Ct.counts pb.1 + pb.2.length ≤ ra.length := fun ra pb h => by
      have := ihL [] ra pb.1 pb.2 h
      simpa [Ct.counts] using this
    refine ⟨fun r c r' h => ?_, fun acc r l r' h => ?_⟩
    · have hr := past_len [58, 44, 41] r
      rw [pC] at h
      by_cases h0 : upto [58, 44, 41] r = []
      · rw [if_pos h0] at h
        injection h with h
        injection h with h1 h2
        subst h1; subst h2
        simp [Ct.zero, Ct.count, Ct.counts]; omega
      rw [if_neg h0] at h
      obtain ⟨r2, hr2, h⟩ := Option.bind_eq_some_iff.1 h
      have e2 := skip1_len hr2
      have hid := past_len [58, 40, 44, 41] r2
      simp only at h
      generalize upto [58, 40, 44, 41] r2 = di at h
      generalize past [58, 40, 44, 41] r2 = r3 at h hid
      split at h
      · obtain ⟨r4, hr4, h⟩ := Option.bind_eq_some_iff.1 h
        have e4 := skip1_len hr4
        have hl := past_len [44, 41] r4
        injection h with h
        injection h with h1 h2
        subst h1; subst h2
        simp [Ct.count, Ct.counts]; omega
      split at h
      · obtain ⟨r4, hr4, h⟩ := Option.bind_eq_some_iff.1 h
        obtain ⟨p5, hp5, h⟩ := Option.bind_eq_some_iff.1 h
        obtain ⟨r6, hr6, h⟩ := Option.bind_eq_some_iff.1 h
        obtain ⟨p7, hp7, h⟩ := Option.bind_eq_some_iff.1 h
        obtain ⟨r8, hr8, h⟩ := Option.bind_eq_some_iff.1 h
        obtain ⟨p9, hp9, h⟩ := Option.bind_eq_some_iff.1 h
        obtain ⟨ra, hra, h⟩ := Option.bind_eq_some_iff.1 h
        obtain ⟨pb, hpb, h⟩ := Option.bind_eq_some_iff.1 h
        injection h with h
        injection h with h1 h2
        subst h1; subst h2
        have e5 := pNum_len hp5
        have e7 := pNum_len hp7
        have e9 := pNum_len hp9
        have e4 := skip1_len hr4
        have e6 := skip1_len hr6
        have e8 := skip1_len hr8
        have ea := skip1_len hra
        have eb := hin ra pb hpb
        rw [Ct.count]
        omega
      split at h
      · obtain ⟨ra, hra, h⟩ := Option.bind_eq_some_iff.1 h
        obtain ⟨pb, hpb, h⟩ := Option.bind_eq_some_iff.1 h
        injection h with h
        injection h with h1 h2
        subst h1; subst h2
        have ea := skip1_len hra
        have eb := hin ra pb hpb
        rw [Ct.count]
        omega
      split at h
      · obtain ⟨r4, hr4, h⟩ := Option.bind_eq_some_iff.1 h
        obtain ⟨p5, hp5, h⟩ := Option.bind_eq_some_iff.1 h
        obtain ⟨r6, hr6, h⟩ := Option.bind_eq_some_iff.1 h
        obtain ⟨p7, hp7, h⟩ := Option.bind_eq_some_iff.1 h
        obtain ⟨ra, hra, h⟩ := Option.bind_eq_some_iff.1 h
        obtain ⟨pb, hpb, h⟩ := Option.bind_eq_some_iff.1 h
        injection h with h
        injection h with h1 h2
        subst h1; subst h2
        have e5 := pNum_len hp5
        have e7 := pNum_len hp7
        have e4 := skip1_len hr4
        have e6 := skip1_len hr6
        have ea := skip1_len hra
        have eb := hin ra pb hpb
        rw [Ct.count]
        omega
      split at h
      · obtain ⟨ra, hra, h⟩ := Option.bind_eq_some_iff.1 h
        obtain ⟨pb, hpb, h⟩ := Option.bind_eq_some_iff.1 h
        injection h with h
        injection h with h1 h2
        subst h1; subst h2
        have ea := skip1_len hra
        have eb := hin ra pb hpb
        rw [Ct.count]
        omega
      · cases h
    · rw [pL] at h
      obtain ⟨p, hp, h⟩ := Option.bind_eq_some_iff.1 h
      have e1 := ihC r p.1 p.2 hp
      cases hs : skip1 41 p.2 with
      | some r2 =>
        rw [hs] at h
        simp only at h
        injection h with h
        injection h with h1 h2
        subst h1; subst h2
        have e2 := skip1_len hs
        rw [counts_append]
        simp only [Ct.counts]
        omega
      | none =>
        rw [hs] at h
        simp only at h
        obtain ⟨r2, hr2, h⟩ := Option.bind_eq_some_iff.1 h
        have e2 := skip1_len hr2
        have := ihL _ r2 l r' h
        rw [counts_append] at this
        simp only [Ct.counts] at this
        omega
end Go.Proofs.YtbblkknndaoefaaGreatDoor
namespace Go.Proofs.YtbblkknndaoefaaGreatDoor
open Go
set_option linter.unusedVariables false
mutual
/-- A content and all in it. -/
def Ct.walk : Ct → List Ct
  | .mk k i l s t e n => .mk k i l s t e n :: Ct.walks n
def Ct.walks : List Ct → List Ct
  | [] => []
  | c :: t => c.walk ++ Ct.walks t
end
mutual
theorem walk_len : ∀ c : Ct, c.walk.length = c.count
  | .mk k i l s t e n => by rw [Ct.walk, Ct.count, List.length_cons, walks_len n]
theorem walks_len : ∀ l : List Ct, (Ct.walks l).length = Ct.counts l
  | [] => rfl
  | c :: t => by rw [Ct.walks, Ct.counts, List.length_append, walk_len c, walks_len t]
end
theorem walks_append : ∀ (l m : List Ct), Ct.walks (l ++ m) = Ct.walks l ++ Ct.walks m
  | [], m => rfl
  | c :: t, m => by rw [List.cons_append, Ct.walks, Ct.walks, walks_append t m, List.append_assoc]
mutual
theorem good_walk : ∀ c : Ct, c.good = c.walk.all alike
  | .mk k i l s t e n => by rw [Ct.good, Ct.walk, List.all_cons, goods_walk n]
theorem goods_walk : ∀ l : List Ct, Ct.goods l = (Ct.walks l).all alike
  | [] => rfl
  | c :: t => by rw [Ct.goods, Ct.walks, List.all_append, good_walk c, goods_walk t]
end
/-- Its ID and label are of at most m bytes. -/
def SmallC (m : Nat) (d : Ct) : Prop := d.id.size ≤ m ∧ d.label.size ≤ m
theorem SmallC.mono {m m' : Nat} {d : Ct} (h : SmallC m d) (hm : m ≤ m') : SmallC m' d := ⟨Nat.le_trans h.1 hm, Nat.le_trans h.2 hm⟩
theorem upto_len (ends r : List UInt8) : (upto ends r).length ≤ r.length := by
  have h := congrArg List.length (upto_past ends r)
  rw [List.length_append] at h
  omega
theorem p_small : ∀ n : Nat, (∀ r c r', pC n r = some (c, r') → ∀ d ∈ c.walk, SmallC r.length d) ∧ (∀ acc r l r', pL n acc r = some (l, r') → ∀ d ∈ Ct.walks l, d ∈ Ct.walks acc ∨ SmallC r.length d)
  | 0 => ⟨fun r c r' h => by simp [pC] at h, fun acc r l r' h => by simp [pL] at h⟩
  | n + 1 => by
    obtain ⟨ihC, ihL⟩ := p_small n
    have ihN := (p_count n).1
    have hin : ∀ ra (pb : List Ct × List UInt8), pL n [] ra = some pb → ∀ d ∈ Ct.walks pb.1, SmallC ra.length d := fun ra pb h d hd => by
      rcases ihL [] ra pb.1 pb.2 h d hd with h | h
      · simp [Ct.walks] at h
      · exact h
    refine ⟨fun r c r' h => ?_, fun acc r l r' h => ?_⟩
    · have hr := past_len [58, 44, 41] r
      rw [pC] at h
      by_cases h0 : upto [58, 44, 41] r = []
      · rw [if_pos h0] at h
        injection h with h
        injection h with h1 h2
        subst h1; subst h2
        intro d hd
        simp [Ct.zero, Ct.walk, Ct.walks] at hd
        subst hd
        exact ⟨Nat.zero_le _, Nat.zero_le _⟩
      rw [if_neg h0] at h
      obtain ⟨r2, hr2, h⟩ := Option.bind_eq_some_iff.1 h
      have e2 := skip1_len hr2
      have hid := past_len [58, 40, 44, 41] r2
      have hiu := upto_len [58, 40, 44, 41] r2
      simp only at h
      generalize upto [58, 40, 44, 41] r2 = di at h hiu
      generalize past [58, 40, 44, 41] r2 = r3 at h hid
      split at h
      · obtain ⟨r4, hr4, h⟩ := Option.bind_eq_some_iff.1 h
        have e4 := skip1_len hr4
        have hl := past_len [44, 41] r4
        injection h with h
        injection h with h1 h2
        subst h1; subst h2
        have hlu := upto_len [44, 41] r4
        intro d hd
        simp only [Ct.walk, Ct.walks, List.mem_singleton] at hd
        subst hd
        exact ⟨by show di.toArray.size ≤ _; simp; omega, by show (upto [44, 41] r4).toArray.size ≤ _; simp; omega⟩
      split at h
      · obtain ⟨r4, hr4, h⟩ := Option.bind_eq_some_iff.1 h
        obtain ⟨p5, hp5, h⟩ := Option.bind_eq_some_iff.1 h
        obtain ⟨r6, hr6, h⟩ := Option.bind_eq_some_iff.1 h
        obtain ⟨p7, hp7, h⟩ := Option.bind_eq_some_iff.1 h
        obtain ⟨r8, hr8, h⟩ := Option.bind_eq_some_iff.1 h
        obtain ⟨p9, hp9, h⟩ := Option.bind_eq_some_iff.1 h
        obtain ⟨ra, hra, h⟩ := Option.bind_eq_some_iff.1 h
        obtain ⟨pb, hpb, h⟩ := Option.bind_eq_some_iff.1 h
        injection h with h
        injection h with h1 h2
        subst h1; subst h2
        have e5 := pNum_len hp5
        have e7 := pNum_len hp7
        have e9 := pNum_len hp9
        have e4 := skip1_len hr4
        have e6 := skip1_len hr6
        have e8 := skip1_len hr8
        have ea := skip1_len hra
        have eb := hin ra pb hpb
        intro d hd
        rw [Ct.walk] at hd
        rcases List.mem_cons.1 hd with rfl | hd
        · exact ⟨by show di.toArray.size ≤ _; simp; omega, Nat.zero_le _⟩
        · exact (eb d hd).mono (by omega)
      split at h
      · obtain ⟨ra, hra, h⟩ := Option.bind_eq_some_iff.1 h
        obtain ⟨pb, hpb, h⟩ := Option.bind_eq_some_iff.1 h
        injection h with h
        injection h with h1 h2
        subst h1; subst h2
        have ea := skip1_len hra
        have eb := hin ra pb hpb
        intro d hd
        rw [Ct.walk] at hd
        rcases List.mem_cons.1 hd with rfl | hd
        · exact ⟨by show di.toArray.size ≤ _; simp; omega, Nat.zero_le _⟩
        · exact (eb d hd).mono (by omega)
      split at h
      · obtain ⟨r4, hr4, h⟩ := Option.bind_eq_some_iff.1 h
        obtain ⟨p5, hp5, h⟩ := Option.bind_eq_some_iff.1 h
        obtain ⟨r6, hr6, h⟩ := Option.bind_eq_some_iff.1 h
        obtain ⟨p7, hp7, h⟩ := Option.bind_eq_some_iff.1 h
        obtain ⟨ra, hra, h⟩ := Option.bind_eq_some_iff.1 h
        obtain ⟨pb, hpb, h⟩ := Option.bind_eq_some_iff.1 h
        injection h with h
        injection h with h1 h2
        subst h1; subst h2
        have e5 := pNum_len hp5
        have e7 := pNum_len hp7
        have e4 := skip1_len hr4
        have e6 := skip1_len hr6
        have ea := skip1_len hra
        have eb := hin ra pb hpb
        intro d hd
        rw [Ct.walk] at hd
        rcases List.mem_cons.1 hd with rfl | hd
        · exact ⟨by show di.toArray.size ≤ _; simp; omega, Nat.zero_le _⟩
        · exact (eb d hd).mono (by omega)
      split at h
      · obtain ⟨ra, hra, h⟩ := Option.bind_eq_some_iff.1 h
        obtain ⟨pb, hpb, h⟩ := Option.bind_eq_some_iff.1 h
        injection h with h
        injection h with h1 h2
        subst h1; subst h2
        have ea := skip1_len hra
        have eb := hin ra pb hpb
        intro d hd
        rw [Ct.walk] at hd
        rcases List.mem_cons.1 hd with rfl | hd
        · exact ⟨by show di.toArray.size ≤ _; simp; omega, Nat.zero_le _⟩
        · exact (eb d hd).mono (by omega)
      · cases h
    · rw [pL] at h
      obtain ⟨p, hp, h⟩ := Option.bind_eq_some_iff.1 h
      have e1 := ihC r p.1 p.2 hp
      cases hs : skip1 41 p.2 with
      | some r2 =>
        rw [hs] at h
        simp only at h
        injection h with h
        injection h with h1 h2
        subst h1; subst h2
        have e2 := skip1_len hs
        intro d hd
        rw [walks_append] at hd
        rcases List.mem_append.1 hd with hd | hd
        · exact .inl hd
        · exact .inr (e1 d (by simpa [Ct.walks] using hd))
      | none =>
        rw [hs] at h
        simp only at h
        obtain ⟨r2, hr2, h⟩ := Option.bind_eq_some_iff.1 h
        have e2 := skip1_len hr2
        have e3 := ihN r p.1 p.2 hp
        have e4 := count_pos p.1
        intro d hd
        rcases ihL _ r2 l r' h d hd with h5 | h5
        · rw [walks_append] at h5
          rcases List.mem_append.1 h5 with h5 | h5
          · exact .inl h5
          · exact .inr (e1 d (by simpa [Ct.walks] using h5))
        · exact .inr (h5.mono (by omega))
mutual
theorem inner_len : ∀ {c d : Ct}, d ∈ c.walk → d.inner.length ≤ c.count
  | .mk k i l s t e n, d, h => by
    rw [Ct.walk] at h
    rw [Ct.count]
    rcases List.mem_cons.1 h with rfl | h
    · have := len_counts n
      show n.length ≤ _
      omega
    · have := inner_lens h
      omega
theorem inner_lens : ∀ {n : List Ct} {d : Ct}, d ∈ Ct.walks n → d.inner.length ≤ Ct.counts n
  | [], d, h => by simp [Ct.walks] at h
  | c :: t, d, h => by
    rw [Ct.walks] at h
    rw [Ct.counts]
    rcases List.mem_append.1 h with h | h
    · have := inner_len h
      omega
    · have := inner_lens h
      omega
end
end Go.Proofs.YtbblkknndaoefaaGreatDoor
namespace Go.Proofs.YtbblkknndaoefaaGreatDoor
open Go
set_option linter.unusedVariables false
theorem bl_append (a b : ByteArray) : bl (a ++ b) = bl a ++ bl b := by simp [bl]
theorem ba_ext {a b : ByteArray} (h : bl a = bl b) : a = b := by
  rw [← mk_bl a, ← mk_bl b, h]
/-- The text of a content. -/
def Ct.txt (c : Ct) : ByteArray := ⟨c.text.toArray⟩
theorem bl_txt (c : Ct) : bl c.txt = c.text := bl_mk _
theorem join_commas : ∀ l : List (List UInt8), Lib.join l [44] = commas l
  | [] => rfl
  | [x] => by simp [Lib.join, commas, List.intercalate]
  | x :: y :: t => by
    have h := join_commas (y :: t)
    unfold Lib.join at *
    rw [commas, ← h]
    simp [List.intercalate, List.intersperse]
theorem commas_mem {x : List UInt8} : ∀ {l : List (List UInt8)}, x ∈ l → x.length ≤ (commas l).length
  | [], h => by cases h
  | [y], h => by simp at h; subst h; simp [commas]
  | y :: z :: t, h => by
    rw [commas]
    rcases List.mem_cons.1 h with rfl | h
    · simp
    · have := commas_mem h
      simp; omega
/-- What stands in the brackets. -/
def inTxt (n : List Ct) : ByteArray := ⟨(commas (n.map Ct.text)).toArray⟩
theorem bl_in (n : List Ct) : bl (inTxt n) = commas (n.map Ct.text) := bl_mk _
theorem in_join (n : List Ct) : (⟨(Lib.join ((n.map Ct.txt).map (·.data.toList)) [44]).toArray⟩ : ByteArray) = inTxt n := by
  rw [join_commas, List.map_map]
  have : (fun c => ((fun x : ByteArray => x.data.toList) ∘ Ct.txt) c) = Ct.text := funext fun c => bl_txt c
  show (⟨(commas (n.map (fun c => ((fun x : ByteArray => x.data.toList) ∘ Ct.txt) c))).toArray⟩ : ByteArray) = _
  rw [this]; rfl
theorem in_len (n : List Ct) : (Lib.join ((n.map Ct.txt).map (·.data.toList)) [44]).length = (commas (n.map Ct.text)).length := by
  have := congrArg bl (in_join n)
  rw [bl_mk, bl_in] at this
  rw [this]
theorem isId_size {i : ByteArray} (h : isId i = true) : i.size ≤ 16 := by
  unfold isId at h
  simp only [Bool.and_eq_true, decide_eq_true_eq] at h
  exact h.1.2
theorem good_alike {c : Ct} (h : c.good = true) : alike c = true ∧ c.inner.all Ct.good = true := by
  rw [good_mk, Bool.and_eq_true, goods_all] at h
  exact h
/-- Words of a content that has the fields of its kind are short. -/
theorem alike_small {k s t e : Int} {i l : ByteArray} {n : List Ct} (h : alike (.mk k i l s t e n) = true) : i.size ≤ 16 ∧ l.size ≤ 16 := by
  have he : ∀ x : ByteArray, (bl x).isEmpty = true → x.size ≤ 16 := fun x hx => by rw [ba_empty hx]; decide
  rw [alike] at h
  by_cases hk0 : k = 0
  · rw [if_pos hk0] at h
    simp only [Bool.and_eq_true] at h; exact ⟨he _ h.1.1.1, he _ h.1.1.2⟩
  rw [if_neg hk0] at h
  by_cases hk1 : k = 1
  · rw [if_pos hk1] at h
    simp only [Bool.and_eq_true, Bool.or_eq_true] at h
    exact ⟨isId_size h.1.1.1, h.1.1.2.elim (he _) isId_size⟩
  rw [if_neg hk1] at h
  by_cases hk2 : k = 2
  · rw [if_pos hk2] at h
    simp only [Bool.and_eq_true] at h; exact ⟨isId_size h.1.1.1.1.1, he _ h.1.1.1.1.2⟩
  rw [if_neg hk2] at h
  by_cases hk3 : k = 3
  · rw [if_pos hk3] at h
    simp only [Bool.and_eq_true] at h; exact ⟨isId_size h.1.1.1, he _ h.1.1.2⟩
  rw [if_neg hk3] at h
  by_cases hk4 : k = 4
  · rw [if_pos hk4] at h
    simp only [Bool.and_eq_true] at h; exact ⟨isId_size h.1.1.1.1, he _ h.1.1.1.2⟩
  rw [if_neg hk4] at h
  by_cases hk5 : k = 5
  · rw [if_pos hk5] at h
    simp only [Bool.and_eq_true] at h; exact ⟨isId_size h.1.1.1, he _ h.1.1.2⟩
  rw [if_neg hk5] at h
  cases h
theorem alike_kind {k s t e : Int} {i l : ByteArray} {n : List Ct} (h : alike (.mk k i l s t e n) = true) : ((k = 0 ∨ k = 1) ∧ n = []) ∨ (k = 2 ∧ 1 ≤ s ∧ s ≤ 16 ∧ 1 ≤ t ∧ t ≤ 16 ∧ 1 ≤ e ∧ e ≤ 16) ∨ k = 3 ∨ (k = 4 ∧ 1 ≤ s ∧ s ≤ 16 ∧ 1 ≤ t ∧ t ≤ 16) ∨ k = 5 := by
  rw [alike] at h
  by_cases hk0 : k = 0
  · rw [if_pos hk0] at h
    simp only [Bool.and_eq_true, List.isEmpty_iff] at h; exact .inl ⟨.inl hk0, h.2⟩
  rw [if_neg hk0] at h
  by_cases hk1 : k = 1
  · rw [if_pos hk1] at h
    simp only [Bool.and_eq_true, List.isEmpty_iff] at h; exact .inl ⟨.inr hk1, h.2⟩
  rw [if_neg hk1] at h
  by_cases hk2 : k = 2
  · rw [if_pos hk2] at h
    simp only [Bool.and_eq_true, slotsOk, decide_eq_true_eq] at h
    exact .inr (.inl ⟨hk2, by omega⟩)
  rw [if_neg hk2] at h
  by_cases hk3 : k = 3
  · rw [if_pos hk3] at h
    exact .inr (.inr (.inl hk3))
  rw [if_neg hk3] at h
  by_cases hk4 : k = 4
  · rw [if_pos hk4] at h
    simp only [Bool.and_eq_true, slotsOk, decide_eq_true_eq] at h
    exact .inr (.inr (.inr (.inl ⟨hk4, by omega⟩)))
  rw [if_neg hk4] at h
  by_cases hk5 : k = 5
  · rw [if_pos hk5] at h
    exact .inr (.inr (.inr (.inr hk5)))
  rw [if_neg hk5] at h
  cases h
/-- What stands in the brackets is shorter than the text. -/
theorem in_le {c : Ct} (h : c.good = true) : (commas (c.inner.map Ct.text)).length ≤ c.text.length := by
  obtain ⟨k, i, l, s, t, e, n⟩ := c
  have ha := (good_alike h).1
  show (commas (n.map Ct.text)).length ≤ _
  rcases alike_kind ha with ⟨_, rfl⟩ | ⟨rfl, _⟩ | rfl | ⟨rfl, _⟩ | rfl
  · simp [commas]
  · rw [text2]; simp; omega
  · rw [text3]; simp; omega
  · rw [text4]; simp; omega
  · rw [text5]; simp; omega
theorem itoa_nat (k : Nat) : Lib.itoa (k : Int) = Lib.decDigits k := by unfold Lib.itoa; rw [if_neg (by omega)]; simp
/-- A small number's digits. -/
def numBA (k : Nat) : ByteArray := ⟨(Lib.decDigits k).toArray⟩
theorem num_size {k : Nat} (h1 : 1 ≤ k) (h2 : k ≤ 16) : (numBA k).size ≤ 2 := by
  show (Lib.decDigits k).toArray.size ≤ 2
  rw [dec_small k h1 h2]
  split <;> simp
theorem bl_num (k : Nat) : bl (numBA k) = Lib.itoa (k : Int) := by rw [itoa_nat]; exact bl_mk _
def boxed (n : List Ct) : ByteArray := ⟨#[40]⟩ ++ inTxt n ++ ⟨#[41]⟩
theorem bl_boxed (n : List Ct) : bl (boxed n) = 40 :: (commas (n.map Ct.text) ++ [41]) := by unfold boxed; rw [bl_append, bl_append, bl_in]; rfl
section
variable (i l : ByteArray) (s t e : Int) (n : List Ct) (a b c : Nat)
theorem txt0 : (Ct.mk 0 i l s t e n).txt = ⟨#[]⟩ := ba_ext (by rw [bl_txt, text0])
theorem txt1 : (Ct.mk 1 i l s t e n).txt = (⟨#[102, 115, 58]⟩ : ByteArray) ++ i ++ ⟨#[58]⟩ ++ l := ba_ext (by rw [bl_txt, text1]; simp only [bl_append]; simp [bl])
theorem txt2 : (Ct.mk 2 i l a b c n).txt = (⟨#[114, 97, 105, 100, 58]⟩ : ByteArray) ++ i ++ ⟨#[58]⟩ ++ numBA a ++ ⟨#[47]⟩ ++ numBA b ++ ⟨#[47]⟩ ++ numBA c ++ boxed n := ba_ext (by rw [bl_txt, text2]; simp only [bl_append, bl_num, bl_boxed]; simp [bl])
theorem txt3 : (Ct.mk 3 i l s t e n).txt = (⟨#[99, 114, 121, 112, 116, 58]⟩ : ByteArray) ++ i ++ boxed n := ba_ext (by rw [bl_txt, text3]; simp only [bl_append, bl_boxed]; simp [bl])
theorem txt4 : (Ct.mk 4 i l a b e n).txt = (⟨#[112, 118, 58]⟩ : ByteArray) ++ i ++ ⟨#[58]⟩ ++ numBA a ++ ⟨#[47]⟩ ++ numBA b ++ boxed n := ba_ext (by rw [bl_txt, text4]; simp only [bl_append, bl_num, bl_boxed]; simp [bl])
theorem txt5 : (Ct.mk 5 i l s t e n).txt = (⟨#[116, 97, 98, 108, 101, 58]⟩ : ByteArray) ++ i ++ boxed n := ba_ext (by rw [bl_txt, text5]; simp only [bl_append, bl_boxed]; simp [bl])
end
end Go.Proofs.YtbblkknndaoefaaGreatDoor
namespace Go.Proofs.YtbblkknndaoefaaGreatDoor
open Go.RowKit
set_option linter.unusedVariables false

def kT1 : ByteArray := ⟨#[99, 114, 121, 112, 116, 58, 99, 40, 102, 115, 58, 120, 58, 41]⟩
def kT2 : ByteArray := ⟨#[99, 114, 121, 112, 116, 58, 99, 40, 102, 115, 58, 121, 58, 41]⟩
def kT3 : ByteArray := ⟨#[99, 114, 121, 112, 116, 58, 101, 40, 41]⟩
def kPa : ByteArray := ⟨#[47, 98]⟩
def kPb : ByteArray := ⟨#[47, 97]⟩
def kPd : ByteArray := ⟨#[47, 100]⟩
def kIc : ByteArray := ⟨#[99]⟩
def kIe : ByteArray := ⟨#[101]⟩
def kIx : ByteArray := ⟨#[120]⟩
def kFx : ByteArray := ⟨#[102, 115, 58, 120, 58]⟩
def kFy : ByteArray := ⟨#[102, 115, 58, 121, 58]⟩
def kOc : ByteArray := ⟨#[111, 112, 101, 110, 45, 99]⟩
def kC1 : Ct := .mk 3 kIc ⟨#[]⟩ 0 0 0 [.mk 1 kIx ⟨#[]⟩ 0 0 0 []]
def kC2 : Ct := .mk 3 kIc ⟨#[]⟩ 0 0 0 [.mk 1 ⟨#[121]⟩ ⟨#[]⟩ 0 0 0 []]
def kC3 : Ct := .mk 3 kIe ⟨#[]⟩ 0 0 0 [.mk 0 ⟨#[]⟩ ⟨#[]⟩ 0 0 0 []]
theorem kP1 : parseC kT1 = some kC1 := (parse_iff _ _).2 ⟨by decide, by decide, by rw [kC1, text3]; simp [text1, commas, kT1, kIc, kIx]; rfl⟩
theorem kP2 : parseC kT2 = some kC2 := (parse_iff _ _).2 ⟨by decide, by decide, by rw [kC2, text3]; simp [text1, commas, kT2, kIc]; rfl⟩
theorem kP3 : parseC kT3 = some kC3 := (parse_iff _ _).2 ⟨by decide, by decide, by rw [kC3, text3]; simp [text0, commas, kT3, kIe]; rfl⟩
theorem kX1 : kC1.inner.map Ct.txt = [kFx] := by simp [kC1, Ct.inner, txt1, kIx, kFx]; rfl
theorem kX2 : kC2.inner.map Ct.txt = [kFy] := by simp [kC2, Ct.inner, txt1, kFy]; rfl
theorem kX3 : kC3.inner.map Ct.txt = [⟨#[]⟩] := by simp [kC3, Ct.inner]; rfl

/-- The three layers of the example. -/
def kL (a1 a2 a3 : Option Addr) (c1 c2 c3 : Nat) : List Mem := [⟨kPa, kIc, 0, 0, 0, 0, a1, [kFx], c1⟩, ⟨kPb, kIc, 1, 0, 0, 0, a2, [kFy], c2⟩, ⟨kPd, kIe, 0, 0, 0, 0, a3, [⟨#[]⟩], c3⟩]
section
variable (a1 a2 a3 : Option Addr) (c1 c2 c3 : Nat)
theorem k_best_c : best (kL a1 a2 a3 c1 c2 c3) (kb kIc) = some ⟨kPa, kIc, 0, 0, 0, 0, a1, [kFx], c1⟩ := by
  have h2 : ahead ⟨kPb, kIc, 1, 0, 0, 0, a2, [kFy], c2⟩ ⟨kPa, kIc, 0, 0, 0, 0, a1, [kFx], c1⟩ = false := by
    unfold ahead aheadB orI cmpI
    simp
  have e : (kb kIc == kb kIe) = false := by decide
  unfold best kL
  simp only [List.foldl_cons, List.foldl_nil]
  simp [bestS, h2, e]
theorem k_best_e : best (kL a1 a2 a3 c1 c2 c3) (kb kIe) = some ⟨kPd, kIe, 0, 0, 0, 0, a3, [⟨#[]⟩], c3⟩ := by
  have e : (kb kIe == kb kIc) = false := by decide
  unfold best kL
  simp only [List.foldl_cons, List.foldl_nil]
  simp [bestS, e]
theorem k_ids : IsIds (kL a1 a2 a3 c1 c2 c3) [kIc, kIe] := by
  refine ⟨by unfold AscS; decide, fun x => ?_⟩
  rw [best_some_iff]
  constructor
  · intro h
    simp only [List.mem_cons, List.not_mem_nil, or_false] at h
    rcases h with rfl | rfl
    · exact ⟨⟨kPa, kIc, 0, 0, 0, 0, a1, [kFx], c1⟩, by simp [kL], rfl, rfl⟩
    · exact ⟨⟨kPd, kIe, 0, 0, 0, 0, a3, [⟨#[]⟩], c3⟩, by simp [kL], rfl, rfl⟩
  · rintro ⟨m, hm, _, h⟩
    rw [← kb_inj h]
    simp only [kL, List.mem_cons, List.not_mem_nil, or_false] at hm
    rcases hm with rfl | rfl | rfl <;> simp
theorem k_ids_is {ids : List ByteArray} (h : IsIds (kL a1 a2 a3 c1 c2 c3) ids) : ids = [kIc, kIe] := h.unique (k_ids a1 a2 a3 c1 c2 c3) (fun _ => rfl)
theorem k_opened : (opened [kIc, kIe] [kIc, kIx]).map (virOf (kL a1 a2 a3 c1 c2 c3) 2) = [⟨⟨#[]⟩, kOc, kFx, 2⟩] := by
  have h1 : opened [kIc, kIe] [kIc, kIx] = [kIc] := by simp [opened, hasS, ByteArray.toList_eq, kIc, kIe, kIx]
  rw [h1]
  simp only [List.map_cons, List.map_nil, virOf, inner0, k_best_c]
  rfl
theorem k_asked : asked [kIc, kIe] [kIc, kIx] = [kIe] := by simp [asked, hasS, ByteArray.toList_eq, kIc, kIe, kIx]
end
end Go.Proofs.YtbblkknndaoefaaGreatDoor
namespace Go.Proofs.YtbblkknndaoefaaGreatDoor
open Go.RowKit
set_option linter.unusedVariables false

def vT1 : ByteArray := ⟨#[112, 118, 58, 118, 58, 49, 47, 50, 40, 102, 115, 58, 120, 58, 44, 99, 114, 121, 112, 116, 58, 99, 40, 41, 41]⟩
def vT2 : ByteArray := ⟨#[112, 118, 58, 118, 58, 50, 47, 50, 40, 41]⟩
def vId : ByteArray := ⟨#[118]⟩
def vCc : ByteArray := ⟨#[99, 114, 121, 112, 116, 58, 99, 40, 41]⟩
def vC1 : Ct := .mk 4 vId ⟨#[]⟩ 1 2 0 [.mk 1 kIx ⟨#[]⟩ 0 0 0 [], .mk 3 kIc ⟨#[]⟩ 0 0 0 [.mk 0 ⟨#[]⟩ ⟨#[]⟩ 0 0 0 []]]
def vC2 : Ct := .mk 4 vId ⟨#[]⟩ 2 2 0 [.mk 0 ⟨#[]⟩ ⟨#[]⟩ 0 0 0 []]
theorem v_it1 : Lib.itoa 1 = [49] := by kernel_rfl
theorem v_it2 : Lib.itoa 2 = [50] := by kernel_rfl
theorem vP1 : parseC vT1 = some vC1 := (parse_iff _ _).2 ⟨by decide, by decide, by rw [vC1, text4]; simp [text0, text1, text3, commas, vT1, vId, kIx, kIc, v_it1, v_it2]; rfl⟩
theorem vP2 : parseC vT2 = some vC2 := (parse_iff _ _).2 ⟨by decide, by decide, by rw [vC2, text4]; simp [text0, commas, vT2, vId, v_it2]; rfl⟩
theorem vX1 : vC1.inner.map Ct.txt = [kFx, vCc] := by simp [vC1, Ct.inner, txt1, txt3, kIx, kIc, kFx, vCc, boxed]; exact ⟨rfl, rfl⟩
theorem vX2 : vC2.inner.map Ct.txt = [⟨#[]⟩] := by simp [vC2, Ct.inner]; rfl
theorem vA1 : Ascii vT1 := fun j b h => (by decide : ∀ b ∈ vT1.data.toList, b.toNat < 128) b (List.mem_of_getElem? h)
theorem vA2 : Ascii vT2 := fun j b h => (by decide : ∀ b ∈ vT2.data.toList, b.toNat < 128) b (List.mem_of_getElem? h)
def vMa (a : Option Addr) (c : Nat) : Mem := ⟨kPb, vId, 0, 1, 2, 2, a, [kFx, vCc], c⟩
def vMb (a : Option Addr) (c : Nat) : Mem := ⟨kPa, vId, 0, 2, 2, 2, a, [⟨#[]⟩], c⟩
section
variable (a1 a2 : Option Addr) (c1 c2 : Nat)
def vG1 : ByteArray × Int → Option Mem := fun x => if x = (vId, 2) then some (vMb a2 c2) else none
def vG2 : ByteArray × Int → Option Mem := fun x => if x = (vId, 1) then some (vMa a1 c1) else vG1 a2 c2 x
theorem v_sa : soundB (vMa a1 c1) = true := by simp [soundB, vMa, ByteArray.toList_eq, kPb]
theorem v_sb : soundB (vMb a2 c2) = true := by simp [soundB, vMb, ByteArray.toList_eq, kPa]
theorem v_b1 : best2 soundB [vMb a2 c2] = vG1 a2 c2 := by
  show best2S soundB (fun _ => none) (vMb a2 c2) = _
  rw [best2S_take (v_sb a2 c2) (fun o h => by cases h)]
  rfl
theorem v_b2 : best2 soundB [vMb a2 c2, vMa a1 c1] = vG2 a1 a2 c1 c2 := by
  have h : best2 soundB [vMb a2 c2, vMa a1 c1] = best2S soundB (best2 soundB [vMb a2 c2]) (vMa a1 c1) := rfl
  rw [h, v_b1, best2S_take (v_sa a1 c1) (fun o h => ?_)]
  · rfl
  · have : vG1 a2 c2 (vId, 1) = none := by unfold vG1; rw [if_neg (by simp)]
    rw [show ((vMa a1 c1).i, (vMa a1 c1).s) = (vId, (1 : Int)) from rfl, this] at h
    cases h
theorem v_ids1 : IsIds2 (vG1 a2 c2) [vId] := by
  refine ⟨by unfold AscS; decide, fun x => ⟨fun h => ?_, fun ⟨s, h⟩ => ?_⟩⟩
  · obtain rfl : x = vId := by simpa using h
    exact ⟨2, by unfold vG1; rw [if_pos rfl]; rfl⟩
  · unfold vG1 at h
    split at h
    · rename_i e; simp at e; simp [e.1]
    · cases h
theorem v_ids2 : IsIds2 (vG2 a1 a2 c1 c2) [vId] := by
  refine ⟨by unfold AscS; decide, fun x => ⟨fun h => ?_, fun ⟨s, h⟩ => ?_⟩⟩
  · obtain rfl : x = vId := by simpa using h
    exact ⟨1, by unfold vG2; rw [if_pos rfl]; rfl⟩
  · unfold vG2 at h
    split at h
    · rename_i e; simp at e; simp [e.1]
    · exact ((v_ids1 a2 c2).mem x).2 ⟨s, h⟩
theorem v_arr1 : buildA (vG1 a2 c2) vId = ⟨vId, [⟨#[]⟩, kPa], 2, 2, 1, [⟨#[]⟩]⟩ := by
  have h1 : vG1 a2 c2 (vId, 1) = none := by unfold vG1; rw [if_neg (by simp)]
  have h2 : vG1 a2 c2 (vId, 2) = some (vMb a2 c2) := by unfold vG1; rw [if_pos rfl]
  have hl : leastSlot (vG1 a2 c2) vId = 2 := by unfold leastSlot; simp [List.range_succ_eq_map, h1, h2]
  have hf : firstOf (vG1 a2 c2) vId = vMb a2 c2 := by unfold firstOf; rw [hl, h2]; rfl
  unfold buildA
  rw [hf]
  simp [vMb, List.range_succ_eq_map, pathAt, h1, h2]
theorem v_arr2 : buildA (vG2 a1 a2 c1 c2) vId = ⟨vId, [kPb, kPa], 2, 2, 2, [kFx, vCc]⟩ := by
  have h1 : vG2 a1 a2 c1 c2 (vId, 1) = some (vMa a1 c1) := by unfold vG2; rw [if_pos rfl]
  have h2 : vG2 a1 a2 c1 c2 (vId, 2) = some (vMb a2 c2) := by unfold vG2 vG1; rw [if_neg (by simp), if_pos rfl]
  have hl : leastSlot (vG2 a1 a2 c1 c2) vId = 1 := by unfold leastSlot; simp [List.range_succ_eq_map, h1]
  have hf : firstOf (vG2 a1 a2 c1 c2) vId = vMa a1 c1 := by unfold firstOf; rw [hl, h1]; rfl
  unfold buildA
  rw [hf]
  simp [vMa, List.range_succ_eq_map, pathAt, h1, h2, vMb]
end
def vO1 : ByteArray := ⟨#[108, 118, 45, 118, 45, 49]⟩
def vO2 : ByteArray := ⟨#[108, 118, 45, 118, 45, 50]⟩
theorem v_lv1 : lvT vId 1 = vO1 := by unfold lvT; rw [v_it1]; rfl
theorem v_lv2 : lvT vId 2 = vO2 := by unfold lvT; rw [v_it2]; rfl
theorem v_want2 : wantL vId 2 2 [kFx, vCc] 1 = [⟨⟨#[]⟩, vO1, kFx, 1⟩, ⟨⟨#[]⟩, vO2, vCc, 1⟩] := by
  have h1 : lvOk vId 1 = true := by unfold lvOk; rw [v_lv1]; simp [isName, ByteArray.toList_eq, vO1, inSet, nameBA]; decide
  have h2 : lvOk vId 2 = true := by unfold lvOk; rw [v_lv2]; simp [isName, ByteArray.toList_eq, vO2, inSet, nameBA]; decide
  unfold wantL
  rw [if_pos rfl]
  simp [wantF, List.range_succ_eq_map, h1, h2, wantAt, v_lv1, v_lv2]
theorem v_want1 : wantL vId 2 1 [⟨#[]⟩] 1 = [] := by unfold wantL; rw [if_neg (by decide)]
theorem v_lack1 : lacksF [⟨#[]⟩, kPa] 2 = [1] := by
  simp [lacksF, lackAt, List.range_succ_eq_map, ByteArray.toList_eq, kPa]
end Go.Proofs.YtbblkknndaoefaaGreatDoor
namespace Go.Proofs.YtbblkknndaoefaaGreatDoor
open Go.RowKit Go.Maps
set_option linter.unusedVariables false

theorem CAt.inAt {w : World} {X : Nat → Prop} {vs : Array Value} {k s t e : Int} {i l : ByteArray} {n : List Ct} (h : CAt w X vs (.mk k i l s t e n)) : ∃ a cap, vs = #[.int .i64 k, .string i, .string l, .int .i64 s, .int .i64 t, .int .i64 e, .slice a n.length cap] ∧ InAt w X a cap n := by
  generalize hc : Ct.mk k i l s t e n = c at h
  cases h with
  | mk k' i' l' s' t' e' n' a cap vs' h1 h2 h3 h4 h5 h6 =>
    injection hc with e1 e2 e3 e4 e5 e6 e7
    subst e1; subst e2; subst e3; subst e4; subst e5; subst e6; subst e7
    exact ⟨a, cap, rfl, h1, h2, h3, vs', h4, h5, h6⟩
/-- A content of a slice that is read. -/
structure CtAt (w : World) (b o : Nat) (k : Int) (i l : ByteArray) (s t e : Int) (v : Value) : Prop where
  c0 : w.cell? ⟨b, o, none⟩ = some (.int .i64 k)
  c1 : w.cell? ⟨b, o + 1, none⟩ = some (.string i)
  c2 : w.cell? ⟨b, o + 2, none⟩ = some (.string l)
  c3 : w.cell? ⟨b, o + 3, none⟩ = some (.int .i64 s)
  c4 : w.cell? ⟨b, o + 4, none⟩ = some (.int .i64 t)
  c5 : w.cell? ⟨b, o + 5, none⟩ = some (.int .i64 e)
  c6 : w.cell? ⟨b, o + 6, none⟩ = some v
theorem InAt.at {w : World} {X : Nat → Prop} {a : Option Addr} {cap j : Nat} {cs : List Ct} (h : InAt w X a cap cs) {k s t e : Int} {i l : ByteArray} {n : List Ct} (hj : cs[j]? = some (.mk k i l s t e n)) :
    ∃ b off a' cap', a = some ⟨b, off, none⟩ ∧ b < w.heap.size ∧ X b ∧ CtAt w b (off + j * 7) k i l s t e (.slice a' n.length cap') ∧ InAt w X a' cap' n := by
  cases a with
  | none => rw [(h.isNil rfl).1] at hj; simp at hj
  | some ad =>
    obtain ⟨vs, h4, h5, h6⟩ := h.el
    obtain ⟨h7, h8, h9⟩ := h4 ad rfl (fun e => by rw [e] at hj; simp at hj)
    obtain ⟨a', cap', e1, h10⟩ := (h6 j _ hj).inAt
    have hc := h5 ad j _ rfl hj
    rw [e1] at hc
    obtain ⟨b, off, sp⟩ := ad
    simp only at h7 h8 h9 hc
    subst h7
    exact ⟨b, off, a', cap', rfl, h8, h9, ⟨hc 0 (by omega), hc 1 (by omega), hc 2 (by omega), hc 3 (by omega), hc 4 (by omega), hc 5 (by omega), hc 6 (by omega)⟩, h10⟩
theorem depths_take {n : List Ct} {j : Nat} {d : Ct} (h : n[j]? = some d) : Ct.depths (n.take (j + 1)) = max (Ct.depths (n.take j)) d.depth := by
  rw [List.take_add_one, h]
  exact depths_snoc _ _
theorem depths_le {n : List Ct} (j : Nat) : Ct.depths (n.take j) ≤ Ct.counts n := by
  have h1 := depths_counts (n.take j)
  have h2 := counts_append (n.take j) (n.drop j)
  rw [List.take_append_drop] at h2
  omega

set_option maxRecDepth 100000 in
set_option maxHeartbeats 1000000 in
theorem c_depth_n (m : Nat) : m ≤ 10000 → ∀ (k s t e : Int) (i l : ByteArray) (n : List Ct) (a : Option Addr) (cap : Nat) (w : World) (X : Nat → Prop), Ct.counts n < m → InAt w X a cap n →
    Calls Tryz.prog 42 #[.agg #[.int .i64 k, .string i, .string l, .int .i64 s, .int .i64 t, .int .i64 e, .slice a n.length cap]] w fun en w2 => en = .returned (.int .i64 ((Ct.mk k i l s t e n).depth : Int)) ∧ Fr No w w2 := by
  induction m with
  | zero => intro _ k s t e i l n a cap w X h; omega
  | succ m ih =>
    intro hm k s t e i l n a cap w X hcn hin
    have hnl := len_counts n
    have h0 : Fr No w (w.alloc (.cells #[.int .i64 k, .string i, .string l, .int .i64 s, .int .i64 t, .int .i64 e, .slice a n.length cap] 54)) := (Fr.refl _ _).alloc _
    have q1 := block_alloc w (.cells #[.int .i64 k, .string i, .string l, .int .i64 s, .int .i64 t, .int .i64 e, .slice a n.length cap] 54)
    obtain ⟨W0, hW0⟩ : ∃ W0, W0 = w.alloc (.cells #[.int .i64 k, .string i, .string l, .int .i64 s, .int .i64 t, .int .i64 e, .slice a n.length cap] 54) := ⟨_, rfl⟩
    rw [← hW0] at h0 q1
    have hin0 := hin.fr h0 (fun _ _ => id)
    have c0 : W0.cell? ⟨w.heap.size, 0, none⟩ = some (.int .i64 k) := cell_of_block q1 0
    have c6 : W0.cell? ⟨w.heap.size, 6, none⟩ = some (.slice a n.length cap) := cell_of_block q1 6
    have Ih := Lib.hid (ih (by omega))
    have H0 := Lib.hid h0
    clear ih hin h0
    go_enter Tryz.func42, Tryz.ntmps42
    go_wp2_with fail
    rw [← hW0]
    clear hW0
    go_wp2_with fail
    go_loopw [3, 9] (fun v i wr => ∃ (j : Nat), j ≤ n.length ∧ v = .int .i64 ((Ct.depths (n.take j) : Nat) : Int) ∧ i = .int .i64 (j : Int) ∧ Fr No W0 wr) (fun _ i _ => n.length - (intOf i).toNat)
    case atStart => exact ⟨0, by omega, by simp [Ct.depths], rfl, Fr.refl _ _⟩
    case round =>
      obtain ⟨j, hj, rfl, rfl, hfr⟩ := hrel
      have hdl := depths_le (n := n) j
      by_cases hlt : j < n.length
      · have hlt' : (j : Int) < n.length := by omega
        obtain ⟨d, hd⟩ : ∃ d, n[j]? = some d := ⟨_, List.getElem?_eq_getElem hlt⟩
        have hdc := mem_count (List.mem_of_getElem? hd)
        have hdt := depths_take hd
        have hdl2 := depths_le (n := n) (j + 1)
        obtain ⟨k1, i1, l1, s1, t1, e1, n1⟩ := d
        rw [Ct.count] at hdc
        obtain ⟨b, off, a', cap', rfl, hb, hX, ⟨y0, y1, y2, y3, y4, y5, y6⟩, hin1⟩ := (hin0.fr hfr (fun _ _ => id)).at hd
        have Hdt := Lib.hid hdt
        clear hdt hd
        go_wp2_with fail
        have hx : Fr No wr (wr.alloc (.cells #[.int .i64 k1, .string i1, .string l1, .int .i64 s1, .int .i64 t1, .int .i64 e1, .slice a' n1.length cap'] 54)) := (Fr.refl _ _).alloc _
        refine (Ih.out k1 s1 t1 e1 i1 l1 n1 a' cap' _ X (by omega) (hin1.fr hx (fun _ _ => id))).mono ?_
        rintro e w2 ⟨rfl, hf2⟩
        have Hfr := Lib.hid ((hfr.step hx (fun _ _ h => h)).step hf2 (fun _ _ h => h))
        clear hx hf2 hfr y0 y1 y2 y3 y4 y5 y6 hin1
        go_wp2_with fail
        go_roundw
        case rel => exact ⟨j + 1, by omega, by rw [Hdt.out]; congr 1; omega, by go_num, Hfr.out⟩
        case measure => simp [intOf]; omega
      · have hlt' : ¬ (j : Int) < n.length := by omega
        obtain rfl : j = n.length := by omega
        rw [List.take_length] at hdl ⊢
        have c01 : wr.cell? ⟨w.heap.size, 0, none⟩ = some (.int .i64 k) := hfr.cell c0 id
        have Hfr := Lib.hid (H0.out.trans hfr (fun _ _ h => h) (fun _ _ h => h))
        clear hfr
        by_cases hk : k = 0
        · subst hk
          go_wp2_with fail
          go_ret
          exact ⟨by rw [Ct.depth, if_pos rfl]; rfl, Hfr.out⟩
        · go_wp2_with fail
          go_ret
          exact ⟨by rw [Ct.depth, if_neg hk]; rfl, Hfr.out⟩
theorem c_depth {w : World} {X : Nat → Prop} {vs : Array Value} {c : Ct} (h : CAt w X vs c) (hc : c.count ≤ 10000) :
    Calls Tryz.prog 42 #[.agg vs] w fun en w2 => en = .returned (.int .i64 (c.depth : Int)) ∧ Fr No w w2 := by
  obtain ⟨k, i, l, s, t, e, n⟩ := c
  obtain ⟨a, cap, rfl, h1⟩ := h.inAt
  exact c_depth_n _ hc k s t e i l n a cap w X (by rw [Ct.count]; omega) h1
end Go.Proofs.YtbblkknndaoefaaGreatDoor
namespace Go.Proofs.YtbblkknndaoefaaGreatDoor
open Go.RowKit Go.Maps
set_option linter.unusedVariables false

set_option maxRecDepth 100000 in
set_option maxHeartbeats 2000000 in
theorem c_copied_n (m : Nat) : m ≤ 10000 → ∀ (k s t e : Int) (i l : ByteArray) (n : List Ct) (a : Option Addr) (cap : Nat) (w : World) (X : Nat → Prop), Ct.counts n < m → InAt w X a cap n →
    Calls Tryz.prog 145 #[.agg #[.int .i64 k, .string i, .string l, .int .i64 s, .int .i64 t, .int .i64 e, .slice a n.length cap]] w fun en w2 => (∃ a' c', en = .returned (.agg #[.int .i64 k, .string i, .string l, .int .i64 s, .int .i64 t, .int .i64 e, .slice a' n.length c'])) ∧ Fr No w w2 := by
  obtain ⟨i0, hi0, hz0, hz1, hz2⟩ := info_parts infoC
  induction m with
  | zero => intro _ k s t e i l n a cap w X h; omega
  | succ m ih =>
    intro hm k s t e i l n a cap w X hcn hin
    have hnl := len_counts n
    have h0 : Fr No w ((w.alloc (.cells #[.int .i64 k, .string i, .string l, .int .i64 s, .int .i64 t, .int .i64 e, .slice a n.length cap] 54)).alloc (.cells #[.int .i64 0, .string ⟨#[]⟩, .string ⟨#[]⟩, .int .i64 0, .int .i64 0, .int .i64 0, .slice none 0 0] 54)) := ((Fr.refl _ _).alloc _).alloc _
    have q1 := block_alloc1 w (.cells #[.int .i64 k, .string i, .string l, .int .i64 s, .int .i64 t, .int .i64 e, .slice a n.length cap] 54) (.cells #[.int .i64 0, .string ⟨#[]⟩, .string ⟨#[]⟩, .int .i64 0, .int .i64 0, .int .i64 0, .slice none 0 0] 54)
    have q2 := block_alloc2 w (.cells #[.int .i64 k, .string i, .string l, .int .i64 s, .int .i64 t, .int .i64 e, .slice a n.length cap] 54) (.cells #[.int .i64 0, .string ⟨#[]⟩, .string ⟨#[]⟩, .int .i64 0, .int .i64 0, .int .i64 0, .slice none 0 0] 54)
    have hsz : ((w.alloc (.cells #[.int .i64 k, .string i, .string l, .int .i64 s, .int .i64 t, .int .i64 e, .slice a n.length cap] 54)).alloc (.cells #[.int .i64 0, .string ⟨#[]⟩, .string ⟨#[]⟩, .int .i64 0, .int .i64 0, .int .i64 0, .slice none 0 0] 54)).heap.size = w.heap.size + 2 := by simp
    obtain ⟨W0, hW0⟩ : ∃ W0, W0 = (w.alloc (.cells #[.int .i64 k, .string i, .string l, .int .i64 s, .int .i64 t, .int .i64 e, .slice a n.length cap] 54)).alloc (.cells #[.int .i64 0, .string ⟨#[]⟩, .string ⟨#[]⟩, .int .i64 0, .int .i64 0, .int .i64 0, .slice none 0 0] 54) := ⟨_, rfl⟩
    rw [← hW0] at h0 q1 q2 hsz
    have hin0 := hin.fr h0 (fun _ _ => id)
    have c6 : W0.cell? ⟨w.heap.size, 6, none⟩ = some (.slice a n.length cap) := cell_of_block q1 6
    have Ih := Lib.hid (ih (by omega))
    have H0 := Lib.hid h0
    clear ih hin h0
    go_enter Tryz.func145, Tryz.ntmps145
    go_upto_region 1 with (fail)
    rw [← hW0]
    clear hW0
    go_wp2_with fail
    go_loopw [3, 9] (fun v x wr => ∃ (j : Nat) (av : Option Addr) (cv : Nat) (xs : List Value), j ≤ n.length ∧ v = .slice av j cv ∧ x = .int .i64 (j : Int) ∧ wr.ownsRow W0.heap.size 54 7 (.slice av j cv) j xs ∧ Fr (From W0.heap.size) W0 wr) (fun _ x _ => n.length - (intOf x).toNat)
    case atStart => exact ⟨0, none, 0, [], by omega, rfl, rfl, World.ownsRow_nil _ _ _ _, Fr.refl _ _⟩
    case round =>
      obtain ⟨j, av, cv, xs, hj, rfl, rfl, hown, hfr⟩ := hrel
      by_cases hlt : j < n.length
      · have hlt' : (j : Int) < n.length := by omega
        obtain ⟨d, hd⟩ : ∃ d, n[j]? = some d := ⟨_, List.getElem?_eq_getElem hlt⟩
        have hdc := mem_count (List.mem_of_getElem? hd)
        obtain ⟨k1, i1, l1, s1, t1, e1, n1⟩ := d
        rw [Ct.count] at hdc
        have hin2 : InAt wr (fun b => b < W0.heap.size) a cap n := by
          have h3 := hin0.mono (Y := fun b => b < W0.heap.size) (fun b hb _ => hb)
          exact h3.fr hfr (fun b hb h => by unfold From at h; omega)
        obtain ⟨b, off, a', cap', rfl, hb, hX, ⟨y0, y1, y2, y3, y4, y5, y6⟩, hin1⟩ := hin2.at hd
        have hsr := hfr.size
        clear hd hin2
        go_wp2_with fail
        have hx : Fr No wr (wr.alloc (.cells #[.int .i64 k1, .string i1, .string l1, .int .i64 s1, .int .i64 t1, .int .i64 e1, .slice a' n1.length cap'] 54)) := (Fr.refl _ _).alloc _
        refine (Ih.out k1 s1 t1 e1 i1 l1 n1 a' cap' _ _ (by omega) (hin1.fr hx (fun _ _ => id))).mono ?_
        rintro e w2 ⟨⟨a2, c2, rfl⟩, hf2⟩
        have hxf := hx.step hf2 (fun _ _ h => h)
        have Hfr := Lib.hid (hfr.step hxf (fun _ _ h => h.elim))
        have hown2 := ownsRow_fr hown hxf (fun _ _ h => h)
        have hs2 := hxf.size
        clear hx hf2 hfr y0 y1 y2 y3 y4 y5 y6 hin1 hown hxf
        go_wp2_with (at_builtin; refine wpList_append_own_at _ rfl _ _ 52 rfl W0.heap.size 54 i0 (.agg #[.int .i64 0, .string ByteArray.empty, .string ByteArray.empty, .int .i64 0, .int .i64 0, .int .i64 0, .slice none 0 0]) 7 88 Tryz.underlying52 hi0 hz0 hz1 hz2 rfl (by decide) _ _ _ rfl (hown2.alloc _) ⟨w2.heap.size, 0, none⟩ 1 1 [.int .i64 k1, .string i1, .string l1, .int .i64 s1, .int .i64 t1, .int .i64 e1, .slice a2 n1.length c2] rfl rfl (cells_new _ _ _ rfl) (seven_one _ _ _ _ _ _ _ _ _) (by unfold maxLen; omega) (by omega) (by first | omega | (simp; done) | (simp; omega)) ?_; intro v' wb hownb hgrow _ hat; obtain ⟨avb, cvb, rfl⟩ := ownsRow_slice hownb)
        have hg6 : Fr (From W0.heap.size) w2 wb := grown_fr hown2 hgrow
        have Hg6 := Lib.hid (Hfr.out.step hg6 (fun _ _ h => h))
        have Hown := Lib.hid hownb
        clear hownb hgrow hat hg6 hown2
        go_wp2_with fail
        go_roundw
        case rel => exact ⟨j + 1, avb, cvb, _, by omega, rfl, by go_num, Hown.out, Hg6.out⟩
        case measure => simp [intOf]; omega
      · have hlt' : ¬ (j : Int) < n.length := by omega
        obtain rfl : j = n.length := by omega
        have r1 := hfr.heap q1 (fun h => by unfold From at h; omega)
        have r2 := hfr.heap q2 (fun h => by unfold From at h; omega)
        have Hfr := Lib.hid (H0.out.trans (U := No) hfr (fun _ _ h => h) (fun b hb h => by unfold From at h; omega))
        clear hfr q1 q2 c6
        have c6 : wr.cell? ⟨w.heap.size, 6, none⟩ = some (.slice a n.length cap) := cell_of_block r1 6
        have f6 : wr.frozen? ⟨w.heap.size, 6, none⟩ = false := free_of_block r1 6
        go_upto_region 8 with (fail)
        have hx1 : Fr (Is w.heap.size) wr (wr.setCell ⟨w.heap.size, 6, none⟩ (.slice av n.length cv)) := Fr.setAt (Fr.refl _ _) _
        have p1 := block_setCell r1 6 (.slice av n.length cv)
        have p2 := hx1.heap r2 (fun e => by unfold Is at e; omega)
        have hsw : w.heap.size + 2 ≤ (wr.setCell ⟨w.heap.size, 6, none⟩ (.slice av n.length cv)).heap.size := by have := lt_of_block r2; have := hx1.size; omega
        have Hf1 := Lib.hid (Hfr.out.step hx1 (fun b hb h => by unfold Is at h; omega))
        clear r1 r2 c6 f6
        generalize wr.setCell ⟨w.heap.size, 6, none⟩ (.slice av n.length cv) = W1 at *
        have a0 : W1.cell? ⟨w.heap.size, 0, none⟩ = some (.int .i64 k) := cell_of_block p1 0
        have a1 : W1.cell? ⟨w.heap.size, 1, none⟩ = some (.string i) := cell_of_block p1 1
        have a2 : W1.cell? ⟨w.heap.size, 2, none⟩ = some (.string l) := cell_of_block p1 2
        have a3 : W1.cell? ⟨w.heap.size, 3, none⟩ = some (.int .i64 s) := cell_of_block p1 3
        have a4 : W1.cell? ⟨w.heap.size, 4, none⟩ = some (.int .i64 t) := cell_of_block p1 4
        have a5 : W1.cell? ⟨w.heap.size, 5, none⟩ = some (.int .i64 e) := cell_of_block p1 5
        have a6 : W1.cell? ⟨w.heap.size, 6, none⟩ = some (.slice av n.length cv) := cell_of_block p1 6
        have b0 : W1.cell? ⟨w.heap.size + 1, 0, none⟩ = some (.int .i64 0) := cell_of_block p2 0
        have b1 : W1.cell? ⟨w.heap.size + 1, 1, none⟩ = some (.string ⟨#[]⟩) := cell_of_block p2 1
        have b2 : W1.cell? ⟨w.heap.size + 1, 2, none⟩ = some (.string ⟨#[]⟩) := cell_of_block p2 2
        have b3 : W1.cell? ⟨w.heap.size + 1, 3, none⟩ = some (.int .i64 0) := cell_of_block p2 3
        have b4 : W1.cell? ⟨w.heap.size + 1, 4, none⟩ = some (.int .i64 0) := cell_of_block p2 4
        have b5 : W1.cell? ⟨w.heap.size + 1, 5, none⟩ = some (.int .i64 0) := cell_of_block p2 5
        have b6 : W1.cell? ⟨w.heap.size + 1, 6, none⟩ = some (.slice none 0 0) := cell_of_block p2 6
        have bf0 : W1.frozen? ⟨w.heap.size + 1, 0, none⟩ = false := free_of_block p2 0
        have bf1 : W1.frozen? ⟨w.heap.size + 1, 1, none⟩ = false := free_of_block p2 1
        have bf2 : W1.frozen? ⟨w.heap.size + 1, 2, none⟩ = false := free_of_block p2 2
        have bf3 : W1.frozen? ⟨w.heap.size + 1, 3, none⟩ = false := free_of_block p2 3
        have bf4 : W1.frozen? ⟨w.heap.size + 1, 4, none⟩ = false := free_of_block p2 4
        have bf5 : W1.frozen? ⟨w.heap.size + 1, 5, none⟩ = false := free_of_block p2 5
        have bf6 : W1.frozen? ⟨w.heap.size + 1, 6, none⟩ = false := free_of_block p2 6
        have h7 := set7 p2 rfl (.int .i64 k) (.string i) (.string l) (.int .i64 s) (.int .i64 t) (.int .i64 e) (.slice av n.length cv)
        have Hfin := Lib.hid (Hf1.out.step h7.2 (fun b hb h => by unfold Is at h; omega))
        have Hq := Lib.hid h7.1
        clear p1 p2 h7 hx1
        go_wp2_with fail
        have y0 := cell_of_block Hq.out 0
        have y1 := cell_of_block Hq.out 1
        have y2 := cell_of_block Hq.out 2
        have y3 := cell_of_block Hq.out 3
        have y4 := cell_of_block Hq.out 4
        have y5 := cell_of_block Hq.out 5
        have y6 := cell_of_block Hq.out 6
        refine bodyPost_ret (v := .agg #[.int .i64 k, .string i, .string l, .int .i64 s, .int .i64 t, .int .i64 e, .slice av n.length cv]) (by simp [results, Tryz.results145, go_sem, y0, y1, y2, y3, y4, y5, y6]) rfl ?_
        exact ⟨⟨av, cv, rfl⟩, Hfin.out⟩

/-- A row of contents of which only the outer values are known. -/
inductive ShFlat : List Value → List Ct → Prop
  | nil : ShFlat [] []
  | cons (k s t e : Int) (i l : ByteArray) (n : List Ct) (a : Option Addr) (cap : Nat) {vs : List Value} {cs : List Ct} (h : ShFlat vs cs) : ShFlat ([.int .i64 k, .string i, .string l, .int .i64 s, .int .i64 t, .int .i64 e, .slice a n.length cap] ++ vs) (.mk k i l s t e n :: cs)
theorem ShFlat.append {vs vs' : List Value} {cs cs' : List Ct} (h : ShFlat vs cs) (h' : ShFlat vs' cs') : ShFlat (vs ++ vs') (cs ++ cs') := by
  induction h with
  | nil => exact h'
  | cons k s t e i l n a cap h ih => rw [List.append_assoc]; exact .cons k s t e i l n a cap ih
theorem ShFlat.len {vs : List Value} {cs : List Ct} (h : ShFlat vs cs) : vs.length = cs.length * 7 := by
  induction h with
  | nil => rfl
  | cons k s t e i l n a cap h ih => simp [ih]; omega
theorem ShFlat.one {vs : List Value} {cs : List Ct} (h : ShFlat vs cs) : ∀ u ∈ vs, u.oneCell' = true := by
  induction h with
  | nil => intro u hu; cases hu
  | cons k s t e i l n a cap h ih =>
    intro u hu
    rcases List.mem_append.1 hu with hu | hu
    · exact seven_one _ _ _ _ _ _ _ _ _ u hu
    · exact ih u hu
theorem ShFlat.at {vs : List Value} {cs : List Ct} (h : ShFlat vs cs) {j : Nat} {k s t e : Int} {i l : ByteArray} {n : List Ct} (hj : cs[j]? = some (.mk k i l s t e n)) :
    ∃ a cap, ∀ q, q < 7 → vs[j * 7 + q]? = [Value.int .i64 k, .string i, .string l, .int .i64 s, .int .i64 t, .int .i64 e, .slice a n.length cap][q]? := by
  induction h generalizing j with
  | nil => simp at hj
  | cons k' s' t' e' i' l' n' a cap h ih =>
    cases j with
    | zero =>
      simp at hj
      obtain ⟨rfl, rfl, rfl, rfl, rfl, rfl, rfl⟩ := hj
      exact ⟨a, cap, fun q hq => by rw [List.getElem?_append_left (by simp; omega)]; simp⟩
    | succ j =>
      obtain ⟨a', cap', h2⟩ := ih (by simpa using hj)
      exact ⟨a', cap', fun q hq => by rw [List.getElem?_append_right (by simp; omega), ← h2 q hq]; congr 1; simp; omega⟩
end Go.Proofs.YtbblkknndaoefaaGreatDoor
