/- How long the text of a good content is. Plain. The reference's check of a content, with a bound on the depth. Plain. Depth of a content. coldplugref07: valid, Valid. -/
import Derived.Test.YtcibciippghooaaGreatDoorZL5
import Derived.Test.YtcibciippghooaaGreatDoorZL1
import Derived.Test.YtcibciippghooaaGreatDoorZL8
import Derived.Test.YtcibciippghooaaGreatDoorZL6
import Derived.Deep.DeepCutAuto
namespace Go.Proofs.YtcibciippghooaaGreatDoor
open Go
set_option linter.unusedVariables false
theorem itoa_le2 {v : Int} (h1 : 1 ≤ v) (h2 : v ≤ 16) : (Lib.itoa v).length ≤ 2 := by
  obtain ⟨k, rfl⟩ := Int.eq_ofNat_of_zero_le (show 0 ≤ v by omega)
  rw [itoa_nat k, dec_small k (by omega) (by omega)]
  split <;> simp
theorem bl_len (s : ByteArray) : (bl s).length = s.size := (Lib.size_eq s).symm
theorem commas_cons (x : List UInt8) (l : List (List UInt8)) : (commas (x :: l)).length ≤ x.length + 1 + (commas l).length := by
  cases l with
  | nil => simp [commas]
  | cons y t => simp [commas]; omega
mutual
theorem text_bound : ∀ c : Ct, c.good = true → c.text.length + 1 ≤ 64 * c.count
  | .mk k i l s t e n, h => by
    have ha := (good_alike h).1
    have hg := h
    rw [good_mk, Bool.and_eq_true] at hg
    have hb := texts_bound n hg.2
    obtain ⟨h1, h2⟩ := alike_small ha
    have h3 := bl_len i
    have h4 := bl_len l
    rw [Ct.count]
    rcases alike_kind ha with ⟨rfl | rfl, rfl⟩ | ⟨rfl, a1, a2, a3, a4, a5, a6⟩ | rfl | ⟨rfl, a1, a2, a3, a4⟩ | rfl
    · rw [text0]; simp; omega
    · rw [text1]; simp; omega
    · have b1 := itoa_le2 a1 a2
      have b2 := itoa_le2 a3 a4
      have b3 := itoa_le2 a5 a6
      rw [text2]; simp; omega
    · rw [text3]; simp; omega
    · have b1 := itoa_le2 a1 a2
      have b2 := itoa_le2 a3 a4
      rw [text4]; simp; omega
    · rw [text5]; simp; omega
theorem texts_bound : ∀ l : List Ct, Ct.goods l = true → (commas (l.map Ct.text)).length ≤ 64 * Ct.counts l
  | [], _ => by simp [commas]
  | c :: t, h => by
    rw [Ct.goods, Bool.and_eq_true] at h
    have h1 := text_bound c h.1
    have h2 := texts_bound t h.2
    have h3 := commas_cons c.text (t.map Ct.text)
    rw [Ct.counts, List.map_cons]
    omega
end
end Go.Proofs.YtcibciippghooaaGreatDoor
namespace Go.Proofs.YtcibciippghooaaGreatDoor
open Go
set_option linter.unusedVariables false
/-- What the reference's valid computes. -/
def rV : Nat → Ct → Bool
  | 0, c => decide (c.kind = 0) && alike c
  | d + 1, c => c.inner.all (rV d) && alike c
theorem alike_zero {c : Ct} (h : alike c = true) (hk : c.kind = 0) : c.inner = [] := by
  obtain ⟨k, i, l, s, t, e, n⟩ := c
  obtain rfl : k = 0 := hk
  simp only [alike, if_true, Bool.and_eq_true, List.isEmpty_iff] at h
  exact h.2
theorem depth_mk (c : Ct) : c.depth = if c.kind = 0 then Ct.depths c.inner else Ct.depths c.inner + 1 := by
  obtain ⟨k, i, l, s, t, e, n⟩ := c
  rw [Ct.depth]; rfl
theorem depths_all (d : Nat) : ∀ l : List Ct, decide (Ct.depths l ≤ d) = l.all fun c => decide (c.depth ≤ d)
  | [] => by simp [Ct.depths]
  | c :: t => by
    rw [Ct.depths, List.all_cons, ← depths_all d t, Bool.eq_iff_iff]
    simp only [decide_eq_true_eq, Bool.and_eq_true]
    omega
theorem all_and {α : Type} (f g : α → Bool) : ∀ l : List α, (l.all fun x => f x && g x) = (l.all f && l.all g)
  | [] => rfl
  | a :: t => by
    rw [List.all_cons, List.all_cons, List.all_cons, all_and f g t, Bool.eq_iff_iff]
    simp only [Bool.and_eq_true]
    constructor
    · rintro ⟨⟨h1, h2⟩, h3, h4⟩; exact ⟨⟨h1, h3⟩, h2, h4⟩
    · rintro ⟨⟨h1, h2⟩, h3, h4⟩; exact ⟨⟨h1, h3⟩, h2, h4⟩
theorem rV_eq : ∀ (d : Nat) (c : Ct), rV d c = (c.good && decide (c.depth ≤ d))
  | 0, c => by
    rw [rV, good_mk, depth_mk]
    by_cases hk : c.kind = 0
    · rw [if_pos hk]
      cases ha : alike c with
      | false => simp
      | true => rw [alike_zero ha hk]; simp [hk, Ct.goods, Ct.depths]
    · rw [if_neg hk]; simp [hk]
  | d + 1, c => by
    rw [rV, good_mk, goods_all]
    have e : (c.inner.all (rV d)) = (c.inner.all Ct.good && decide (Ct.depths c.inner ≤ d)) := by
      rw [depths_all, ← all_and]
      congr 1
      funext x
      exact rV_eq d x
    rw [e]
    cases ha : alike c with
    | false => simp
    | true =>
      by_cases hk : c.kind = 0
      · rw [depth_mk, alike_zero ha hk]; simp [hk, Ct.depths]
      · rw [depth_mk, if_neg hk]
        simp
theorem rV_valid (c : Ct) : rV 6 c = c.valid := by
  rw [rV_eq]; unfold Ct.valid; rw [Bool.and_comm]
end Go.Proofs.YtcibciippghooaaGreatDoor
namespace Go.Proofs.YtcibciippghooaaGreatDoor
open Go.RowKit Go.Maps
set_option linter.unusedVariables false

theorem CAt.inAt {w : World} {X : Nat → Prop} {vs : Array Value} {k s t e : Int} {i l : ByteArray} {n : List Ct} (h : CAt w X vs (.mk k i l s t e n)) : ∃ a cap, vs = #[.int .i64 k, .string i, .string l, .int .i64 s, .int .i64 t, .int .i64 e, .slice a n.length cap] ∧ InAt w X a cap n := by
  generalize hc : Ct.mk k i l s t e n = c at h
  cases h with
  | mk k' i' l' s' t' e' n' a cap vs' h1 h2 h3 h4 h5 h6 =>
    injection hc with e1 e2 e3 e4 e5 e6 e7
    subst e1; subst e2; subst e3; subst e4; subst e5; subst e6; subst e7
    exact ⟨a, cap, rfl, h1, h2, h3, vs', h4, h5, h6⟩
/-- A content of a slice that is read. -/
structure CtAt (w : World) (b o : Nat) (k : Int) (i l : ByteArray) (s t e : Int) (v : Value) : Prop where
  c0 : w.cell? ⟨b, o, none⟩ = some (.int .i64 k)
  c1 : w.cell? ⟨b, o + 1, none⟩ = some (.string i)
  c2 : w.cell? ⟨b, o + 2, none⟩ = some (.string l)
  c3 : w.cell? ⟨b, o + 3, none⟩ = some (.int .i64 s)
  c4 : w.cell? ⟨b, o + 4, none⟩ = some (.int .i64 t)
  c5 : w.cell? ⟨b, o + 5, none⟩ = some (.int .i64 e)
  c6 : w.cell? ⟨b, o + 6, none⟩ = some v
theorem InAt.at {w : World} {X : Nat → Prop} {a : Option Addr} {cap j : Nat} {cs : List Ct} (h : InAt w X a cap cs) {k s t e : Int} {i l : ByteArray} {n : List Ct} (hj : cs[j]? = some (.mk k i l s t e n)) :
    ∃ b off a' cap', a = some ⟨b, off, none⟩ ∧ b < w.heap.size ∧ X b ∧ CtAt w b (off + j * 7) k i l s t e (.slice a' n.length cap') ∧ InAt w X a' cap' n := by
  cases a with
  | none => rw [(h.isNil rfl).1] at hj; simp at hj
  | some ad =>
    obtain ⟨vs, h4, h5, h6⟩ := h.el
    obtain ⟨h7, h8, h9⟩ := h4 ad rfl (fun e => by rw [e] at hj; simp at hj)
    obtain ⟨a', cap', e1, h10⟩ := (h6 j _ hj).inAt
    have hc := h5 ad j _ rfl hj
    rw [e1] at hc
    obtain ⟨b, off, sp⟩ := ad
    simp only at h7 h8 h9 hc
    subst h7
    exact ⟨b, off, a', cap', rfl, h8, h9, ⟨hc 0 (by omega), hc 1 (by omega), hc 2 (by omega), hc 3 (by omega), hc 4 (by omega), hc 5 (by omega), hc 6 (by omega)⟩, h10⟩
theorem depths_take {n : List Ct} {j : Nat} {d : Ct} (h : n[j]? = some d) : Ct.depths (n.take (j + 1)) = max (Ct.depths (n.take j)) d.depth := by
  rw [List.take_add_one, h]
  exact depths_snoc _ _
theorem depths_le {n : List Ct} (j : Nat) : Ct.depths (n.take j) ≤ Ct.counts n := by
  have h1 := depths_counts (n.take j)
  have h2 := counts_append (n.take j) (n.drop j)
  rw [List.take_append_drop] at h2
  omega

set_option maxRecDepth 100000 in
set_option maxHeartbeats 1000000 in
theorem c_depth_n (m : Nat) : m ≤ 10000 → ∀ (k s t e : Int) (i l : ByteArray) (n : List Ct) (a : Option Addr) (cap : Nat) (w : World) (X : Nat → Prop), Ct.counts n < m → InAt w X a cap n →
    Calls Tryz.prog 93 #[.agg #[.int .i64 k, .string i, .string l, .int .i64 s, .int .i64 t, .int .i64 e, .slice a n.length cap]] w fun en w2 => en = .returned (.int .i64 ((Ct.mk k i l s t e n).depth : Int)) ∧ Fr No w w2 := by
  induction m with
  | zero => intro _ k s t e i l n a cap w X h; omega
  | succ m ih =>
    intro hm k s t e i l n a cap w X hcn hin
    have hnl := len_counts n
    have h0 : Fr No w (w.alloc (.cells #[.int .i64 k, .string i, .string l, .int .i64 s, .int .i64 t, .int .i64 e, .slice a n.length cap] 48)) := (Fr.refl _ _).alloc _
    have q1 := block_alloc w (.cells #[.int .i64 k, .string i, .string l, .int .i64 s, .int .i64 t, .int .i64 e, .slice a n.length cap] 48)
    obtain ⟨W0, hW0⟩ : ∃ W0, W0 = w.alloc (.cells #[.int .i64 k, .string i, .string l, .int .i64 s, .int .i64 t, .int .i64 e, .slice a n.length cap] 48) := ⟨_, rfl⟩
    rw [← hW0] at h0 q1
    have hin0 := hin.fr h0 (fun _ _ => id)
    have c0 : W0.cell? ⟨w.heap.size, 0, none⟩ = some (.int .i64 k) := cell_of_block q1 0
    have c6 : W0.cell? ⟨w.heap.size, 6, none⟩ = some (.slice a n.length cap) := cell_of_block q1 6
    have Ih := Lib.hid (ih (by omega))
    have H0 := Lib.hid h0
    clear ih hin h0
    go_enter Tryz.func93, Tryz.ntmps93
    go_wp2_with fail
    rw [← hW0]
    clear hW0
    go_wp2_with fail
    go_loopw [3, 9] (fun v i wr => ∃ (j : Nat), j ≤ n.length ∧ v = .int .i64 ((Ct.depths (n.take j) : Nat) : Int) ∧ i = .int .i64 (j : Int) ∧ Fr No W0 wr) (fun _ i _ => n.length - (intOf i).toNat)
    case atStart => exact ⟨0, by omega, by simp [Ct.depths], rfl, Fr.refl _ _⟩
    case round =>
      obtain ⟨j, hj, rfl, rfl, hfr⟩ := hrel
      have hdl := depths_le (n := n) j
      by_cases hlt : j < n.length
      · have hlt' : (j : Int) < n.length := by omega
        obtain ⟨d, hd⟩ : ∃ d, n[j]? = some d := ⟨_, List.getElem?_eq_getElem hlt⟩
        have hdc := mem_count (List.mem_of_getElem? hd)
        have hdt := depths_take hd
        have hdl2 := depths_le (n := n) (j + 1)
        obtain ⟨k1, i1, l1, s1, t1, e1, n1⟩ := d
        rw [Ct.count] at hdc
        obtain ⟨b, off, a', cap', rfl, hb, hX, ⟨y0, y1, y2, y3, y4, y5, y6⟩, hin1⟩ := (hin0.fr hfr (fun _ _ => id)).at hd
        have Hdt := Lib.hid hdt
        clear hdt hd
        go_wp2_with fail
        have hx : Fr No wr (wr.alloc (.cells #[.int .i64 k1, .string i1, .string l1, .int .i64 s1, .int .i64 t1, .int .i64 e1, .slice a' n1.length cap'] 48)) := (Fr.refl _ _).alloc _
        refine (Ih.out k1 s1 t1 e1 i1 l1 n1 a' cap' _ X (by omega) (hin1.fr hx (fun _ _ => id))).mono ?_
        rintro e w2 ⟨rfl, hf2⟩
        have Hfr := Lib.hid ((hfr.step hx (fun _ _ h => h)).step hf2 (fun _ _ h => h))
        clear hx hf2 hfr y0 y1 y2 y3 y4 y5 y6 hin1
        go_wp2_with fail
        go_roundw
        case rel => exact ⟨j + 1, by omega, by rw [Hdt.out]; congr 1; omega, by go_num, Hfr.out⟩
        case measure => simp [intOf]; omega
      · have hlt' : ¬ (j : Int) < n.length := by omega
        obtain rfl : j = n.length := by omega
        rw [List.take_length] at hdl ⊢
        have c01 : wr.cell? ⟨w.heap.size, 0, none⟩ = some (.int .i64 k) := hfr.cell c0 id
        have Hfr := Lib.hid (H0.out.trans hfr (fun _ _ h => h) (fun _ _ h => h))
        clear hfr
        by_cases hk : k = 0
        · subst hk
          go_wp2_with fail
          go_ret
          exact ⟨by rw [Ct.depth, if_pos rfl]; rfl, Hfr.out⟩
        · go_wp2_with fail
          go_ret
          exact ⟨by rw [Ct.depth, if_neg hk]; rfl, Hfr.out⟩
theorem c_depth {w : World} {X : Nat → Prop} {vs : Array Value} {c : Ct} (h : CAt w X vs c) (hc : c.count ≤ 10000) :
    Calls Tryz.prog 93 #[.agg vs] w fun en w2 => en = .returned (.int .i64 (c.depth : Int)) ∧ Fr No w w2 := by
  obtain ⟨k, i, l, s, t, e, n⟩ := c
  obtain ⟨a, cap, rfl, h1⟩ := h.inAt
  exact c_depth_n _ hc k s t e i l n a cap w X (by rw [Ct.count]; omega) h1
end Go.Proofs.YtcibciippghooaaGreatDoor
namespace Go.Proofs.YtcibciippghooaaGreatDoor
open Go.RowKit Go.Maps
set_option linter.unusedVariables false

theorem rV_one (d : Nat) (c : Ct) : rV d c = (c.inner.all (rV (d - 1)) && (if d = 0 then decide (c.kind = 0) && alike c else alike c)) := by
  cases d with
  | zero =>
    rw [rV, if_pos rfl]
    cases hk : decide (c.kind = 0) && alike c with
    | false => simp
    | true =>
      rw [Bool.and_eq_true, decide_eq_true_eq] at hk
      rw [alike_zero hk.2 hk.1]; simp
  | succ d => rw [rV, if_neg (by omega)]; rfl
theorem all_take_not {α : Type} {f : α → Bool} {l : List α} {j : Nat} {x : α} (hx : l[j]? = some x) (hf : f x = false) : l.all f = false := by
  rw [Bool.eq_false_iff]
  intro h
  rw [List.all_eq_true] at h
  have := h x (List.mem_of_getElem? hx)
  rw [hf] at this; cases this
theorem all_take_more {α : Type} {f : α → Bool} {l : List α} {j : Nat} {x : α} (h : (l.take j).all f = true) (hx : l[j]? = some x) (hf : f x = true) : (l.take (j + 1)).all f = true := by
  rw [List.take_add_one, hx, List.all_append, h]; simp [hf]
/-- All texts in a content are short. -/
def SmallAll (m : Nat) (c : Ct) : Prop := ∀ d ∈ c.walk, SmallC m d
theorem SmallAll.inner {m : Nat} {k s t e : Int} {i l : ByteArray} {n : List Ct} (h : SmallAll m (.mk k i l s t e n)) {d : Ct} (hd : d ∈ n) : SmallAll m d := by
  intro x hx
  refine h x ?_
  rw [Ct.walk]
  refine List.mem_cons_of_mem _ ?_
  have : ∀ (l : List Ct), d ∈ l → x ∈ Ct.walks l := by
    intro l
    induction l with
    | nil => simp
    | cons y u ih =>
      intro h1
      rw [Ct.walks]
      rcases List.mem_cons.1 h1 with rfl | h1
      · exact List.mem_append_left _ hx
      · exact List.mem_append_right _ (ih h1)
  exact this n hd
theorem SmallAll.self {m : Nat} {k s t e : Int} {i l : ByteArray} {n : List Ct} (h : SmallAll m (.mk k i l s t e n)) : i.size ≤ m ∧ l.size ≤ m := h (.mk k i l s t e n) (by rw [Ct.walk]; simp)
theorem noNum_b (s t e : Int) : noNum s t e = ((s == 0) && (t == 0) && (e == 0)) := by
  unfold noNum
  rw [Bool.eq_iff_iff]; simp
theorem len_zero2 (n : List Ct) : n.isEmpty = (n.length == 0) := by cases n <;> simp
theorem len_int (n : List Ct) : ((n.length : Int) == 0) = (n.length == 0) := by rw [Bool.eq_iff_iff]; simp
theorem alike_k {k : Int} (s t e : Int) (i l : ByteArray) (n : List Ct) (hk : ¬ k = 0) : alike (.mk k i l s t e n) = (isId i && (if k = 1 then ((bl l).isEmpty || isId l) && noNum s t e && n.isEmpty else if k = 2 then (bl l).isEmpty && slotsOk s t && decide (1 ≤ e) && decide (e ≤ t) && (n.length == 1)
    else if k = 3 then (bl l).isEmpty && noNum s t e && (n.length == 1) else if k = 4 then (bl l).isEmpty && slotsOk s t && (e == 0) && decide (1 ≤ n.length) && decide (n.length ≤ 16)
    else if k = 5 then (bl l).isEmpty && noNum s t e && decide (1 ≤ n.length) && decide (n.length ≤ 16) else false)) := by
  have h1 : decide (n.length = 1) = (n.length == 1) := by rw [Bool.eq_iff_iff]; simp
  have h2 : decide (e = 0) = (e == 0) := by rw [Bool.eq_iff_iff]; simp
  simp only [alike, if_neg hk, someIn, h1, h2]
  repeat' split
  all_goals (cases isId i <;> simp [Bool.and_assoc])
theorem len_int1 (n : List Ct) : ((n.length : Int) == 1) = (n.length == 1) := by rw [Bool.eq_iff_iff]; simp; omega
theorem emp_bl (l : ByteArray) : l.toList.isEmpty = (bl l).isEmpty := by rw [ByteArray.toList_eq]

/-- What valid computes. -/
def VSpec (m d : Nat) : Prop := ∀ (k s t e : Int) (i l : ByteArray) (n : List Ct) (a : Option Addr) (cap : Nat) (w : World) (X : Nat → Prop), SmallAll m (.mk k i l s t e n) → InAt w X a cap n →
    Calls Tryz.prog 71 #[.agg #[.int .i64 k, .string i, .string l, .int .i64 s, .int .i64 t, .int .i64 e, .slice a n.length cap], .int .i64 (d : Int)] w fun en w2 => en = .returned (.bool (rV d (.mk k i l s t e n))) ∧ Fr No w w2

set_option maxRecDepth 100000 in
set_option maxHeartbeats 4000000 in
theorem v_zero (m : Nat) (hmm : m ≤ maxLen) : VSpec m 0 := by
    intro k s t e i l n a cap w X hsm hin
    obtain ⟨his, hls⟩ := hsm.self
    have hrv : rV 0 (.mk k i l s t e n) = (decide (k = 0) && alike (.mk k i l s t e n)) := by rw [rV]; rfl
    obtain ⟨R, hR⟩ : ∃ R, R = rV 0 (.mk k i l s t e n) := ⟨_, rfl⟩
    rw [← hR] at hrv ⊢
    have HR := Lib.hid hrv
    obtain ⟨D, hD⟩ : ∃ D : Int, D = ((0 : Nat) : Int) := ⟨_, rfl⟩
    rw [← hD]
    have nd : D ≤ 0 := by omega
    clear hrv hR hD
    have h0 : Fr No w (w.alloc (.cells #[.int .i64 k, .string i, .string l, .int .i64 s, .int .i64 t, .int .i64 e, .slice a n.length cap] 48)) := (Fr.refl _ _).alloc _
    have q1 := block_alloc w (.cells #[.int .i64 k, .string i, .string l, .int .i64 s, .int .i64 t, .int .i64 e, .slice a n.length cap] 48)
    have hsz : w.heap.size < (w.alloc (.cells #[.int .i64 k, .string i, .string l, .int .i64 s, .int .i64 t, .int .i64 e, .slice a n.length cap] 48)).heap.size := by simp
    obtain ⟨W0, hW0⟩ : ∃ W0, W0 = w.alloc (.cells #[.int .i64 k, .string i, .string l, .int .i64 s, .int .i64 t, .int .i64 e, .slice a n.length cap] 48) := ⟨_, rfl⟩
    rw [← hW0] at h0 q1 hsz
    have hnm : n.length ≤ 9223372036854775807 := by have h1 := hin.len; have h2 := hin.max; unfold maxLen at h2; omega
    have hin0 := hin.fr h0 (fun _ _ => id)
    have Hsm := Lib.hid hsm
    have H0 := Lib.hid h0
    clear hin h0 hsm
    go_enter Tryz.func71, Tryz.ntmps71
    go_upto_region 1 with (fail)
    rw [← hW0]
    clear hW0
    go_wp2_with fail
    go_loopw [5] (fun v wr => v = .int .i64 0 ∧ Fr No W0 wr) (fun v _ => 0)
    case atStart => exact ⟨rfl, Fr.refl _ _⟩
    case round =>
      obtain ⟨rfl, hfr⟩ := hrel
      obtain ⟨W, rfl⟩ : ∃ W, W = wr := ⟨_, rfl⟩
      have r1 := hfr.heap q1 id
      have c6 : W.cell? ⟨w.heap.size, 6, none⟩ = some (.slice a n.length cap) := cell_of_block r1 6
      have Hf := Lib.hid (H0.out.step hfr (fun _ _ h => h))
      by_cases hlt : (0 : Int) < n.length
      · have HR3 : Hid (R = false) := by
          unfold Hid
          rw [HR.out, Bool.eq_false_iff]
          intro h
          rw [Bool.and_eq_true, decide_eq_true_eq] at h
          have h2 : n = [] := alike_zero h.2 h.1
          rw [h2] at hlt; simp at hlt
        clear hfr r1
        go_wp2_with fail
        go_ret
        exact ⟨ret_bool (by rw [HR3.out]), Hf.out⟩
      · clear hfr
        have c0 : W.cell? ⟨w.heap.size, 0, none⟩ = some (.int .i64 k) := cell_of_block r1 0
        have c1 : W.cell? ⟨w.heap.size, 1, none⟩ = some (.string i) := cell_of_block r1 1
        have c2 : W.cell? ⟨w.heap.size, 2, none⟩ = some (.string l) := cell_of_block r1 2
        have c3 : W.cell? ⟨w.heap.size, 3, none⟩ = some (.int .i64 s) := cell_of_block r1 3
        have c4 : W.cell? ⟨w.heap.size, 4, none⟩ = some (.int .i64 t) := cell_of_block r1 4
        have c5 : W.cell? ⟨w.heap.size, 5, none⟩ = some (.int .i64 e) := cell_of_block r1 5
        obtain ⟨sb, hsb⟩ : ∃ sb, sb = slotsOk s t := ⟨_, rfl⟩
        obtain ⟨nb, hnb⟩ : ∃ nb, nb = noNum s t e := ⟨_, rfl⟩
        have Hsb := Lib.hid hsb
        have Hnb := Lib.hid (hnb.trans (noNum_b s t e))
        have Hnb2 := Lib.hid hnb
        clear hsb hnb
        go_upto_region 6 with (fail)
        go_cut [6] (fun v wc => v = .bool sb ∧ W = wc)
        case first =>
          by_cases t1 : 1 ≤ t
          · by_cases t2 : t ≤ 16
            · by_cases t3 : 1 ≤ s
              · by_cases t4 : s ≤ t
                · go_wp2_with fail
                  go_meet
                  exact ⟨by rw [Hsb.out]; simp [slotsOk]; omega, rfl⟩
                · go_wp2_with fail
                  go_meet
                  exact ⟨by rw [Hsb.out]; simp [slotsOk]; omega, rfl⟩
              · go_wp2_with fail
                go_meet
                exact ⟨by rw [Hsb.out]; simp [slotsOk]; omega, rfl⟩
            · go_wp2_with fail
              go_meet
              exact ⟨by rw [Hsb.out]; simp [slotsOk]; omega, rfl⟩
          · go_wp2_with fail
            go_meet
            exact ⟨by rw [Hsb.out]; simp [slotsOk]; omega, rfl⟩
        obtain ⟨rfl, rfl⟩ := hcut
        rename_i hK
        refine hK _ _ ?_
        go_upto_region 7 with (fail)
        go_cut [7] (fun v wc => v = .bool nb ∧ W = wc)
        case first =>
          rcases t1 : (t == 0) with _ | _
          · go_wp2_with fail
            go_meet
            exact ⟨by rw [Hnb.out, t1]; simp, rfl⟩
          · rcases t2 : (s == 0) with _ | _
            · go_wp2_with fail
              go_meet
              exact ⟨by rw [Hnb.out, t2]; simp, rfl⟩
            · rcases t3 : (e == 0) with _ | _
              · go_wp2_with fail
                go_meet
                exact ⟨by rw [Hnb.out, t3]; simp, rfl⟩
              · go_wp2_with fail
                go_meet
                exact ⟨by rw [Hnb.out, t1, t2, t3]; rfl, rfl⟩
        obtain ⟨rfl, rfl⟩ := hcut
        rename_i hK2
        refine hK2 _ _ ?_
        go_upto_region 8 with (fail)
        have he1 := emp_bl i
        have he2 := emp_bl l
        have He1 := Lib.hid he1
        have He2 := Lib.hid he2
        clear he1 he2
        have Hln := Lib.hid (len_zero2 n)
        rcases hk0 : (k == 0) with _ | _
        · have HR3 : Hid (R = false) := by unfold Hid; rw [HR.out]; simp at hk0; simp [hk0]
          go_wp2_with fail
          go_ret
          exact ⟨ret_bool (by rw [HR3.out]), Hf.out⟩
        · have hk0' : Hid (k = 0) := by unfold Hid; simpa using hk0
          have HR2 : Hid (R = alike (.mk k i l s t e n)) := by unfold Hid; rw [HR.out, hk0'.out]; rfl
          have HR3 : Hid (R = (i.toList.isEmpty && l.toList.isEmpty && nb && (n.length == 0))) := by
            unfold Hid
            rw [HR2.out, Hnb2.out, He1.out, He2.out, ← Hln.out, hk0'.out]
            simp only [alike, if_true]
          rcases q1 : i.toList.isEmpty with _ | _
          · go_wp2_with fail
            go_ret
            exact ⟨ret_bool (by rw [HR3.out, q1]; rfl), Hf.out⟩
          · rcases q2 : l.toList.isEmpty with _ | _
            · go_wp2_with fail
              go_ret
              exact ⟨ret_bool (by rw [HR3.out, q1, q2]; rfl), Hf.out⟩
            · cases nb with
              | false =>
                go_wp2_with fail
                go_ret
                exact ⟨ret_bool (by rw [HR3.out, q1, q2]; rfl), Hf.out⟩
              | true =>
                go_wp2_with fail
                go_ret
                exact ⟨ret_bool (by rw [HR3.out, q1, q2, len_int]; rfl), Hf.out⟩

set_option maxRecDepth 100000 in
set_option maxHeartbeats 4000000 in
theorem v_succ (m d : Nat) (hmm : m ≤ maxLen) (hd : d + 1 ≤ 6) (ih : VSpec m d) : VSpec m (d + 1) := by
    intro k s t e i l n a cap w X hsm hin
    obtain ⟨his, hls⟩ := hsm.self
    have hrv := rV_one (d + 1) (.mk k i l s t e n)
    rw [if_neg (by omega)] at hrv
    have hrv2 : rV (d + 1) (.mk k i l s t e n) = (n.all (rV d) && alike (.mk k i l s t e n)) := hrv
    obtain ⟨R, hR⟩ : ∃ R, R = rV (d + 1) (.mk k i l s t e n) := ⟨_, rfl⟩
    rw [← hR] at hrv2 ⊢
    have HR := Lib.hid hrv2
    have Ih := Lib.hid ih
    obtain ⟨D, hD⟩ : ∃ D : Int, D = ((d + 1 : Nat) : Int) := ⟨_, rfl⟩
    rw [← hD]
    have nd : ¬ D ≤ 0 := by omega
    have nd2 : D - 1 = (d : Int) := by omega
    clear hrv hrv2 hR ih hD
    have h0 : Fr No w (w.alloc (.cells #[.int .i64 k, .string i, .string l, .int .i64 s, .int .i64 t, .int .i64 e, .slice a n.length cap] 48)) := (Fr.refl _ _).alloc _
    have q1 := block_alloc w (.cells #[.int .i64 k, .string i, .string l, .int .i64 s, .int .i64 t, .int .i64 e, .slice a n.length cap] 48)
    have hsz : w.heap.size < (w.alloc (.cells #[.int .i64 k, .string i, .string l, .int .i64 s, .int .i64 t, .int .i64 e, .slice a n.length cap] 48)).heap.size := by simp
    obtain ⟨W0, hW0⟩ : ∃ W0, W0 = w.alloc (.cells #[.int .i64 k, .string i, .string l, .int .i64 s, .int .i64 t, .int .i64 e, .slice a n.length cap] 48) := ⟨_, rfl⟩
    rw [← hW0] at h0 q1 hsz
    have hnm : n.length ≤ 9223372036854775807 := by have h1 := hin.len; have h2 := hin.max; unfold maxLen at h2; omega
    have hin0 := hin.fr h0 (fun _ _ => id)
    have Hsm := Lib.hid hsm
    have H0 := Lib.hid h0
    clear hin h0 hsm
    go_enter Tryz.func71, Tryz.ntmps71
    go_upto_region 1 with (fail)
    rw [← hW0]
    clear hW0
    go_wp2_with fail
    go_loopw [5] (fun v wr => ∃ j : Nat, j ≤ n.length ∧ v = .int .i64 (j : Int) ∧ Fr No W0 wr ∧ Hid ((n.take j).all (rV d) = true)) (fun v _ => n.length - (intOf v).toNat)
    case atStart => exact ⟨0, by omega, rfl, Fr.refl _ _, rfl⟩
    case round =>
      obtain ⟨j, hj, rfl, hfr, Hal⟩ := hrel
      obtain ⟨W, rfl⟩ : ∃ W, W = wr := ⟨_, rfl⟩
      have r1 := hfr.heap q1 id
      have c6 : W.cell? ⟨w.heap.size, 6, none⟩ = some (.slice a n.length cap) := cell_of_block r1 6
      by_cases hlt : j < n.length
      · have hlt' : (j : Int) < n.length := by omega
        obtain ⟨x, hx⟩ : ∃ x, n[j]? = some x := ⟨_, List.getElem?_eq_getElem hlt⟩
        have hxs := Hsm.out.inner (List.mem_of_getElem? hx)
        obtain ⟨k1, i1, l1, s1, t1, e1, n1⟩ := x
        obtain ⟨b, off, a', cap', rfl, hb, hX, ⟨y0, y1, y2, y3, y4, y5, y6⟩, hin1⟩ := (hin0.fr hfr (fun _ _ => id)).at hx
        have Hx := Lib.hid hx
        have hcall := Ih.out k1 s1 t1 e1 i1 l1 n1 a' cap' W X hxs hin1
        have Hfr := Lib.hid hfr
        clear hx hfr r1 hin1
        obtain ⟨bx, hbx⟩ : ∃ bx, bx = rV d (Ct.mk k1 i1 l1 s1 t1 e1 n1) := ⟨_, rfl⟩
        rw [← hbx] at hcall
        have Hbx := Lib.hid hbx
        clear hbx
        go_wp2_with fail
        refine hcall.mono ?_
        rintro en w2 ⟨rfl, hf2⟩
        have Hf2 := Lib.hid (Hfr.out.step hf2 (fun _ _ h => h))
        clear hf2 hcall y0 y1 y2 y3 y4 y5 y6 c6
        cases bx with
        | false =>
          go_wp2_with fail
          go_ret
          exact ⟨ret_bool (by rw [HR.out, all_take_not Hx.out Hbx.out.symm]; rfl), H0.out.step Hf2.out (fun _ _ h => h)⟩
        | true =>
          go_wp2_with fail
          go_roundw
          case rel => exact ⟨j + 1, by omega, by go_num, Hf2.out, all_take_more Hal.out Hx.out Hbx.out.symm⟩
          case measure => simp [intOf]; omega
      · have hlt' : ¬ (j : Int) < n.length := by omega
        obtain rfl : j = n.length := by omega
        have HR2 : Hid (R = alike (.mk k i l s t e n)) := by
          unfold Hid
          have h1 := Hal.out
          rw [List.take_length] at h1
          rw [HR.out, h1, Bool.true_and]
        have Hf := Lib.hid (H0.out.step hfr (fun _ _ h => h))
        clear hfr Hal
        have c0 : W.cell? ⟨w.heap.size, 0, none⟩ = some (.int .i64 k) := cell_of_block r1 0
        have c1 : W.cell? ⟨w.heap.size, 1, none⟩ = some (.string i) := cell_of_block r1 1
        have c2 : W.cell? ⟨w.heap.size, 2, none⟩ = some (.string l) := cell_of_block r1 2
        have c3 : W.cell? ⟨w.heap.size, 3, none⟩ = some (.int .i64 s) := cell_of_block r1 3
        have c4 : W.cell? ⟨w.heap.size, 4, none⟩ = some (.int .i64 t) := cell_of_block r1 4
        have c5 : W.cell? ⟨w.heap.size, 5, none⟩ = some (.int .i64 e) := cell_of_block r1 5
        obtain ⟨sb, hsb⟩ : ∃ sb, sb = slotsOk s t := ⟨_, rfl⟩
        obtain ⟨nb, hnb⟩ : ∃ nb, nb = noNum s t e := ⟨_, rfl⟩
        have Hsb := Lib.hid hsb
        have Hnb := Lib.hid (hnb.trans (noNum_b s t e))
        have Hnb2 := Lib.hid hnb
        clear hsb hnb
        go_upto_region 6 with (fail)
        go_cut [6] (fun v wc => v = .bool sb ∧ W = wc)
        case first =>
          by_cases t1 : 1 ≤ t
          · by_cases t2 : t ≤ 16
            · by_cases t3 : 1 ≤ s
              · by_cases t4 : s ≤ t
                · go_wp2_with fail
                  go_meet
                  exact ⟨by rw [Hsb.out]; simp [slotsOk]; omega, rfl⟩
                · go_wp2_with fail
                  go_meet
                  exact ⟨by rw [Hsb.out]; simp [slotsOk]; omega, rfl⟩
              · go_wp2_with fail
                go_meet
                exact ⟨by rw [Hsb.out]; simp [slotsOk]; omega, rfl⟩
            · go_wp2_with fail
              go_meet
              exact ⟨by rw [Hsb.out]; simp [slotsOk]; omega, rfl⟩
          · go_wp2_with fail
            go_meet
            exact ⟨by rw [Hsb.out]; simp [slotsOk]; omega, rfl⟩
        obtain ⟨rfl, rfl⟩ := hcut
        rename_i hK
        refine hK _ _ ?_
        go_upto_region 7 with (fail)
        go_cut [7] (fun v wc => v = .bool nb ∧ W = wc)
        case first =>
          rcases t1 : (t == 0) with _ | _
          · go_wp2_with fail
            go_meet
            exact ⟨by rw [Hnb.out, t1]; simp, rfl⟩
          · rcases t2 : (s == 0) with _ | _
            · go_wp2_with fail
              go_meet
              exact ⟨by rw [Hnb.out, t2]; simp, rfl⟩
            · rcases t3 : (e == 0) with _ | _
              · go_wp2_with fail
                go_meet
                exact ⟨by rw [Hnb.out, t3]; simp, rfl⟩
              · go_wp2_with fail
                go_meet
                exact ⟨by rw [Hnb.out, t1, t2, t3]; rfl, rfl⟩
        obtain ⟨rfl, rfl⟩ := hcut
        rename_i hK2
        refine hK2 _ _ ?_
        go_upto_region 8 with (fail)
        have he1 := emp_bl i
        have he2 := emp_bl l
        have He1 := Lib.hid he1
        have He2 := Lib.hid he2
        clear he1 he2
        have Hln := Lib.hid (len_zero2 n)
        rcases hk0 : (k == 0) with _ | _
        · have hk0n : ¬ k = 0 := by simpa using hk0
          have Hk0n := Lib.hid hk0n
          clear hk0n
          go_wp2_with fail
          refine (r_id i _ (by omega)).mono ?_
          rintro en w3 ⟨rfl, rfl⟩
          have HR4 : Hid (R = (isId i && (if k = 1 then (l.toList.isEmpty || isId l) && nb && (n.length == 0) else if k = 2 then l.toList.isEmpty && sb && decide (1 ≤ e) && decide (e ≤ t) && (n.length == 1)
              else if k = 3 then l.toList.isEmpty && nb && (n.length == 1) else if k = 4 then l.toList.isEmpty && sb && (e == 0) && decide (1 ≤ n.length) && decide (n.length ≤ 16)
              else if k = 5 then l.toList.isEmpty && nb && decide (1 ≤ n.length) && decide (n.length ≤ 16) else false))) := by
            unfold Hid
            rw [HR2.out, Hnb2.out, Hsb.out, He2.out, ← Hln.out]
            exact alike_k s t e i l n Hk0n.out
          cases hib : isId i with
          | false =>
            have Hib := Lib.hid hib
            clear hib
            go_wp2_with fail
            go_ret
            exact ⟨ret_bool (by rw [HR4.out, Hib.out]; rfl), Hf.out⟩
          | true =>
            have HR5 : Hid (R = (if k = 1 then (l.toList.isEmpty || isId l) && nb && (n.length == 0) else if k = 2 then l.toList.isEmpty && sb && decide (1 ≤ e) && decide (e ≤ t) && (n.length == 1)
              else if k = 3 then l.toList.isEmpty && nb && (n.length == 1) else if k = 4 then l.toList.isEmpty && sb && (e == 0) && decide (1 ≤ n.length) && decide (n.length ≤ 16)
              else if k = 5 then l.toList.isEmpty && nb && decide (1 ≤ n.length) && decide (n.length ≤ 16) else false)) := by
              unfold Hid
              rw [HR4.out, hib, Bool.true_and]
            clear hib HR4
            go_upto_region 12 with (fail)
            have Hn0 := Lib.hid (len_int n)
            have Hn1 := Lib.hid (len_int1 n)
            rcases k1 : (k == 1) with _ | _
            · rcases k2 : (k == 2) with _ | _
              · rcases k3 : (k == 3) with _ | _
                · rcases k4 : (k == 4) with _ | _
                  · rcases k5 : (k == 5) with _ | _
                    · have HR6 : Hid (R = false) := by
                        unfold Hid; rw [HR5.out]; simp at k1 k2 k3 k4 k5; simp [k1, k2, k3, k4, k5]
                      clear HR5
                      go_wp2_with fail
                      go_ret
                      exact ⟨ret_bool (by rw [HR6.out]), Hf.out⟩
                    · have HR6 : Hid (R = (l.toList.isEmpty && nb && decide (1 ≤ n.length) && decide (n.length ≤ 16))) := by
                        unfold Hid; rw [HR5.out]; simp at k5; simp [k5]
                      clear HR5
                      rcases q2 : l.toList.isEmpty with _ | _
                      · go_wp2_with fail
                        go_ret
                        exact ⟨ret_bool (by rw [HR6.out, q2]; rfl), Hf.out⟩
                      · cases nb with
                        | false =>
                          go_wp2_with fail
                          go_ret
                          exact ⟨ret_bool (by rw [HR6.out, q2]; rfl), Hf.out⟩
                        | true =>
                          by_cases g1 : (1 : Int) ≤ n.length
                          · go_wp2_with fail
                            go_ret
                            exact ⟨ret_bool (by rw [HR6.out, q2, Bool.eq_iff_iff]; simp; omega), Hf.out⟩
                          · go_wp2_with fail
                            go_ret
                            exact ⟨ret_bool (by rw [HR6.out, q2, Bool.eq_iff_iff]; simp; omega), Hf.out⟩
                  · have HR6 : Hid (R = (l.toList.isEmpty && sb && (e == 0) && decide (1 ≤ n.length) && decide (n.length ≤ 16))) := by
                      unfold Hid; rw [HR5.out]; simp at k4; simp [k4]
                    clear HR5
                    rcases q2 : l.toList.isEmpty with _ | _
                    · go_wp2_with fail
                      go_ret
                      exact ⟨ret_bool (by rw [HR6.out, q2]; rfl), Hf.out⟩
                    · cases sb with
                      | false =>
                        go_wp2_with fail
                        go_ret
                        exact ⟨ret_bool (by rw [HR6.out, q2]; rfl), Hf.out⟩
                      | true =>
                        rcases g0 : (e == 0) with _ | _
                        · go_wp2_with fail
                          go_ret
                          exact ⟨ret_bool (by rw [HR6.out, q2, g0]; rfl), Hf.out⟩
                        · by_cases g1 : (1 : Int) ≤ n.length
                          · go_wp2_with fail
                            go_ret
                            exact ⟨ret_bool (by rw [HR6.out, q2, g0, Bool.eq_iff_iff]; simp; omega), Hf.out⟩
                          · go_wp2_with fail
                            go_ret
                            exact ⟨ret_bool (by rw [HR6.out, q2, g0, Bool.eq_iff_iff]; simp; omega), Hf.out⟩
                · have HR6 : Hid (R = (l.toList.isEmpty && nb && (n.length == 1))) := by
                    unfold Hid; rw [HR5.out]; simp at k3; simp [k3]
                  clear HR5
                  rcases q2 : l.toList.isEmpty with _ | _
                  · go_wp2_with fail
                    go_ret
                    exact ⟨ret_bool (by rw [HR6.out, q2]; rfl), Hf.out⟩
                  · cases nb with
                    | false =>
                      go_wp2_with fail
                      go_ret
                      exact ⟨ret_bool (by rw [HR6.out, q2]; rfl), Hf.out⟩
                    | true =>
                      go_wp2_with fail
                      go_ret
                      exact ⟨ret_bool (by rw [HR6.out, q2, Hn1.out]; rfl), Hf.out⟩
              · have HR6 : Hid (R = (l.toList.isEmpty && sb && decide (1 ≤ e) && decide (e ≤ t) && (n.length == 1))) := by
                  unfold Hid; rw [HR5.out]; simp at k2; simp [k2]
                clear HR5
                rcases q2 : l.toList.isEmpty with _ | _
                · go_wp2_with fail
                  go_ret
                  exact ⟨ret_bool (by rw [HR6.out, q2]; rfl), Hf.out⟩
                · cases sb with
                  | false =>
                    go_wp2_with fail
                    go_ret
                    exact ⟨ret_bool (by rw [HR6.out, q2]; rfl), Hf.out⟩
                  | true =>
                    by_cases g1 : 1 ≤ e
                    · by_cases g2 : e ≤ t
                      · go_wp2_with fail
                        go_ret
                        exact ⟨ret_bool (by rw [HR6.out, q2, Hn1.out]; simp; omega), Hf.out⟩
                      · go_wp2_with fail
                        go_ret
                        exact ⟨ret_bool (by rw [HR6.out, q2]; simp; omega), Hf.out⟩
                    · go_wp2_with fail
                      go_ret
                      exact ⟨ret_bool (by rw [HR6.out, q2]; simp; omega), Hf.out⟩
            · have HR6 : Hid (R = ((l.toList.isEmpty || isId l) && nb && (n.length == 0))) := by
                unfold Hid; rw [HR5.out]; simp at k1; simp [k1]
              clear HR5
              rcases q2 : l.toList.isEmpty with _ | _
              · go_wp2_with fail
                refine (r_id l _ (by omega)).mono ?_
                rintro en w4 ⟨rfl, rfl⟩
                cases il : isId l with
                | false =>
                  have Il := Lib.hid il
                  clear il
                  go_wp2_with fail
                  go_ret
                  exact ⟨ret_bool (by rw [HR6.out, q2, Il.out]; rfl), Hf.out⟩
                | true =>
                  have Il := Lib.hid il
                  clear il
                  cases nb with
                  | false =>
                    go_wp2_with fail
                    go_ret
                    exact ⟨ret_bool (by rw [HR6.out, q2, Il.out]; rfl), Hf.out⟩
                  | true =>
                    go_wp2_with fail
                    go_ret
                    exact ⟨ret_bool (by rw [HR6.out, q2, Il.out, Hn0.out]; rfl), Hf.out⟩
              · cases nb with
                | false =>
                  go_wp2_with fail
                  go_ret
                  exact ⟨ret_bool (by rw [HR6.out, q2]; rfl), Hf.out⟩
                | true =>
                  go_wp2_with fail
                  go_ret
                  exact ⟨ret_bool (by rw [HR6.out, q2, Hn0.out]; rfl), Hf.out⟩
        · have hk0' : Hid (k = 0) := by unfold Hid; simpa using hk0
          have HR3 : Hid (R = (i.toList.isEmpty && l.toList.isEmpty && nb && (n.length == 0))) := by
            unfold Hid
            rw [HR2.out, Hnb2.out, He1.out, He2.out, ← Hln.out, hk0'.out]
            simp only [alike, if_true]
          rcases q1 : i.toList.isEmpty with _ | _
          · go_wp2_with fail
            go_ret
            exact ⟨ret_bool (by rw [HR3.out, q1]; rfl), Hf.out⟩
          · rcases q2 : l.toList.isEmpty with _ | _
            · go_wp2_with fail
              go_ret
              exact ⟨ret_bool (by rw [HR3.out, q1, q2]; rfl), Hf.out⟩
            · cases nb with
              | false =>
                go_wp2_with fail
                go_ret
                exact ⟨ret_bool (by rw [HR3.out, q1, q2]; rfl), Hf.out⟩
              | true =>
                go_wp2_with fail
                go_ret
                exact ⟨ret_bool (by rw [HR3.out, q1, q2, len_int]; rfl), Hf.out⟩
theorem r_valid (m d : Nat) (hmm : m ≤ maxLen) : d ≤ 6 → VSpec m d := by
  induction d with
  | zero => exact fun _ => v_zero m hmm
  | succ d ih => exact fun hd => v_succ m d hmm hd (ih (by omega))

set_option maxRecDepth 100000 in
theorem r_Valid (m : Nat) (hmm : m ≤ maxLen) (k s t e : Int) (i l : ByteArray) (n : List Ct) (a : Option Addr) (cap : Nat) (w : World) (X : Nat → Prop) (hsm : SmallAll m (.mk k i l s t e n)) (hin : InAt w X a cap n) :
    Calls Tryz.prog 45 #[.agg #[.int .i64 k, .string i, .string l, .int .i64 s, .int .i64 t, .int .i64 e, .slice a n.length cap]] w fun en w2 => en = .returned (.bool (Ct.mk k i l s t e n).valid) ∧ Fr No w w2 := by
  have h0 : Fr No w (w.alloc (.cells #[.int .i64 k, .string i, .string l, .int .i64 s, .int .i64 t, .int .i64 e, .slice a n.length cap] 48)) := (Fr.refl _ _).alloc _
  have hc := r_valid m 6 hmm (by omega) k s t e i l n a cap _ X hsm (hin.fr h0 (fun _ _ => id))
  rw [rV_valid] at hc
  have hc' : Calls Tryz.prog 71 #[.agg #[.int .i64 k, .string i, .string l, .int .i64 s, .int .i64 t, .int .i64 e, .slice a n.length cap], .int .i64 6] (w.alloc (.cells #[.int .i64 k, .string i, .string l, .int .i64 s, .int .i64 t, .int .i64 e, .slice a n.length cap] 48)) fun en w2 => en = .returned (.bool (Ct.mk k i l s t e n).valid) ∧ Fr No (w.alloc (.cells #[.int .i64 k, .string i, .string l, .int .i64 s, .int .i64 t, .int .i64 e, .slice a n.length cap] 48)) w2 := hc
  generalize (Ct.mk k i l s t e n).valid = R at *
  have H0 := Lib.hid h0
  clear h0 hc
  go_enter Tryz.func45, Tryz.ntmps45
  go_wp2_with fail
  refine hc'.mono ?_
  rintro en w2 ⟨rfl, hf2⟩
  have Hf := Lib.hid (H0.out.step hf2 (fun _ _ h => h))
  clear hf2
  go_wp2_with fail
  go_ret
  exact ⟨rfl, Hf.out⟩
end Go.Proofs.YtcibciippghooaaGreatDoor
