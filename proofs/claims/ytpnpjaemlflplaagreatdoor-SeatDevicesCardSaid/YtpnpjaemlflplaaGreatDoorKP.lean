/- SeatShares: the reference's With (texts); each tagged device is in just one of the seats. Plain. -/
import Derived.Test.YtpnpjaemlflplaaGreatDoorKM
namespace Go.Proofs.YtpnpjaemlflplaaGreatDoor
open Go.RowKit Go.Maps
set_option linter.unusedVariables false

/-- A text stands before another. -/
def ltS (x y : ByteArray) : Prop := Op.bytesLess x.toList y.toList = true
theorem ltS_iff {x y : ByteArray} : ltS x y ↔ bl x < bl y := by
  unfold ltS
  rw [bytesLess_eq, ByteArray.toList_eq, ByteArray.toList_eq]
  unfold bl
  simp
theorem bl_inj {x y : ByteArray} (h : bl x = bl y) : x = y := by rw [← lb_bl x, h, lb_bl]
theorem ltS_trans {x y z : ByteArray} (h1 : ltS x y) (h2 : ltS y z) : ltS x z := by
  rw [ltS_iff] at *; exact List.lt_trans h1 h2
theorem ltS_irrefl (x : ByteArray) : ¬ ltS x x := by rw [ltS_iff]; exact List.lt_irrefl _
theorem ltS_of_ge {x y : ByteArray} (h : ¬ ltS x y) (hne : x ≠ y) : ltS y x := by
  rw [ltS_iff] at *
  exact le_ne_lt (List.not_lt.1 h) (fun e => hne (bl_inj e))
theorem ltS_le {x y z : ByteArray} (h1 : ¬ ltS y x) (h2 : ltS y z) : ltS x z := by
  rw [ltS_iff] at *
  exact List.lt_of_le_of_lt (List.not_lt.1 h1) h2

def wStep (s : ByteArray) (o : List ByteArray × Bool) (x : ByteArray) : List ByteArray × Bool :=
  let o1 := if (!o.2 && !Op.bytesLess x.toList s.toList) = true then (o.1 ++ [s], true) else o
  if (x.toList == s.toList) = true then o1 else (o1.1 ++ [x], o1.2)
def wFold (s : ByteArray) (l : List ByteArray) : List ByteArray × Bool := l.foldl (wStep s) ([], false)
/-- coldplugref32.With. -/
def with32 (l : List ByteArray) (s : ByteArray) : List ByteArray := if (wFold s l).2 = true then (wFold s l).1 else (wFold s l).1 ++ [s]
theorem wFold_snoc (s : ByteArray) (l : List ByteArray) (x : ByteArray) : wFold s (l ++ [x]) = wStep s (wFold s l) x := by
  unfold wFold; rw [List.foldl_append]; rfl
theorem wFold_take {s : ByteArray} {l : List ByteArray} {k : Nat} {x : ByteArray} (h : l[k]? = some x) : wFold s (l.take (k + 1)) = wStep s (wFold s (l.take k)) x := by
  rw [List.take_add_one, h]; exact wFold_snoc s _ x

structure SInv (s : ByteArray) (p : List ByteArray) (o : List ByteArray × Bool) : Prop where
  no : o.2 = false → o.1 = p ∧ ∀ y ∈ p, ltS y s
  yes : o.2 = true → o.1.Pairwise ltS ∧ (∀ y, y ∈ o.1 ↔ y = s ∨ y ∈ p) ∧ ∃ y ∈ p, ¬ ltS y s
theorem SInv.nil (s : ByteArray) : SInv s [] ([], false) := ⟨fun _ => ⟨rfl, by simp⟩, fun e => by cases e⟩
theorem SInv.step {s : ByteArray} {p : List ByteArray} {o : List ByteArray × Bool} {x : ByteArray} (h : SInv s p o) (hp : (p ++ [x]).Pairwise ltS) : SInv s (p ++ [x]) (wStep s o x) := by
  obtain ⟨o1, d⟩ := o
  rw [List.pairwise_append] at hp
  obtain ⟨hp1, -, hp2⟩ := hp
  have hx : ∀ y ∈ p, ltS y x := fun y hy => hp2 y hy x (by simp)
  cases d with
  | false =>
    obtain ⟨e, hlt⟩ := h.no rfl
    simp only at e
    subst e
    by_cases hxs : ltS x s
    · have hne : (x.toList == s.toList) = false := by
        rw [strEq]
        exact decide_eq_false fun e => by subst e; exact ltS_irrefl _ hxs
      have e : wStep s (o1, false) x = (o1 ++ [x], false) := by
        have : Op.bytesLess x.toList s.toList = true := hxs
        simp [wStep, this, hne]
      rw [e]
      refine ⟨fun _ => ⟨rfl, fun y hy => ?_⟩, fun e => by cases e⟩
      rcases List.mem_append.1 hy with h1 | h1
      · exact hlt y h1
      · simp at h1; subst h1; exact hxs
    · have hb : Op.bytesLess x.toList s.toList = false := by
        unfold ltS at hxs; simpa using hxs
      by_cases hne : x = s
      · subst hne
        have e : wStep x (o1, false) x = (o1 ++ [x], true) := by simp [wStep, hb]
        rw [e]
        refine ⟨(fun e => by cases e), fun _ => ⟨?_, ?_, ⟨x, by simp, hxs⟩⟩⟩
        · simp only [List.pairwise_append]; exact ⟨hp1, by simp, fun y hy z hz => by simp at hz; subst hz; exact hx y hy⟩
        · intro y
          simp only [List.mem_append, List.mem_singleton]
          exact ⟨fun h => h.elim (fun a => .inr (.inl a)) .inl, fun h => h.elim .inr (fun h => h)⟩
      · have hq : (x.toList == s.toList) = false := by rw [strEq]; exact decide_eq_false hne
        have e : wStep s (o1, false) x = (o1 ++ [s] ++ [x], true) := by simp [wStep, hb, hq]
        have hsx := ltS_of_ge hxs hne
        rw [e]
        refine ⟨(fun e => by cases e), fun _ => ⟨?_, ?_, ⟨x, by simp, hxs⟩⟩⟩
        · simp only [List.pairwise_append]
          refine ⟨⟨hp1, by simp, fun y hy z hz => by simp at hz; subst hz; exact hlt y hy⟩, by simp, fun y hy z hz => ?_⟩
          simp at hz; subst hz
          rcases List.mem_append.1 hy with h1 | h1
          · exact hx y h1
          · simp at h1; subst h1; exact hsx
        · intro y
          simp only [List.mem_append, List.mem_singleton]
          exact ⟨fun h => h.elim (fun h => h.elim (fun a => .inr (.inl a)) .inl) (fun a => .inr (.inr a)), fun h => h.elim (fun a => .inl (.inr a)) (fun h => h.elim (fun a => .inl (.inl a)) .inr)⟩
  | true =>
    obtain ⟨h1, h2, z, hz, hzs⟩ := h.yes rfl
    have hsx : ltS s x := ltS_le hzs (hx z hz)
    have hne : (x.toList == s.toList) = false := by
      rw [strEq]; exact decide_eq_false fun e => by subst e; exact ltS_irrefl _ hsx
    have e : wStep s (o1, true) x = (o1 ++ [x], true) := by simp [wStep, hne]
    rw [e]
    refine ⟨(fun e => by cases e), fun _ => ⟨?_, ?_, ⟨z, by simp [hz], hzs⟩⟩⟩
    · simp only [List.pairwise_append]
      refine ⟨h1, by simp, fun y hy z hz => ?_⟩
      simp at hz; subst hz
      rcases (h2 y).1 hy with rfl | h3
      · exact hsx
      · exact hx y h3
    · intro y
      have h4 := h2 y
      simp only [List.mem_append, List.mem_singleton]
      exact ⟨fun h => h.elim (fun a => (h4.1 a).elim .inl (fun b => .inr (.inl b))) (fun a => .inr (.inr a)), fun h => h.elim (fun a => .inl (h4.2 (.inl a))) (fun h => h.elim (fun a => .inl (h4.2 (.inr a))) .inr)⟩
theorem wFold_inv (s : ByteArray) : ∀ (q p : List ByteArray) (o : List ByteArray × Bool), (p ++ q).Pairwise ltS → SInv s p o → SInv s (p ++ q) (q.foldl (wStep s) o)
  | [], p, o, _, h => by simpa using h
  | x :: t, p, o, hp, h => by
    have e : p ++ x :: t = (p ++ [x]) ++ t := by simp
    rw [e] at hp ⊢
    exact wFold_inv s t (p ++ [x]) _ hp (h.step (List.pairwise_append.1 hp).1)
theorem with32_ok {l : List ByteArray} (s : ByteArray) (h : l.Pairwise ltS) : (with32 l s).Pairwise ltS ∧ ∀ y, y ∈ with32 l s ↔ y = s ∨ y ∈ l := by
  have hw := wFold_inv s l [] ([], false) (by simpa using h) (SInv.nil s)
  rw [List.nil_append] at hw
  change SInv s l (wFold s l) at hw
  unfold with32
  cases hd : (wFold s l).2 with
  | true => obtain ⟨h1, h2, _⟩ := hw.yes hd; simpa using ⟨h1, h2⟩
  | false =>
    obtain ⟨h1, h2⟩ := hw.no hd
    rw [h1]
    simp only [Bool.false_eq_true, if_false]
    refine ⟨?_, fun y => by simp only [List.mem_append, List.mem_singleton]; exact or_comm⟩
    rw [List.pairwise_append]
    exact ⟨h, by simp, fun y hy z hz => by simp at hz; subst hz; exact h2 y hy⟩
/-- Sorted lists of the same members are the same. -/
theorem sorted_eq : ∀ {l l' : List ByteArray}, l.Pairwise ltS → l'.Pairwise ltS → (∀ y, y ∈ l ↔ y ∈ l') → l = l'
  | [], [], _, _, _ => rfl
  | [], y :: t, _, _, h => by have := (h y).2 (by simp); simp at this
  | x :: t, [], _, _, h => by have := (h x).1 (by simp); simp at this
  | x :: t, y :: u, h1, h2, h => by
    rw [List.pairwise_cons] at h1 h2
    have hxy : x = y := by
      rcases List.mem_cons.1 ((h x).1 (by simp)) with e | hx
      · exact e
      · rcases List.mem_cons.1 ((h y).2 (by simp)) with e | hy
        · exact e.symm
        · exact absurd (ltS_trans (h1.1 y hy) (h2.1 x hx)) (ltS_irrefl _)
    subst hxy
    rw [sorted_eq h1.2 h2.2 (fun z => ?_)]
    have hz := h z
    constructor
    · intro hm
      rcases List.mem_cons.1 (hz.1 (by simp [hm])) with e | h3
      · subst e; exact absurd (h1.1 _ hm) (ltS_irrefl _)
      · exact h3
    · intro hm
      rcases List.mem_cons.1 (hz.2 (by simp [hm])) with e | h3
      · subst e; exact absurd (h2.1 _ hm) (ltS_irrefl _)
      · exact h3
theorem sorted_nodup {l : List ByteArray} (h : l.Pairwise ltS) : l.Nodup := h.imp (fun {a b} h e => by subst e; exact ltS_irrefl _ h)

/-- The seats of some devices, as SeatShares gathers them. -/
def shSeats (ds : List Dev) (l : List Rec) (q : List Dev) : List ByteArray := q.foldl (fun o x => with32 o (seatOf ds l x.index)) []
theorem shSeats_snoc (ds : List Dev) (l : List Rec) (q : List Dev) (x : Dev) : shSeats ds l (q ++ [x]) = with32 (shSeats ds l q) (seatOf ds l x.index) := by
  unfold shSeats; rw [List.foldl_append]; rfl
theorem shSeats_fold (ds : List Dev) (l : List Rec) : ∀ (q : List Dev) (o : List ByteArray), o.Pairwise ltS → (q.foldl (fun o x => with32 o (seatOf ds l x.index)) o).Pairwise ltS ∧ ∀ y, y ∈ q.foldl (fun o x => with32 o (seatOf ds l x.index)) o ↔ y ∈ o ∨ ∃ x ∈ q, y = seatOf ds l x.index
  | [], o, h => ⟨h, by simp⟩
  | x :: t, o, h => by
    obtain ⟨h1, h2⟩ := with32_ok (seatOf ds l x.index) h
    obtain ⟨h3, h4⟩ := shSeats_fold ds l t _ h1
    refine ⟨h3, fun y => ?_⟩
    rw [List.foldl_cons, h4, h2]
    constructor
    · rintro ((e | h) | ⟨z, hz, e⟩)
      · exact .inr ⟨x, by simp, e⟩
      · exact .inl h
      · exact .inr ⟨z, by simp [hz], e⟩
    · rintro (h | ⟨z, hz, e⟩)
      · exact .inl (.inr h)
      · rcases List.mem_cons.1 hz with rfl | hz
        · exact .inl (.inl e)
        · exact .inr ⟨z, hz, e⟩
theorem shSeats_ok (ds : List Dev) (l : List Rec) (q : List Dev) : (shSeats ds l q).Pairwise ltS ∧ ∀ y, y ∈ shSeats ds l q ↔ ∃ x ∈ q, y = seatOf ds l x.index := by
  obtain ⟨h1, h2⟩ := shSeats_fold ds l q [] (by simp)
  exact ⟨h1, fun y => by have := h2 y; simpa [shSeats] using this⟩

theorem filter_one : ∀ {l : List ByteArray} {s : ByteArray}, l.Nodup → s ∈ l → (l.filter fun x => decide (x = s)).length = 1
  | [], s, _, h => by simp at h
  | x :: t, s, hn, h => by
    rw [List.nodup_cons] at hn
    by_cases e : x = s
    · subst e
      rw [List.filter_cons_of_pos (by simp)]
      rw [List.filter_eq_nil_iff.2 (fun y hy => by simp; intro e; subst e; exact hn.1 hy)]
      rfl
    · rw [List.filter_cons_of_neg (by simpa using e)]
      exact filter_one hn.2 (by rcases List.mem_cons.1 h with e2 | h2; exact absurd e2.symm e; exact h2)
/-- How many of the seats have a device. -/
def cntS (ds : List Dev) (l : List Rec) (L : List ByteArray) (i : Int) : Nat := (L.filter fun s => decide (i ∈ taggedL ds l s [tagSeat] ds)).length
theorem cntS_snoc (ds : List Dev) (l : List Rec) (L : List ByteArray) (s : ByteArray) (i : Int) : cntS ds l (L ++ [s]) i = cntS ds l L i + if i ∈ taggedL ds l s [tagSeat] ds then 1 else 0 := by
  unfold cntS
  rw [List.filter_append, List.length_append]
  by_cases h : i ∈ taggedL ds l s [tagSeat] ds
  · simp [h]
  · simp [h]
theorem taggedL_mem (ds : List Dev) (l : List Rec) (s : ByteArray) (vs : List ByteArray) (q : List Dev) (i : Int) : i ∈ taggedL ds l s vs q ↔ i ∈ q.map Dev.index ∧ tagOk ds l vs i = true ∧ seatOf ds l i = s := by
  unfold taggedL
  rw [List.mem_filter]
  unfold inSeat
  rw [Bool.and_eq_true, strEq, decide_eq_true_iff]
theorem shares (ds : List Dev) (l : List Rec) {x : Dev} (hx : x ∈ ds) : cntS ds l (shSeats ds l ds) x.index = if tagOk ds l [tagSeat] x.index = true then 1 else 0 := by
  obtain ⟨h1, h2⟩ := shSeats_ok ds l ds
  unfold cntS
  by_cases h : tagOk ds l [tagSeat] x.index = true
  · rw [if_pos h, ← filter_one (sorted_nodup h1) ((h2 (seatOf ds l x.index)).2 ⟨x, hx, rfl⟩)]
    congr 1
    apply List.filter_congr
    intro s _
    rw [decide_eq_decide, taggedL_mem]
    constructor
    · rintro ⟨_, _, e⟩; exact e.symm
    · rintro rfl; exact ⟨List.mem_map_of_mem hx, h, rfl⟩
  · rw [if_neg h, List.filter_eq_nil_iff.2 (fun s _ => by rw [decide_eq_true_iff, taggedL_mem]; exact fun h2 => h h2.2.1)]
    rfl
end Go.Proofs.YtpnpjaemlflplaaGreatDoor
