/- coldplugref32.With on ascending texts: plain, and the walk. Members in memory: slices of api.Member that are read, rows of them. coldplugref32.IDs. The owners as the reference gathers them. Plain. clash. -/
import Derived.Test.YtbblkknndaoefaaGreatDoorZC3
import Derived.Test.YtbblkknndaoefaaGreatDoorZC4
import Derived.Test.YtbblkknndaoefaaGreatDoorZC6
import Derived.Sort.Walk0
import Derived.Test.YtbblkknndaoefaaGreatDoorZC5
namespace Go.Proofs.YtbblkknndaoefaaGreatDoor
open Go.RowKit Go.Maps Go.Sort
set_option linter.unusedVariables false

def wbl (x : ByteArray) : List UInt8 := x.data.toList
def wlb (x : List UInt8) : ByteArray := ⟨x.toArray⟩
theorem wlb_wbl (x : ByteArray) : wlb (wbl x) = x := by unfold wlb wbl; simp
theorem wle_ne_lt {x y : List UInt8} (h : x ≤ y) (hne : y ≠ x) : x < y := by
  apply Classical.byContradiction
  intro hn
  exact hne (List.le_antisymm (List.not_lt.1 hn) h)
/-- A text stands before another. -/
def ltS (x y : ByteArray) : Prop := Op.bytesLess x.toList y.toList = true
theorem ltS_iff {x y : ByteArray} : ltS x y ↔ wbl x < wbl y := by
  unfold ltS
  rw [bytesLess_eq, ByteArray.toList_eq, ByteArray.toList_eq]
  unfold wbl
  simp
theorem wbl_inj {x y : ByteArray} (h : wbl x = wbl y) : x = y := by rw [← wlb_wbl x, h, wlb_wbl]
theorem ltS_trans {x y z : ByteArray} (h1 : ltS x y) (h2 : ltS y z) : ltS x z := by
  rw [ltS_iff] at *; exact List.lt_trans h1 h2
theorem ltS_irrefl (x : ByteArray) : ¬ ltS x x := by rw [ltS_iff]; exact List.lt_irrefl _
theorem ltS_of_ge {x y : ByteArray} (h : ¬ ltS x y) (hne : x ≠ y) : ltS y x := by
  rw [ltS_iff] at *
  exact wle_ne_lt (List.not_lt.1 h) (fun e => hne (wbl_inj e))
theorem ltS_le {x y z : ByteArray} (h1 : ¬ ltS y x) (h2 : ltS y z) : ltS x z := by
  rw [ltS_iff] at *
  exact List.lt_of_le_of_lt (List.not_lt.1 h1) h2

def wStep (s : ByteArray) (o : List ByteArray × Bool) (x : ByteArray) : List ByteArray × Bool :=
  let o1 := if (!o.2 && !Op.bytesLess x.toList s.toList) = true then (o.1 ++ [s], true) else o
  if (x.toList == s.toList) = true then o1 else (o1.1 ++ [x], o1.2)
def wFold (s : ByteArray) (l : List ByteArray) : List ByteArray × Bool := l.foldl (wStep s) ([], false)
/-- coldplugref32.With. -/
def with32 (l : List ByteArray) (s : ByteArray) : List ByteArray := if (wFold s l).2 = true then (wFold s l).1 else (wFold s l).1 ++ [s]
theorem wFold_snoc (s : ByteArray) (l : List ByteArray) (x : ByteArray) : wFold s (l ++ [x]) = wStep s (wFold s l) x := by
  unfold wFold; rw [List.foldl_append]; rfl
theorem wFold_take {s : ByteArray} {l : List ByteArray} {k : Nat} {x : ByteArray} (h : l[k]? = some x) : wFold s (l.take (k + 1)) = wStep s (wFold s (l.take k)) x := by
  rw [List.take_add_one, h]; exact wFold_snoc s _ x

structure SInv (s : ByteArray) (p : List ByteArray) (o : List ByteArray × Bool) : Prop where
  no : o.2 = false → o.1 = p ∧ ∀ y ∈ p, ltS y s
  yes : o.2 = true → o.1.Pairwise ltS ∧ (∀ y, y ∈ o.1 ↔ y = s ∨ y ∈ p) ∧ ∃ y ∈ p, ¬ ltS y s
theorem SInv.nil (s : ByteArray) : SInv s [] ([], false) := ⟨fun _ => ⟨rfl, by simp⟩, fun e => by cases e⟩
theorem SInv.step {s : ByteArray} {p : List ByteArray} {o : List ByteArray × Bool} {x : ByteArray} (h : SInv s p o) (hp : (p ++ [x]).Pairwise ltS) : SInv s (p ++ [x]) (wStep s o x) := by
  obtain ⟨o1, d⟩ := o
  rw [List.pairwise_append] at hp
  obtain ⟨hp1, -, hp2⟩ := hp
  have hx : ∀ y ∈ p, ltS y x := fun y hy => hp2 y hy x (by simp)
  cases d with
  | false =>
    obtain ⟨e, hlt⟩ := h.no rfl
    simp only at e
    subst e
    by_cases hxs : ltS x s
    · have hne : (x.toList == s.toList) = false := by
        rw [strEq]
        exact decide_eq_false fun e => by subst e; exact ltS_irrefl _ hxs
      have e : wStep s (o1, false) x = (o1 ++ [x], false) := by
        have : Op.bytesLess x.toList s.toList = true := hxs
        simp [wStep, this, hne]
      rw [e]
      refine ⟨fun _ => ⟨rfl, fun y hy => ?_⟩, fun e => by cases e⟩
      rcases List.mem_append.1 hy with h1 | h1
      · exact hlt y h1
      · simp at h1; subst h1; exact hxs
    · have hb : Op.bytesLess x.toList s.toList = false := by
        unfold ltS at hxs; simpa using hxs
      by_cases hne : x = s
      · subst hne
        have e : wStep x (o1, false) x = (o1 ++ [x], true) := by simp [wStep, hb]
        rw [e]
        refine ⟨(fun e => by cases e), fun _ => ⟨?_, ?_, ⟨x, by simp, hxs⟩⟩⟩
        · simp only [List.pairwise_append]; exact ⟨hp1, by simp, fun y hy z hz => by simp at hz; subst hz; exact hx y hy⟩
        · intro y
          simp only [List.mem_append, List.mem_singleton]
          exact ⟨fun h => h.elim (fun a => .inr (.inl a)) .inl, fun h => h.elim .inr (fun h => h)⟩
      · have hq : (x.toList == s.toList) = false := by rw [strEq]; exact decide_eq_false hne
        have e : wStep s (o1, false) x = (o1 ++ [s] ++ [x], true) := by simp [wStep, hb, hq]
        have hsx := ltS_of_ge hxs hne
        rw [e]
        refine ⟨(fun e => by cases e), fun _ => ⟨?_, ?_, ⟨x, by simp, hxs⟩⟩⟩
        · simp only [List.pairwise_append]
          refine ⟨⟨hp1, by simp, fun y hy z hz => by simp at hz; subst hz; exact hlt y hy⟩, by simp, fun y hy z hz => ?_⟩
          simp at hz; subst hz
          rcases List.mem_append.1 hy with h1 | h1
          · exact hx y h1
          · simp at h1; subst h1; exact hsx
        · intro y
          simp only [List.mem_append, List.mem_singleton]
          exact ⟨fun h => h.elim (fun h => h.elim (fun a => .inr (.inl a)) .inl) (fun a => .inr (.inr a)), fun h => h.elim (fun a => .inl (.inr a)) (fun h => h.elim (fun a => .inl (.inl a)) .inr)⟩
  | true =>
    obtain ⟨h1, h2, z, hz, hzs⟩ := h.yes rfl
    have hsx : ltS s x := ltS_le hzs (hx z hz)
    have hne : (x.toList == s.toList) = false := by
      rw [strEq]; exact decide_eq_false fun e => by subst e; exact ltS_irrefl _ hsx
    have e : wStep s (o1, true) x = (o1 ++ [x], true) := by simp [wStep, hne]
    rw [e]
    refine ⟨(fun e => by cases e), fun _ => ⟨?_, ?_, ⟨z, by simp [hz], hzs⟩⟩⟩
    · simp only [List.pairwise_append]
      refine ⟨h1, by simp, fun y hy z hz => ?_⟩
      simp at hz; subst hz
      rcases (h2 y).1 hy with rfl | h3
      · exact hsx
      · exact hx y h3
    · intro y
      have h4 := h2 y
      simp only [List.mem_append, List.mem_singleton]
      exact ⟨fun h => h.elim (fun a => (h4.1 a).elim .inl (fun b => .inr (.inl b))) (fun a => .inr (.inr a)), fun h => h.elim (fun a => .inl (h4.2 (.inl a))) (fun h => h.elim (fun a => .inl (h4.2 (.inr a))) .inr)⟩
theorem wFold_inv (s : ByteArray) : ∀ (q p : List ByteArray) (o : List ByteArray × Bool), (p ++ q).Pairwise ltS → SInv s p o → SInv s (p ++ q) (q.foldl (wStep s) o)
  | [], p, o, _, h => by simpa using h
  | x :: t, p, o, hp, h => by
    have e : p ++ x :: t = (p ++ [x]) ++ t := by simp
    rw [e] at hp ⊢
    exact wFold_inv s t (p ++ [x]) _ hp (h.step (List.pairwise_append.1 hp).1)
theorem with32_ok {l : List ByteArray} (s : ByteArray) (h : l.Pairwise ltS) : (with32 l s).Pairwise ltS ∧ ∀ y, y ∈ with32 l s ↔ y = s ∨ y ∈ l := by
  have hw := wFold_inv s l [] ([], false) (by simpa using h) (SInv.nil s)
  rw [List.nil_append] at hw
  change SInv s l (wFold s l) at hw
  unfold with32
  cases hd : (wFold s l).2 with
  | true => obtain ⟨h1, h2, _⟩ := hw.yes hd; simpa using ⟨h1, h2⟩
  | false =>
    obtain ⟨h1, h2⟩ := hw.no hd
    rw [h1]
    simp only [Bool.false_eq_true, if_false]
    refine ⟨?_, fun y => by simp only [List.mem_append, List.mem_singleton]; exact or_comm⟩
    rw [List.pairwise_append]
    exact ⟨h, by simp, fun y hy z hz => by simp at hz; subst hz; exact h2 y hy⟩
/-- Sorted lists of the same members are the same. -/
theorem sorted_eq : ∀ {l l' : List ByteArray}, l.Pairwise ltS → l'.Pairwise ltS → (∀ y, y ∈ l ↔ y ∈ l') → l = l'
  | [], [], _, _, _ => rfl
  | [], y :: t, _, _, h => by have := (h y).2 (by simp); simp at this
  | x :: t, [], _, _, h => by have := (h x).1 (by simp); simp at this
  | x :: t, y :: u, h1, h2, h => by
    rw [List.pairwise_cons] at h1 h2
    have hxy : x = y := by
      rcases List.mem_cons.1 ((h x).1 (by simp)) with e | hx
      · exact e
      · rcases List.mem_cons.1 ((h y).2 (by simp)) with e | hy
        · exact e.symm
        · exact absurd (ltS_trans (h1.1 y hy) (h2.1 x hx)) (ltS_irrefl _)
    subst hxy
    rw [sorted_eq h1.2 h2.2 (fun z => ?_)]
    have hz := h z
    constructor
    · intro hm
      rcases List.mem_cons.1 (hz.1 (by simp [hm])) with e | h3
      · subst e; exact absurd (h1.1 _ hm) (ltS_irrefl _)
      · exact h3
    · intro hm
      rcases List.mem_cons.1 (hz.2 (by simp [hm])) with e | h3
      · subst e; exact absurd (h2.1 _ hm) (ltS_irrefl _)
      · exact h3
theorem sorted_nodup {l : List ByteArray} (h : l.Pairwise ltS) : l.Nodup := h.imp (fun {a b} h e => by subst e; exact ltS_irrefl _ h)

theorem wStep_t {s x : ByteArray} (o : List ByteArray) (h : (x.toList == s.toList) = false) : wStep s (o, true) x = (o ++ [x], true) := by simp [wStep, h]
theorem wStep_lt {s x : ByteArray} (o : List ByteArray) (h1 : Op.bytesLess x.toList s.toList = true) (h : (x.toList == s.toList) = false) : wStep s (o, false) x = (o ++ [x], false) := by simp [wStep, h, h1]
theorem wStep_eq (s : ByteArray) (o : List ByteArray) (h1 : Op.bytesLess s.toList s.toList = false) : wStep s (o, false) s = (o ++ [s], true) := by simp [wStep, h1]
theorem wStep_gt {s x : ByteArray} (o : List ByteArray) (h1 : Op.bytesLess x.toList s.toList = false) (h : (x.toList == s.toList) = false) : wStep s (o, false) x = (o ++ [s] ++ [x], true) := by simp [wStep, h, h1]
theorem wStep_len (s : ByteArray) (o : List ByteArray × Bool) (x : ByteArray) : (wStep s o x).1.length ≤ o.1.length + 2 := by
  unfold wStep
  split <;> split <;> simp
theorem foldl_wlen (s : ByteArray) : ∀ (l : List ByteArray) (o : List ByteArray × Bool), (l.foldl (wStep s) o).1.length ≤ o.1.length + 2 * l.length
  | [], o => by simp
  | x :: t, o => by
    have h1 := foldl_wlen s t (wStep s o x)
    have h2 := wStep_len s o x
    simp only [List.foldl_cons, List.length_cons]
    omega
theorem wFold_len (s : ByteArray) (l : List ByteArray) : (wFold s l).1.length ≤ 2 * l.length := by
  have := foldl_wlen s l ([], false)
  simpa [wFold] using this
def wPot (o : List ByteArray × Bool) : Nat := o.1.length + if o.2 = true then 0 else 1
theorem wStep_pot (s : ByteArray) (o : List ByteArray × Bool) (x : ByteArray) : wPot (wStep s o x) ≤ wPot o + 1 := by
  obtain ⟨o, d⟩ := o
  unfold wStep wPot
  cases d <;> cases Op.bytesLess x.toList s.toList <;> cases (x.toList == s.toList) <;> simp
theorem foldl_pot (s : ByteArray) : ∀ (l : List ByteArray) (o : List ByteArray × Bool), wPot (l.foldl (wStep s) o) ≤ wPot o + l.length
  | [], o => by simp
  | x :: t, o => by
    have h1 := foldl_pot s t (wStep s o x)
    have h2 := wStep_pot s o x
    simp only [List.foldl_cons, List.length_cons]
    omega
theorem with32_len (l : List ByteArray) (s : ByteArray) : (with32 l s).length ≤ l.length + 1 := by
  have h : wPot (wFold s l) ≤ wPot ([], false) + l.length := foldl_pot s l ([], false)
  unfold wPot at h
  unfold with32
  cases hd : (wFold s l).2 with
  | true => simp [hd] at h ⊢; omega
  | false => simp [hd] at h ⊢; omega
theorem wFold_sinv {s : ByteArray} {l : List ByteArray} (hs : l.Pairwise ltS) : SInv s l (wFold s l) := by
  have hw := wFold_inv s l [] ([], false) (by simpa using hs) (SInv.nil s)
  rwa [List.nil_append] at hw
theorem lt_false {x y : ByteArray} (h : ¬ ltS x y) : Op.bytesLess x.toList y.toList = false := by unfold ltS at h; simpa using h
theorem ne_false {x s : ByteArray} (h : x ≠ s) : (x.toList == s.toList) = false := by rw [strEq]; exact decide_eq_false h
theorem sorted_front {l : List ByteArray} {k : Nat} {x : ByteArray} (h : l.Pairwise ltS) (hk : l[k]? = some x) : ∀ y ∈ l.take k, ltS y x := by
  intro y hy
  have h2 : (l.take (k + 1)).Pairwise ltS := List.Pairwise.sublist (List.take_sublist _ _) h
  rw [List.take_add_one, hk] at h2
  exact (List.pairwise_append.1 h2).2.2 y hy x (by simp)

set_option maxRecDepth 100000 in
set_option maxHeartbeats 4000000 in
theorem ref_with32 (a : Option Addr) (cap : Nat) (l : List ByteArray) (s : ByteArray) (w : World) (hl : Strs w a cap l) (hs : l.Pairwise ltS) (hb : l.length ≤ 1000000) :
    Calls Tryz.prog 103 #[.slice a l.length cap, .string s] w fun e w' => (∃ a' cap', e = .returned (.slice a' (with32 l s).length cap') ∧ Strs w' a' cap' (with32 l s) ∧ ∀ ad, a' = some ad → w.heap.size ≤ ad.block) ∧ Fr No w w' := by
  obtain ⟨i0, hi, hz0, hz1, hz2⟩ := info_parts infoS
  go_enter Tryz.func103, Tryz.ntmps103
  go_wp2_with fail
  go_loopw [5, 6, 7] (fun v dn i wr => ∃ (k : Nat) (m : List ByteArray) (d : Bool), k ≤ l.length ∧ i = .int .i64 (k : Int) ∧ dn = .bool d ∧ Hid (wFold s (l.take k) = (m, d)) ∧ wr.ownsRow w.heap.size 9 1 v m.length (m.map Value.string) ∧ Fr (From w.heap.size) w wr) (fun _ _ i _ => l.length - (intOf i).toNat)
  case atStart => exact ⟨0, [], false, by omega, rfl, rfl, by unfold Hid; rfl, World.ownsRow_nil _ _ _ _, Fr.refl _ _⟩
  case round =>
    obtain ⟨k, m, d, hk, rfl, rfl, HW, hown, hfr⟩ := hrel
    have hsz := hfr.size
    have hml : m.length ≤ 2000000 := by have := wFold_len s (l.take k); rw [HW.out] at this; simp at this; omega
    by_cases hlt : k < l.length
    · have hlt' : (k : Int) < l.length := by omega
      obtain ⟨b, off, x, rfl, hx, hc⟩ := (hl.keep hfr (fun b hb h => by unfold From at h; omega)).at hlt
      have hbB : ¬ From w.heap.size b := by
        have := (hl.cell _ rfl (by intro e; rw [e] at hlt; simp at hlt)).2.1
        simp only at this
        unfold From; omega
      have Hst : Hid (wFold s (l.take (k + 1)) = wStep s (m, d) x) := by unfold Hid; rw [wFold_take hx, HW.out]
      have Hin : Hid (SInv s (l.take k) (m, d)) := by unfold Hid; rw [← HW.out]; exact wFold_sinv (hs.sublist (List.take_sublist _ _))
      have Hfr : Hid (∀ y ∈ l.take k, ltS y x) := sorted_front hs hx
      clear hx
      cases d with
      | true =>
        have hne : (x.toList == s.toList) = false := by
          obtain ⟨-, -, z, hz, hzs⟩ := Hin.out.yes rfl
          exact ne_false (fun e => by subst e; exact hzs (Hfr.out z hz))
        have HW' : Hid (wFold s (l.take (k + 1)) = (m ++ [x], true)) := by unfold Hid; rw [Hst.out, wStep_t m hne]
        go_wp2_with (at_builtin; refine wpList_append_own _ rfl _ _ 33 rfl w.heap.size 9 i0 (.string ByteArray.empty) 1 16 Tryz.underlying33 hi hz0 hz1 hz2 rfl (by decide) _ _ _ rfl (hown.alloc _) ⟨wr.heap.size, 0, none⟩ 1 1 [.string x] rfl rfl (cell_one_new _ _ _) (strs_one [x]) (by unfold maxLen; omega) (by omega) (by simp; omega) ?_; intro v' w1 hown1 hgrow1 _)
        go_roundw
        case rel => exact ⟨k + 1, m ++ [x], true, by omega, by go_num, rfl, HW', by simpa using hown1, hfr.step (grown_fr hown hgrow1) (fun _ _ h => h)⟩
        case measure => simp [intOf]; omega
      | false =>
        by_cases hxs : ltS x s
        · have hne : (x.toList == s.toList) = false := ne_false (fun e => by subst e; exact ltS_irrefl _ hxs)
          have hb2 : Op.bytesLess x.toList s.toList = true := hxs
          have HW' : Hid (wFold s (l.take (k + 1)) = (m ++ [x], false)) := by unfold Hid; rw [Hst.out, wStep_lt m hb2 hne]
          have hq1 : Op.bytesLess s.toList x.toList = false := lt_false (fun h => ltS_irrefl _ (ltS_trans hxs h))
          have hq2 : (s.toList == x.toList) = false := ne_false (fun e => by subst e; exact ltS_irrefl _ hxs)
          clear hxs
          go_wp2_with (at_builtin; refine wpList_append_own _ rfl _ _ 33 rfl w.heap.size 9 i0 (.string ByteArray.empty) 1 16 Tryz.underlying33 hi hz0 hz1 hz2 rfl (by decide) _ _ _ rfl (hown.alloc _) ⟨wr.heap.size, 0, none⟩ 1 1 [.string x] rfl rfl (cell_one_new _ _ _) (strs_one [x]) (by unfold maxLen; omega) (by omega) (by simp; omega) ?_; intro v' w1 hown1 hgrow1 _)
          go_roundw
          case rel => exact ⟨k + 1, m ++ [x], false, by omega, by go_num, rfl, HW', by simpa using hown1, hfr.step (grown_fr hown hgrow1) (fun _ _ h => h)⟩
          case measure => simp [intOf]; omega
        · have hb2 := lt_false hxs
          by_cases hxe : x = s
          · subst hxe
            have hb : (x.toList == x.toList) = true := by simp
            have HW' : Hid (wFold x (l.take (k + 1)) = (m ++ [x], true)) := by unfold Hid; rw [Hst.out, wStep_eq x m hb2]
            clear hxs
            go_wp2_with (at_builtin; refine wpList_append_own _ rfl _ _ 33 rfl w.heap.size 9 i0 (.string ByteArray.empty) 1 16 Tryz.underlying33 hi hz0 hz1 hz2 rfl (by decide) _ _ _ rfl (hown.alloc _) ⟨wr.heap.size, 0, none⟩ 1 1 [.string x] rfl rfl (cell_one_new _ _ _) (strs_one [x]) (by unfold maxLen; omega) (by omega) (by simp; omega) ?_; intro v' w1 hown1 hgrow1 _; have hc1 := (grown_fr hown hgrow1).cell hc hbB)
            go_roundw
            case rel => exact ⟨k + 1, m ++ [x], true, by omega, by go_num, rfl, HW', by simpa using hown1, hfr.step (grown_fr hown hgrow1) (fun _ _ h => h)⟩
            case measure => simp [intOf]; omega
          · have hne := ne_false hxe
            have HW' : Hid (wFold s (l.take (k + 1)) = (m ++ [s] ++ [x], true)) := by unfold Hid; rw [Hst.out, wStep_gt m hb2 hne]
            have hq1 : Op.bytesLess s.toList x.toList = true := ltS_of_ge hxs hxe
            clear hxs hxe
            go_wp2_with (first
              | (at_builtin; refine wpList_append_own _ rfl (.tmp 24) (.tmp 26) 33 rfl w.heap.size 9 i0 (.string ByteArray.empty) 1 16 Tryz.underlying33 hi hz0 hz1 hz2 rfl (by decide) _ _ _ rfl (hown.alloc _) ⟨wr.heap.size, 0, none⟩ 1 1 [.string s] rfl rfl (cell_one_new _ _ _) (strs_one [s]) (by unfold maxLen; omega) (by omega) (by simp; omega) ?_; intro v' w1 hown1 hgrow1 _; have hc1 := (grown_fr hown hgrow1).cell hc hbB; have hsz1 := hgrow1.size; rw [World.size_alloc] at hsz1)
              | (at_builtin; refine wpList_append_own _ rfl (.tmp 34) (.tmp 39) 33 rfl w.heap.size 9 i0 (.string ByteArray.empty) 1 16 Tryz.underlying33 hi hz0 hz1 hz2 rfl (by decide) _ _ _ rfl (hown1.alloc _) ⟨w1.heap.size, 0, none⟩ 1 1 [.string x] rfl rfl (cell_one_new _ _ _) (strs_one [x]) (by unfold maxLen; omega) (by omega) (by simp; omega) ?_; intro v'' w2 hown2 hgrow2 _))
            go_roundw
            case rel => exact ⟨k + 1, m ++ [s] ++ [x], true, by omega, by go_num, rfl, HW', by simpa using hown2, (hfr.step (grown_fr hown hgrow1) (fun _ _ h => h)).step (grown_fr hown1 hgrow2) (fun _ _ h => h)⟩
            case measure => simp [intOf]; omega
    · have hout := HW.out
      rw [List.take_of_length_le (by omega)] at hout
      have Hout := Lib.hid hout
      clear hout
      cases d with
      | true =>
        have He : Hid (with32 l s = m) := by unfold Hid with32; rw [Hout.out]; rfl
        go_wp2_with fail
        go_ret
        obtain ⟨a', cap', hv, hI, hfresh⟩ := Strs.of_own hown
        rw [He.out]
        exact ⟨⟨a', cap', by rw [← hv]; rfl, hI, hfresh⟩, hfr.mono (fun b hb h => by unfold From at h; omega)⟩
      | false =>
        have He : Hid (with32 l s = m ++ [s]) := by unfold Hid with32; rw [Hout.out]; rfl
        go_wp2_with (at_builtin; refine wpList_append_own _ rfl _ _ 33 rfl w.heap.size 9 i0 (.string ByteArray.empty) 1 16 Tryz.underlying33 hi hz0 hz1 hz2 rfl (by decide) _ _ _ rfl (hown.alloc _) ⟨wr.heap.size, 0, none⟩ 1 1 [.string s] rfl rfl (cell_one_new _ _ _) (strs_one [s]) (by unfold maxLen; omega) (by omega) (by simp; omega) ?_; intro v' w1 hown1 hgrow1 _)
        go_ret
        have hown2 : w1.ownsRow w.heap.size 9 1 v' (m ++ [s]).length ((m ++ [s]).map Value.string) := by simpa using hown1
        obtain ⟨a', cap', hv, hI, hfresh⟩ := Strs.of_own hown2
        rw [He.out]
        exact ⟨⟨a', cap', by rw [← hv]; rfl, hI, hfresh⟩, (hfr.step (grown_fr hown hgrow1) (fun _ _ h => h)).mono (fun b hb h => by unfold From at h; omega)⟩
end Go.Proofs.YtbblkknndaoefaaGreatDoor
namespace Go.Proofs.YtbblkknndaoefaaGreatDoor
open Go.RowKit Go.Maps
set_option linter.unusedVariables false

structure Mems (w : World) (a : Option Addr) (cap : Nat) (L : List Mem) : Prop where
  len : L.length ≤ cap
  max : cap ≤ maxLen
  isNil : a = none → L = [] ∧ cap = 0
  ok : ∀ m ∈ L, Strs w m.a m.c m.l
  cell : ∀ ad, a = some ad → L ≠ [] → ad.spot = none ∧ ad.block < w.heap.size ∧ ∀ i m, L[i]? = some m → ∀ j, j < 7 → w.cell? ⟨ad.block, ad.off + (i * 7 + j), none⟩ = m.vals[j]?
/-- The seven cells of a member at (b, o). -/
structure MemAt (w : World) (b o : Nat) (m : Mem) : Prop where
  c0 : w.cell? ⟨b, o, none⟩ = some (.string m.p)
  c1 : w.cell? ⟨b, o + 1, none⟩ = some (.string m.i)
  c2 : w.cell? ⟨b, o + 2, none⟩ = some (.int .i64 m.r)
  c3 : w.cell? ⟨b, o + 3, none⟩ = some (.int .i64 m.s)
  c4 : w.cell? ⟨b, o + 4, none⟩ = some (.int .i64 m.t)
  c5 : w.cell? ⟨b, o + 5, none⟩ = some (.int .i64 m.e)
  c6 : w.cell? ⟨b, o + 6, none⟩ = some (.slice m.a m.l.length m.c)
theorem Mems.elem {w : World} {a : Option Addr} {cap : Nat} {L : List Mem} (h : Mems w a cap L) {k : Nat} (hk : k < L.length) :
    ∃ b off m, a = some ⟨b, off, none⟩ ∧ L[k]? = some m ∧ Strs w m.a m.c m.l ∧ MemAt w b (off + k * 7) m ∧ b < w.heap.size := by
  cases a with
  | none => obtain ⟨rfl, _⟩ := h.isNil rfl; simp at hk
  | some ad =>
    obtain ⟨b, off, sp⟩ := ad
    obtain ⟨h1, h2, h3⟩ := h.cell _ rfl (by intro e; subst e; simp at hk)
    simp at h1; subst h1
    have hc := h3 k _ (List.getElem?_eq_getElem hk)
    exact ⟨b, off, L[k], rfl, List.getElem?_eq_getElem hk, h.ok _ (List.getElem_mem hk), ⟨hc 0 (by omega), hc 1 (by omega), hc 2 (by omega), hc 3 (by omega), hc 4 (by omega), hc 5 (by omega), hc 6 (by omega)⟩, h2⟩
theorem Mems.lenmax {w : World} {a : Option Addr} {cap : Nat} {L : List Mem} (h : Mems w a cap L) : L.length ≤ 9223372036854775807 := by
  have h1 := h.len; have h2 := h.max; unfold maxLen at h2; omega
theorem Mems.fr {S : Nat → Prop} {w w' : World} {a : Option Addr} {cap : Nat} {L : List Mem} (h : Mems w a cap L) (hf : Fr S w w') (hS : ∀ ad, a = some ad → L ≠ [] → ¬ S ad.block) (hM : ∀ m ∈ L, ∀ ad, m.a = some ad → m.l ≠ [] → ¬ S ad.block) : Mems w' a cap L :=
  ⟨h.len, h.max, h.isNil, fun m hm => (h.ok m hm).fr hf (hM m hm), fun ad e hne => by
    obtain ⟨h1, h2, h3⟩ := h.cell ad e hne
    refine ⟨h1, Nat.lt_of_lt_of_le h2 hf.size, fun i m hi j hj => ?_⟩
    rw [← h3 i m hi j hj]
    exact World.cell?_of_block (hf.block _ h2 (hS ad e hne))⟩
theorem Mems.no {S : Nat → Prop} {w w' : World} {a : Option Addr} {cap : Nat} {L : List Mem} (h : Mems w a cap L) (hf : Fr S w w') (hS : ∀ k, ¬ S k) : Mems w' a cap L := h.fr hf (fun _ _ _ => hS _) (fun _ _ _ _ _ => hS _)
theorem Mems.keep {S : Nat → Prop} {w w' : World} {a : Option Addr} {cap : Nat} {L : List Mem} (h : Mems w a cap L) (hf : Fr S w w') (hS : ∀ b, b < w.heap.size → ¬ S b) : Mems w' a cap L :=
  h.fr hf (fun ad e hne => hS _ (h.cell ad e hne).2.1) (fun m hm ad e hne => hS _ ((h.ok m hm).cell ad e hne).2.1)
theorem Mems.nil (w : World) : Mems w none 0 [] := ⟨by simp, by simp, fun _ => ⟨rfl, rfl⟩, by simp, fun _ e _ => by cases e⟩
theorem infoM : (Tryz.prog.info? 58).map (fun i => (i.zero, i.size, i.bytes)) = some (some (.agg #[.string ByteArray.empty, .string ByteArray.empty, .int .i64 0, .int .i64 0, .int .i64 0, .int .i64 0, .slice none 0 0]), 7, 88) := by kernel_rfl
def mflat (L : List Mem) : List Value := L.flatMap (fun m => m.vals.toList)
theorem mflat_snoc (L : List Mem) (m : Mem) : mflat (L ++ [m]) = mflat L ++ m.vals.toList := by simp [mflat]
theorem mvals_one (m : Mem) : ∀ u ∈ m.vals.toList, u.oneCell' = true := by
  intro u hu
  simp [Mem.vals] at hu
  rcases hu with rfl | rfl | rfl | rfl | rfl | rfl | rfl <;> rfl
theorem mflat_at : ∀ (L : List Mem) (i : Nat) (m : Mem), L[i]? = some m → ∀ j, j < 7 → (mflat L)[i * 7 + j]? = m.vals[j]?
  | [], i, m, h, j, hj => by simp at h
  | x :: t, 0, m, h, j, hj => by
    simp at h; subst h
    have : mflat (x :: t) = x.vals.toList ++ mflat t := by simp [mflat]
    rw [this, List.getElem?_append_left (by simp [Mem.vals]; omega)]
    simp
  | x :: t, i + 1, m, h, j, hj => by
    have : mflat (x :: t) = x.vals.toList ++ mflat t := by simp [mflat]
    rw [this, List.getElem?_append_right (by simp [Mem.vals]; omega), show (i + 1) * 7 + j - x.vals.toList.length = i * 7 + j from by simp [Mem.vals]; omega]
    exact mflat_at t i m (by simpa using h) j hj
theorem mflat_len (L : List Mem) : (mflat L).length = L.length * 7 := by
  induction L with
  | nil => rfl
  | cons d t ih =>
    have : mflat (d :: t) = d.vals.toList ++ mflat t := by simp [mflat]
    rw [this, List.length_append, ih]
    simp [Mem.vals]; omega
theorem Mems.of_own {w : World} {base : Nat} {e : TypeId} {v : Value} {L : List Mem} (h : w.ownsRow base e 7 v L.length (mflat L)) (hok : ∀ m ∈ L, Strs w m.a m.c m.l) :
    ∃ a cap, v = .slice a L.length cap ∧ Mems w a cap L ∧ ∀ ad, a = some ad → base ≤ ad.block := by
  obtain ⟨_, ⟨rfl, h2⟩ | ⟨g, cap, cur, rfl, hg, hb, h1, h2, h3, h4⟩⟩ := h
  · have : L = [] := List.eq_nil_of_length_eq_zero h2
    subst this
    exact ⟨none, 0, rfl, Mems.nil w, fun _ e => by cases e⟩
  · refine ⟨some ⟨g, 0, none⟩, cap, rfl, ⟨h1, h2, (fun e => by cases e), hok, ?_⟩, fun ad e => by cases e; exact hg⟩
    intro ad e hne
    cases e
    refine ⟨rfl, lt_of_block hb, fun i m hi j hj => ?_⟩
    rw [cell_of_block hb]
    simp only [Nat.zero_add]
    have hlt : i < L.length := (List.getElem?_eq_some_iff.1 hi).1
    have e1 : (cur.toList.take (L.length * 7))[i * 7 + j]? = (mflat L)[i * 7 + j]? := by rw [h4]
    rw [List.getElem?_take_of_lt (by omega), mflat_at L i m hi j hj] at e1
    rw [← Array.getElem?_toList, e1]
theorem Mems.of_block {w : World} {b : Nat} {L : List Mem} {T : TypeId} {fz : Nat × Nat} (h : w.heap[b]? = some (.cells (mflat L).toArray T fz)) (hm : L.length ≤ maxLen) (hok : ∀ m ∈ L, Strs w m.a m.c m.l) : Mems w (some ⟨b, 0, none⟩) L.length L := by
  refine ⟨Nat.le_refl _, hm, (fun e => by cases e), hok, fun ad e hne => ?_⟩
  cases e
  refine ⟨rfl, lt_of_block h, fun i m hi j hj => ?_⟩
  rw [cell_of_block h]
  simp only [Nat.zero_add]
  rw [← mflat_at L i m hi j hj]
  simp
/-- Members of the call's own: their inner texts lie in new blocks of texts. -/
def MFresh (w : World) (base : Nat) (L : List Mem) : Prop := ∀ m ∈ L, Strs w m.a m.c m.l ∧ BlkT w m.a 9 ∧ ∀ ad, m.a = some ad → base ≤ ad.block
theorem MFresh.fr {S : Nat → Prop} {w w' : World} {base : Nat} {L : List Mem} (h : MFresh w base L) (hf : Fr S w w') (hS : ∀ b, base ≤ b → b < w.heap.size → ¬ S b) : MFresh w' base L := fun m hm => by
  obtain ⟨h1, h2, h3⟩ := h m hm
  have hk : ∀ ad, m.a = some ad → ¬ S ad.block := fun ad e => by obtain ⟨cs, hc⟩ := h2 ad e; exact hS _ (h3 ad e) (lt_of_block hc)
  exact ⟨h1.fr hf (fun ad e _ => hk ad e), h2.fr hf hk, h3⟩
theorem MFresh.own {w w' : World} {base b0 : Nat} {L : List Mem} {v : Value} {n : Nat} {xs : List Value} (h : MFresh w base L) (ho : w.ownsRow b0 58 7 v n xs) (hf : Fr (fun b => v.ownBlock = some b) w w') : MFresh w' base L := fun m hm => by
  obtain ⟨h1, h2, h3⟩ := h m hm
  have hk := BlkT.ne ho h2 (by decide)
  exact ⟨h1.fr hf (fun ad e _ => hk ad e), h2.fr hf hk, h3⟩
theorem MFresh.snoc {w : World} {base : Nat} {L : List Mem} {m : Mem} (h : MFresh w base L) (h1 : Strs w m.a m.c m.l) (h2 : BlkT w m.a 9) (h3 : ∀ ad, m.a = some ad → base ≤ ad.block) : MFresh w base (L ++ [m]) := fun x hx => by
  rcases List.mem_append.1 hx with hx | hx
  · exact h x hx
  · obtain rfl : x = m := by simpa using hx
    exact ⟨h1, h2, h3⟩
end Go.Proofs.YtbblkknndaoefaaGreatDoor
namespace Go.Proofs.YtbblkknndaoefaaGreatDoor
open Go.RowKit Go.Maps
set_option linter.unusedVariables false

/-- The IDs, ascending, each once, as the reference gathers them. -/
def idsW (L : List Mem) : List ByteArray := L.foldl (fun o m => with32 o m.i) []
theorem idsW_snoc (L : List Mem) (m : Mem) : idsW (L ++ [m]) = with32 (idsW L) m.i := by simp [idsW, List.foldl_append]
theorem idsW_ok (L : List Mem) : (idsW L).Pairwise ltS ∧ (∀ y, y ∈ idsW L ↔ ∃ m ∈ L, m.i = y) ∧ (idsW L).length ≤ L.length := by
  refine rev_ind (P := fun L => (idsW L).Pairwise ltS ∧ (∀ y, y ∈ idsW L ↔ ∃ m ∈ L, m.i = y) ∧ (idsW L).length ≤ L.length) ?_ ?_ L
  · exact ⟨List.Pairwise.nil, by simp [idsW], by simp [idsW]⟩
  · intro l x ⟨h1, h2, h3⟩
    rw [idsW_snoc]
    obtain ⟨h4, h5⟩ := with32_ok x.i h1
    refine ⟨h4, fun y => ?_, ?_⟩
    · rw [h5, h2]
      constructor
      · rintro (rfl | ⟨m, hm, rfl⟩)
        · exact ⟨x, by simp, rfl⟩
        · exact ⟨m, by simp [hm], rfl⟩
      · rintro ⟨m, hm, rfl⟩
        rcases List.mem_append.1 hm with h | h
        · exact .inr ⟨m, h, rfl⟩
        · obtain rfl : m = x := by simpa using h
          exact .inl rfl
    · have := with32_len (idsW l) x.i
      simp only [List.length_append, List.length_cons, List.length_nil]
      omega
set_option maxRecDepth 100000 in
set_option maxHeartbeats 2000000 in
theorem ref_ids (a : Option Addr) (cap : Nat) (L : List Mem) (w : World) (hL : Mems w a cap L) (hb : L.length ≤ 100000) :
    Calls Tryz.prog 78 #[.slice a L.length cap] w fun e w' => (∃ a' c', e = .returned (.slice a' (idsW L).length c') ∧ Strs w' a' c' (idsW L) ∧ ∀ ad, a' = some ad → w.heap.size ≤ ad.block) ∧ Fr No w w' := by
  have hm := hL.lenmax
  go_enter Tryz.func78, Tryz.ntmps78
  go_wp2_with fail
  go_loopw [3, 4] (fun v i wr => ∃ (k : Nat) (av : Option Addr) (cv : Nat), k ≤ L.length ∧ v = .slice av (idsW (L.take k)).length cv ∧ i = .int .i64 (k : Int) ∧ Strs wr av cv (idsW (L.take k)) ∧ (∀ ad, av = some ad → w.heap.size ≤ ad.block) ∧ Fr No w wr) (fun _ i _ => L.length - (intOf i).toNat)
  case atStart => exact ⟨0, none, 0, by omega, rfl, rfl, Strs.nil _, (fun ad e => by cases e), Fr.refl _ _⟩
  case round =>
    obtain ⟨k, av, cv, hk, rfl, rfl, hS, hF, hf⟩ := hrel
    by_cases hlt : k < L.length
    · have hlt' : (k : Int) < L.length := by omega
      obtain ⟨b, off, m, rfl, hx, _, ⟨_, c1, _, _, _, _, _⟩, _⟩ := (hL.no hf (fun _ => id)).elem hlt
      have Htk : Hid (idsW (L.take (k + 1)) = with32 (idsW (L.take k)) m.i) := by unfold Hid; rw [List.take_add_one, hx]; exact idsW_snoc _ _
      have hok := idsW_ok (L.take k)
      have hl : (idsW (L.take k)).length ≤ 1000000 := by have := hok.2.2; rw [List.length_take] at this; omega
      have hw := ref_with32 av cv (idsW (L.take k)) m.i wr hS hok.1 hl
      have hsr := hf.size
      clear hx hok
      go_wp2_with fail
      refine hw.mono ?_
      rintro e w1 ⟨⟨a1, k1, rfl, hS1, hF1⟩, hf1⟩
      have H := Lib.hid (And.intro hS1 (And.intro (fun ad (e : a1 = some ad) => Nat.le_trans hsr (hF1 ad e)) (hf.step hf1 (fun _ _ h => h))))
      clear hS1 hF1 hf hf1 hw hS hF
      go_wp2_with fail
      go_roundw
      case rel => exact ⟨k + 1, a1, k1, by omega, by rw [Htk.out], by go_num, by rw [Htk.out]; exact H.out.1, H.out.2.1, H.out.2.2⟩
      case measure => simp [intOf]; omega
    · obtain rfl : k = L.length := by omega
      rw [List.take_length] at hS ⊢
      have H := Lib.hid (And.intro hS (And.intro hF hf))
      clear hS hF hf
      go_wp2_with fail
      go_ret
      exact ⟨⟨_, _, rfl, H.out.1, H.out.2.1⟩, H.out.2.2⟩
end Go.Proofs.YtbblkknndaoefaaGreatDoor
namespace Go.Proofs.YtbblkknndaoefaaGreatDoor
open Go.RowKit
set_option linter.unusedVariables false

theorem asc_of {l : List ByteArray} (h : l.Pairwise ltS) : AscS (l.map kb) := by
  refine List.pairwise_map.2 (h.imp (fun {x y} hxy => ?_))
  rw [ltS_iff] at hxy
  refine ⟨?_, fun e => ?_⟩
  · unfold leS
    exact decide_eq_true (List.not_lt.1 (fun h' => List.lt_irrefl _ (List.lt_trans hxy h')))
  · have e' : wbl x = wbl y := e
    rw [e'] at hxy
    exact List.lt_irrefl _ hxy
/-- The members with one inner text. -/
def goodL (L : List Mem) : List Mem := L.filter fun m => m.l.length == 1
theorem goodL_snoc (L : List Mem) (m : Mem) : goodL (L ++ [m]) = goodL L ++ (if m.l.length = 1 then [m] else []) := by
  unfold goodL
  rw [List.filter_append]
  by_cases h : m.l.length = 1 <;> simp [h]
theorem goodL_yes {L : List Mem} {k : Nat} {m : Mem} (h : L[k]? = some m) (h1 : m.l.length = 1) : goodL (L.take (k + 1)) = goodL (L.take k) ++ [m] := by
  rw [List.take_add_one, h, show (some m).toList = [m] from rfl, goodL_snoc, if_pos h1]
theorem goodL_no {L : List Mem} {k : Nat} {m : Mem} (h : L[k]? = some m) (h1 : ¬ m.l.length = 1) : goodL (L.take (k + 1)) = goodL (L.take k) := by
  rw [List.take_add_one, h, show (some m).toList = [m] from rfl, goodL_snoc, if_neg h1, List.append_nil]
theorem best_good (L : List Mem) : best (goodL L) = best L := by
  refine rev_ind (P := fun L => best (goodL L) = best L) rfl ?_ L
  intro l m ih
  rw [goodL_snoc, best_snoc]
  by_cases h : m.l.length = 1
  · rw [if_pos h, best_snoc, ih]
  · rw [if_neg h, List.append_nil, ih, bestS_skip h]
theorem ids33 (L : List Mem) : IsIds L (idsW (goodL L)) := by
  refine ⟨asc_of (idsW_ok _).1, fun x => ?_⟩
  rw [(idsW_ok _).2.1, best_some_iff]
  constructor
  · rintro ⟨m, hm, rfl⟩
    obtain ⟨h1, h2⟩ := List.mem_filter.1 hm
    exact ⟨m, h1, by simpa using h2, rfl⟩
  · rintro ⟨m, h1, h2, h3⟩
    exact ⟨m, List.mem_filter.2 ⟨h1, by simpa using h2⟩, kb_inj h3⟩
theorem bestS_other {g : List UInt8 → Option Mem} {m : Mem} {x : ByteArray} (h : m.i ≠ x) : bestS g m (kb x) = g (kb x) := by
  unfold bestS
  rw [if_neg]
  intro e
  simp only [Bool.and_eq_true, beq_iff_eq] at e
  exact h (kb_inj e.1.2).symm
/-- The owners, with the places of their inner texts as they stand in the list. -/
def ownF (L : List Mem) (ids : List ByteArray) : List Mem := ids.map fun x => (best L (kb x)).getD Mem.zero
theorem ownF_k (L : List Mem) (ids : List ByteArray) : (ownF L ids).map Mem.k = own1 L ids := by
  unfold ownF own1
  rw [List.map_map]; rfl
theorem goodL_len (L : List Mem) : (goodL L).length ≤ L.length := List.length_filter_le _ _
theorem goodL_mem {L : List Mem} {m : Mem} (h : m ∈ goodL L) : m ∈ L ∧ m.l.length = 1 := by
  obtain ⟨h1, h2⟩ := List.mem_filter.1 h
  exact ⟨h1, by simpa using h2⟩
theorem ownF_mem {L : List Mem} {x : ByteArray} (h : x ∈ idsW (goodL L)) : ∃ m, best L (kb x) = some m ∧ m ∈ L ∧ m.l.length = 1 ∧ m.i = x := by
  obtain ⟨m, hm⟩ := Option.isSome_iff_exists.1 (((ids33 L).mem x).1 h)
  obtain ⟨h1, h2, h3⟩ := best_mem L _ m hm
  exact ⟨m, hm, h1, h2, kb_inj h3⟩
end Go.Proofs.YtbblkknndaoefaaGreatDoor
namespace Go.Proofs.YtbblkknndaoefaaGreatDoor
open Go.RowKit Go.Maps
set_option linter.unusedVariables false

end Go.Proofs.YtbblkknndaoefaaGreatDoor
