/- Blocks and the types of their cells. coldplugref32.With on ascending texts: plain, and the walk. Members in memory: slices of api.Member that are read, rows of them. coldplugref32.IDs. The owners as the reference gathers them. Plain. Arrays of members: the best member of each place; the array of an ID. Plain. -/
import Derived.Test.YtbblkknndaoefaaGreatDoorZV2
import Derived.Test.YtbblkknndaoefaaGreatDoorZV3
import Derived.Sort.Walk0
import Derived.Test.YtbblkknndaoefaaGreatDoorZV4
namespace Go.Proofs.YtbblkknndaoefaaGreatDoor
open Go.RowKit Go.Maps
set_option linter.unusedVariables false

theorem Strs.keep {X W : World} {a : Option Addr} {cap : Nat} {l : List ByteArray} {S : Nat → Prop} (h : Strs X a cap l) (hf : Fr S X W) (hS : ∀ b, b < X.heap.size → ¬ S b) : Strs W a cap l :=
  h.fr hf (fun ad e hne => hS _ (h.cell ad e hne).2.1)

/-- A slice's block holds cells of a type. -/
def BlkT (w : World) (a : Option Addr) (T : TypeId) : Prop := ∀ ad, a = some ad → ∃ cs, w.heap[ad.block]? = some (.cells cs T (0, 0))
theorem BlkT.none (w : World) (T : TypeId) : BlkT w none T := fun _ e => by cases e
theorem own_typ {w : World} {base : Nat} {e : TypeId} {size : Nat} {a : Option Addr} {n m c : Nat} {xs : List Value} (h : w.ownsRow base e size (.slice a n c) m xs) : BlkT w a e := by
  obtain ⟨_, ⟨h1, _⟩ | ⟨g, cap, cur, h1, hg, hb, _⟩⟩ := h
  · cases h1; exact BlkT.none _ _
  · cases h1; exact fun ad e => by cases e; exact ⟨cur, hb⟩
/-- What lies in blocks of another type than the own row's block is not touched by what writes that block. -/
theorem BlkT.fr {S : Nat → Prop} {w w' : World} {a : Option Addr} {T : TypeId} (h : BlkT w a T) (hf : Fr S w w') (hS : ∀ ad, a = some ad → ¬ S ad.block) : BlkT w' a T := fun ad e => by
  obtain ⟨cs, hc⟩ := h ad e
  exact ⟨cs, hf.heap hc (hS ad e)⟩
theorem BlkT.ne {w : World} {base : Nat} {e T : TypeId} {size : Nat} {v : Value} {n : Nat} {xs : List Value} (ho : w.ownsRow base e size v n xs) {a : Option Addr} (h : BlkT w a T) (hne : T ≠ e) : ∀ ad, a = some ad → ¬ v.ownBlock = some ad.block := by
  intro ad e' hb
  obtain ⟨cs, hc⟩ := h ad e'
  obtain ⟨_, ⟨rfl, _⟩ | ⟨g, cap, cur, rfl, hg, hbl, _⟩⟩ := ho
  · cases hb
  · cases hb
    rw [hc] at hbl
    cases hbl
    exact hne rfl
theorem ownsRow_at {w w1 : World} {base : Nat} {e : TypeId} {size : Nat} {v : Value} {n : Nat} {xs : List Value} (h : w.ownsRow base e size v n xs) {S : Nat → Prop} (hf : Fr S w w1) (hS : ∀ b, v.ownBlock = some b → ¬ S b) : w1.ownsRow base e size v n xs := by
  obtain ⟨h0, ⟨rfl, h2⟩ | ⟨g, cap, cur, rfl, hg, hb, h1, h2, h3, h4⟩⟩ := h
  · exact ⟨h0, .inl ⟨rfl, h2⟩⟩
  · exact ⟨h0, .inr ⟨g, cap, cur, rfl, hg, hf.heap hb (hS g rfl), h1, h2, h3, h4⟩⟩
end Go.Proofs.YtbblkknndaoefaaGreatDoor
namespace Go.Proofs.YtbblkknndaoefaaGreatDoor
open Go.RowKit Go.Maps Go.Sort
set_option linter.unusedVariables false

def wbl (x : ByteArray) : List UInt8 := x.data.toList
def wlb (x : List UInt8) : ByteArray := ⟨x.toArray⟩
theorem wlb_wbl (x : ByteArray) : wlb (wbl x) = x := by unfold wlb wbl; simp
theorem wle_ne_lt {x y : List UInt8} (h : x ≤ y) (hne : y ≠ x) : x < y := by
  apply Classical.byContradiction
  intro hn
  exact hne (List.le_antisymm (List.not_lt.1 hn) h)
/-- A text stands before another. -/
def ltS (x y : ByteArray) : Prop := Op.bytesLess x.toList y.toList = true
theorem ltS_iff {x y : ByteArray} : ltS x y ↔ wbl x < wbl y := by
  unfold ltS
  rw [bytesLess_eq, ByteArray.toList_eq, ByteArray.toList_eq]
  unfold wbl
  simp
theorem wbl_inj {x y : ByteArray} (h : wbl x = wbl y) : x = y := by rw [← wlb_wbl x, h, wlb_wbl]
theorem ltS_trans {x y z : ByteArray} (h1 : ltS x y) (h2 : ltS y z) : ltS x z := by
  rw [ltS_iff] at *; exact List.lt_trans h1 h2
theorem ltS_irrefl (x : ByteArray) : ¬ ltS x x := by rw [ltS_iff]; exact List.lt_irrefl _
theorem ltS_of_ge {x y : ByteArray} (h : ¬ ltS x y) (hne : x ≠ y) : ltS y x := by
  rw [ltS_iff] at *
  exact wle_ne_lt (List.not_lt.1 h) (fun e => hne (wbl_inj e))
theorem ltS_le {x y z : ByteArray} (h1 : ¬ ltS y x) (h2 : ltS y z) : ltS x z := by
  rw [ltS_iff] at *
  exact List.lt_of_le_of_lt (List.not_lt.1 h1) h2

def wStep (s : ByteArray) (o : List ByteArray × Bool) (x : ByteArray) : List ByteArray × Bool :=
  let o1 := if (!o.2 && !Op.bytesLess x.toList s.toList) = true then (o.1 ++ [s], true) else o
  if (x.toList == s.toList) = true then o1 else (o1.1 ++ [x], o1.2)
def wFold (s : ByteArray) (l : List ByteArray) : List ByteArray × Bool := l.foldl (wStep s) ([], false)
/-- coldplugref32.With. -/
def with32 (l : List ByteArray) (s : ByteArray) : List ByteArray := if (wFold s l).2 = true then (wFold s l).1 else (wFold s l).1 ++ [s]
theorem wFold_snoc (s : ByteArray) (l : List ByteArray) (x : ByteArray) : wFold s (l ++ [x]) = wStep s (wFold s l) x := by
  unfold wFold; rw [List.foldl_append]; rfl
theorem wFold_take {s : ByteArray} {l : List ByteArray} {k : Nat} {x : ByteArray} (h : l[k]? = some x) : wFold s (l.take (k + 1)) = wStep s (wFold s (l.take k)) x := by
  rw [List.take_add_one, h]; exact wFold_snoc s _ x

structure SInv (s : ByteArray) (p : List ByteArray) (o : List ByteArray × Bool) : Prop where
  no : o.2 = false → o.1 = p ∧ ∀ y ∈ p, ltS y s
  yes : o.2 = true → o.1.Pairwise ltS ∧ (∀ y, y ∈ o.1 ↔ y = s ∨ y ∈ p) ∧ ∃ y ∈ p, ¬ ltS y s
theorem SInv.nil (s : ByteArray) : SInv s [] ([], false) := ⟨fun _ => ⟨rfl, by simp⟩, fun e => by cases e⟩
theorem SInv.step {s : ByteArray} {p : List ByteArray} {o : List ByteArray × Bool} {x : ByteArray} (h : SInv s p o) (hp : (p ++ [x]).Pairwise ltS) : SInv s (p ++ [x]) (wStep s o x) := by
  obtain ⟨o1, d⟩ := o
  rw [List.pairwise_append] at hp
  obtain ⟨hp1, -, hp2⟩ := hp
  have hx : ∀ y ∈ p, ltS y x := fun y hy => hp2 y hy x (by simp)
  cases d with
  | false =>
    obtain ⟨e, hlt⟩ := h.no rfl
    simp only at e
    subst e
    by_cases hxs : ltS x s
    · have hne : (x.toList == s.toList) = false := by
        rw [strEq]
        exact decide_eq_false fun e => by subst e; exact ltS_irrefl _ hxs
      have e : wStep s (o1, false) x = (o1 ++ [x], false) := by
        have : Op.bytesLess x.toList s.toList = true := hxs
        simp [wStep, this, hne]
      rw [e]
      refine ⟨fun _ => ⟨rfl, fun y hy => ?_⟩, fun e => by cases e⟩
      rcases List.mem_append.1 hy with h1 | h1
      · exact hlt y h1
      · simp at h1; subst h1; exact hxs
    · have hb : Op.bytesLess x.toList s.toList = false := by
        unfold ltS at hxs; simpa using hxs
      by_cases hne : x = s
      · subst hne
        have e : wStep x (o1, false) x = (o1 ++ [x], true) := by simp [wStep, hb]
        rw [e]
        refine ⟨(fun e => by cases e), fun _ => ⟨?_, ?_, ⟨x, by simp, hxs⟩⟩⟩
        · simp only [List.pairwise_append]; exact ⟨hp1, by simp, fun y hy z hz => by simp at hz; subst hz; exact hx y hy⟩
        · intro y
          simp only [List.mem_append, List.mem_singleton]
          exact ⟨fun h => h.elim (fun a => .inr (.inl a)) .inl, fun h => h.elim .inr (fun h => h)⟩
      · have hq : (x.toList == s.toList) = false := by rw [strEq]; exact decide_eq_false hne
        have e : wStep s (o1, false) x = (o1 ++ [s] ++ [x], true) := by simp [wStep, hb, hq]
        have hsx := ltS_of_ge hxs hne
        rw [e]
        refine ⟨(fun e => by cases e), fun _ => ⟨?_, ?_, ⟨x, by simp, hxs⟩⟩⟩
        · simp only [List.pairwise_append]
          refine ⟨⟨hp1, by simp, fun y hy z hz => by simp at hz; subst hz; exact hlt y hy⟩, by simp, fun y hy z hz => ?_⟩
          simp at hz; subst hz
          rcases List.mem_append.1 hy with h1 | h1
          · exact hx y h1
          · simp at h1; subst h1; exact hsx
        · intro y
          simp only [List.mem_append, List.mem_singleton]
          exact ⟨fun h => h.elim (fun h => h.elim (fun a => .inr (.inl a)) .inl) (fun a => .inr (.inr a)), fun h => h.elim (fun a => .inl (.inr a)) (fun h => h.elim (fun a => .inl (.inl a)) .inr)⟩
  | true =>
    obtain ⟨h1, h2, z, hz, hzs⟩ := h.yes rfl
    have hsx : ltS s x := ltS_le hzs (hx z hz)
    have hne : (x.toList == s.toList) = false := by
      rw [strEq]; exact decide_eq_false fun e => by subst e; exact ltS_irrefl _ hsx
    have e : wStep s (o1, true) x = (o1 ++ [x], true) := by simp [wStep, hne]
    rw [e]
    refine ⟨(fun e => by cases e), fun _ => ⟨?_, ?_, ⟨z, by simp [hz], hzs⟩⟩⟩
    · simp only [List.pairwise_append]
      refine ⟨h1, by simp, fun y hy z hz => ?_⟩
      simp at hz; subst hz
      rcases (h2 y).1 hy with rfl | h3
      · exact hsx
      · exact hx y h3
    · intro y
      have h4 := h2 y
      simp only [List.mem_append, List.mem_singleton]
      exact ⟨fun h => h.elim (fun a => (h4.1 a).elim .inl (fun b => .inr (.inl b))) (fun a => .inr (.inr a)), fun h => h.elim (fun a => .inl (h4.2 (.inl a))) (fun h => h.elim (fun a => .inl (h4.2 (.inr a))) .inr)⟩
theorem wFold_inv (s : ByteArray) : ∀ (q p : List ByteArray) (o : List ByteArray × Bool), (p ++ q).Pairwise ltS → SInv s p o → SInv s (p ++ q) (q.foldl (wStep s) o)
  | [], p, o, _, h => by simpa using h
  | x :: t, p, o, hp, h => by
    have e : p ++ x :: t = (p ++ [x]) ++ t := by simp
    rw [e] at hp ⊢
    exact wFold_inv s t (p ++ [x]) _ hp (h.step (List.pairwise_append.1 hp).1)
theorem with32_ok {l : List ByteArray} (s : ByteArray) (h : l.Pairwise ltS) : (with32 l s).Pairwise ltS ∧ ∀ y, y ∈ with32 l s ↔ y = s ∨ y ∈ l := by
  have hw := wFold_inv s l [] ([], false) (by simpa using h) (SInv.nil s)
  rw [List.nil_append] at hw
  change SInv s l (wFold s l) at hw
  unfold with32
  cases hd : (wFold s l).2 with
  | true => obtain ⟨h1, h2, _⟩ := hw.yes hd; simpa using ⟨h1, h2⟩
  | false =>
    obtain ⟨h1, h2⟩ := hw.no hd
    rw [h1]
    simp only [Bool.false_eq_true, if_false]
    refine ⟨?_, fun y => by simp only [List.mem_append, List.mem_singleton]; exact or_comm⟩
    rw [List.pairwise_append]
    exact ⟨h, by simp, fun y hy z hz => by simp at hz; subst hz; exact h2 y hy⟩
/-- Sorted lists of the same members are the same. -/
theorem sorted_eq : ∀ {l l' : List ByteArray}, l.Pairwise ltS → l'.Pairwise ltS → (∀ y, y ∈ l ↔ y ∈ l') → l = l'
  | [], [], _, _, _ => rfl
  | [], y :: t, _, _, h => by have := (h y).2 (by simp); simp at this
  | x :: t, [], _, _, h => by have := (h x).1 (by simp); simp at this
  | x :: t, y :: u, h1, h2, h => by
    rw [List.pairwise_cons] at h1 h2
    have hxy : x = y := by
      rcases List.mem_cons.1 ((h x).1 (by simp)) with e | hx
      · exact e
      · rcases List.mem_cons.1 ((h y).2 (by simp)) with e | hy
        · exact e.symm
        · exact absurd (ltS_trans (h1.1 y hy) (h2.1 x hx)) (ltS_irrefl _)
    subst hxy
    rw [sorted_eq h1.2 h2.2 (fun z => ?_)]
    have hz := h z
    constructor
    · intro hm
      rcases List.mem_cons.1 (hz.1 (by simp [hm])) with e | h3
      · subst e; exact absurd (h1.1 _ hm) (ltS_irrefl _)
      · exact h3
    · intro hm
      rcases List.mem_cons.1 (hz.2 (by simp [hm])) with e | h3
      · subst e; exact absurd (h2.1 _ hm) (ltS_irrefl _)
      · exact h3
theorem sorted_nodup {l : List ByteArray} (h : l.Pairwise ltS) : l.Nodup := h.imp (fun {a b} h e => by subst e; exact ltS_irrefl _ h)

theorem wStep_t {s x : ByteArray} (o : List ByteArray) (h : (x.toList == s.toList) = false) : wStep s (o, true) x = (o ++ [x], true) := by simp [wStep, h]
theorem wStep_lt {s x : ByteArray} (o : List ByteArray) (h1 : Op.bytesLess x.toList s.toList = true) (h : (x.toList == s.toList) = false) : wStep s (o, false) x = (o ++ [x], false) := by simp [wStep, h, h1]
theorem wStep_eq (s : ByteArray) (o : List ByteArray) (h1 : Op.bytesLess s.toList s.toList = false) : wStep s (o, false) s = (o ++ [s], true) := by simp [wStep, h1]
theorem wStep_gt {s x : ByteArray} (o : List ByteArray) (h1 : Op.bytesLess x.toList s.toList = false) (h : (x.toList == s.toList) = false) : wStep s (o, false) x = (o ++ [s] ++ [x], true) := by simp [wStep, h, h1]
theorem wStep_len (s : ByteArray) (o : List ByteArray × Bool) (x : ByteArray) : (wStep s o x).1.length ≤ o.1.length + 2 := by
  unfold wStep
  split <;> split <;> simp
theorem foldl_wlen (s : ByteArray) : ∀ (l : List ByteArray) (o : List ByteArray × Bool), (l.foldl (wStep s) o).1.length ≤ o.1.length + 2 * l.length
  | [], o => by simp
  | x :: t, o => by
    have h1 := foldl_wlen s t (wStep s o x)
    have h2 := wStep_len s o x
    simp only [List.foldl_cons, List.length_cons]
    omega
theorem wFold_len (s : ByteArray) (l : List ByteArray) : (wFold s l).1.length ≤ 2 * l.length := by
  have := foldl_wlen s l ([], false)
  simpa [wFold] using this
def wPot (o : List ByteArray × Bool) : Nat := o.1.length + if o.2 = true then 0 else 1
theorem wStep_pot (s : ByteArray) (o : List ByteArray × Bool) (x : ByteArray) : wPot (wStep s o x) ≤ wPot o + 1 := by
  obtain ⟨o, d⟩ := o
  unfold wStep wPot
  cases d <;> cases Op.bytesLess x.toList s.toList <;> cases (x.toList == s.toList) <;> simp
theorem foldl_pot (s : ByteArray) : ∀ (l : List ByteArray) (o : List ByteArray × Bool), wPot (l.foldl (wStep s) o) ≤ wPot o + l.length
  | [], o => by simp
  | x :: t, o => by
    have h1 := foldl_pot s t (wStep s o x)
    have h2 := wStep_pot s o x
    simp only [List.foldl_cons, List.length_cons]
    omega
theorem with32_len (l : List ByteArray) (s : ByteArray) : (with32 l s).length ≤ l.length + 1 := by
  have h : wPot (wFold s l) ≤ wPot ([], false) + l.length := foldl_pot s l ([], false)
  unfold wPot at h
  unfold with32
  cases hd : (wFold s l).2 with
  | true => simp [hd] at h ⊢; omega
  | false => simp [hd] at h ⊢; omega
theorem wFold_sinv {s : ByteArray} {l : List ByteArray} (hs : l.Pairwise ltS) : SInv s l (wFold s l) := by
  have hw := wFold_inv s l [] ([], false) (by simpa using hs) (SInv.nil s)
  rwa [List.nil_append] at hw
theorem lt_false {x y : ByteArray} (h : ¬ ltS x y) : Op.bytesLess x.toList y.toList = false := by unfold ltS at h; simpa using h
theorem ne_false {x s : ByteArray} (h : x ≠ s) : (x.toList == s.toList) = false := by rw [strEq]; exact decide_eq_false h
theorem sorted_front {l : List ByteArray} {k : Nat} {x : ByteArray} (h : l.Pairwise ltS) (hk : l[k]? = some x) : ∀ y ∈ l.take k, ltS y x := by
  intro y hy
  have h2 : (l.take (k + 1)).Pairwise ltS := List.Pairwise.sublist (List.take_sublist _ _) h
  rw [List.take_add_one, hk] at h2
  exact (List.pairwise_append.1 h2).2.2 y hy x (by simp)

set_option maxRecDepth 100000 in
set_option maxHeartbeats 4000000 in
theorem ref_with32 (a : Option Addr) (cap : Nat) (l : List ByteArray) (s : ByteArray) (w : World) (hl : Strs w a cap l) (hs : l.Pairwise ltS) (hb : l.length ≤ 1000000) :
    Calls Tryz.prog 103 #[.slice a l.length cap, .string s] w fun e w' => (∃ a' cap', e = .returned (.slice a' (with32 l s).length cap') ∧ Strs w' a' cap' (with32 l s) ∧ ∀ ad, a' = some ad → w.heap.size ≤ ad.block) ∧ Fr No w w' := by
  obtain ⟨i0, hi, hz0, hz1, hz2⟩ := info_parts infoS
  go_enter Tryz.func103, Tryz.ntmps103
  go_wp2_with fail
  go_loopw [5, 6, 7] (fun v dn i wr => ∃ (k : Nat) (m : List ByteArray) (d : Bool), k ≤ l.length ∧ i = .int .i64 (k : Int) ∧ dn = .bool d ∧ Hid (wFold s (l.take k) = (m, d)) ∧ wr.ownsRow w.heap.size 9 1 v m.length (m.map Value.string) ∧ Fr (From w.heap.size) w wr) (fun _ _ i _ => l.length - (intOf i).toNat)
  case atStart => exact ⟨0, [], false, by omega, rfl, rfl, by unfold Hid; rfl, World.ownsRow_nil _ _ _ _, Fr.refl _ _⟩
  case round =>
    obtain ⟨k, m, d, hk, rfl, rfl, HW, hown, hfr⟩ := hrel
    have hsz := hfr.size
    have hml : m.length ≤ 2000000 := by have := wFold_len s (l.take k); rw [HW.out] at this; simp at this; omega
    by_cases hlt : k < l.length
    · have hlt' : (k : Int) < l.length := by omega
      obtain ⟨b, off, x, rfl, hx, hc⟩ := (hl.keep hfr (fun b hb h => by unfold From at h; omega)).at hlt
      have hbB : ¬ From w.heap.size b := by
        have := (hl.cell _ rfl (by intro e; rw [e] at hlt; simp at hlt)).2.1
        simp only at this
        unfold From; omega
      have Hst : Hid (wFold s (l.take (k + 1)) = wStep s (m, d) x) := by unfold Hid; rw [wFold_take hx, HW.out]
      have Hin : Hid (SInv s (l.take k) (m, d)) := by unfold Hid; rw [← HW.out]; exact wFold_sinv (hs.sublist (List.take_sublist _ _))
      have Hfr : Hid (∀ y ∈ l.take k, ltS y x) := sorted_front hs hx
      clear hx
      cases d with
      | true =>
        have hne : (x.toList == s.toList) = false := by
          obtain ⟨-, -, z, hz, hzs⟩ := Hin.out.yes rfl
          exact ne_false (fun e => by subst e; exact hzs (Hfr.out z hz))
        have HW' : Hid (wFold s (l.take (k + 1)) = (m ++ [x], true)) := by unfold Hid; rw [Hst.out, wStep_t m hne]
        go_wp2_with (at_builtin; refine wpList_append_own _ rfl _ _ 33 rfl w.heap.size 9 i0 (.string ByteArray.empty) 1 16 Tryz.underlying33 hi hz0 hz1 hz2 rfl (by decide) _ _ _ rfl (hown.alloc _) ⟨wr.heap.size, 0, none⟩ 1 1 [.string x] rfl rfl (cell_one_new _ _ _) (strs_one [x]) (by unfold maxLen; omega) (by omega) (by simp; omega) ?_; intro v' w1 hown1 hgrow1 _)
        go_roundw
        case rel => exact ⟨k + 1, m ++ [x], true, by omega, by go_num, rfl, HW', by simpa using hown1, hfr.step (grown_fr hown hgrow1) (fun _ _ h => h)⟩
        case measure => simp [intOf]; omega
      | false =>
        by_cases hxs : ltS x s
        · have hne : (x.toList == s.toList) = false := ne_false (fun e => by subst e; exact ltS_irrefl _ hxs)
          have hb2 : Op.bytesLess x.toList s.toList = true := hxs
          have HW' : Hid (wFold s (l.take (k + 1)) = (m ++ [x], false)) := by unfold Hid; rw [Hst.out, wStep_lt m hb2 hne]
          have hq1 : Op.bytesLess s.toList x.toList = false := lt_false (fun h => ltS_irrefl _ (ltS_trans hxs h))
          have hq2 : (s.toList == x.toList) = false := ne_false (fun e => by subst e; exact ltS_irrefl _ hxs)
          clear hxs
          go_wp2_with (at_builtin; refine wpList_append_own _ rfl _ _ 33 rfl w.heap.size 9 i0 (.string ByteArray.empty) 1 16 Tryz.underlying33 hi hz0 hz1 hz2 rfl (by decide) _ _ _ rfl (hown.alloc _) ⟨wr.heap.size, 0, none⟩ 1 1 [.string x] rfl rfl (cell_one_new _ _ _) (strs_one [x]) (by unfold maxLen; omega) (by omega) (by simp; omega) ?_; intro v' w1 hown1 hgrow1 _)
          go_roundw
          case rel => exact ⟨k + 1, m ++ [x], false, by omega, by go_num, rfl, HW', by simpa using hown1, hfr.step (grown_fr hown hgrow1) (fun _ _ h => h)⟩
          case measure => simp [intOf]; omega
        · have hb2 := lt_false hxs
          by_cases hxe : x = s
          · subst hxe
            have hb : (x.toList == x.toList) = true := by simp
            have HW' : Hid (wFold x (l.take (k + 1)) = (m ++ [x], true)) := by unfold Hid; rw [Hst.out, wStep_eq x m hb2]
            clear hxs
            go_wp2_with (at_builtin; refine wpList_append_own _ rfl _ _ 33 rfl w.heap.size 9 i0 (.string ByteArray.empty) 1 16 Tryz.underlying33 hi hz0 hz1 hz2 rfl (by decide) _ _ _ rfl (hown.alloc _) ⟨wr.heap.size, 0, none⟩ 1 1 [.string x] rfl rfl (cell_one_new _ _ _) (strs_one [x]) (by unfold maxLen; omega) (by omega) (by simp; omega) ?_; intro v' w1 hown1 hgrow1 _; have hc1 := (grown_fr hown hgrow1).cell hc hbB)
            go_roundw
            case rel => exact ⟨k + 1, m ++ [x], true, by omega, by go_num, rfl, HW', by simpa using hown1, hfr.step (grown_fr hown hgrow1) (fun _ _ h => h)⟩
            case measure => simp [intOf]; omega
          · have hne := ne_false hxe
            have HW' : Hid (wFold s (l.take (k + 1)) = (m ++ [s] ++ [x], true)) := by unfold Hid; rw [Hst.out, wStep_gt m hb2 hne]
            have hq1 : Op.bytesLess s.toList x.toList = true := ltS_of_ge hxs hxe
            clear hxs hxe
            go_wp2_with (first
              | (at_builtin; refine wpList_append_own _ rfl (.tmp 24) (.tmp 26) 33 rfl w.heap.size 9 i0 (.string ByteArray.empty) 1 16 Tryz.underlying33 hi hz0 hz1 hz2 rfl (by decide) _ _ _ rfl (hown.alloc _) ⟨wr.heap.size, 0, none⟩ 1 1 [.string s] rfl rfl (cell_one_new _ _ _) (strs_one [s]) (by unfold maxLen; omega) (by omega) (by simp; omega) ?_; intro v' w1 hown1 hgrow1 _; have hc1 := (grown_fr hown hgrow1).cell hc hbB; have hsz1 := hgrow1.size; rw [World.size_alloc] at hsz1)
              | (at_builtin; refine wpList_append_own _ rfl (.tmp 34) (.tmp 39) 33 rfl w.heap.size 9 i0 (.string ByteArray.empty) 1 16 Tryz.underlying33 hi hz0 hz1 hz2 rfl (by decide) _ _ _ rfl (hown1.alloc _) ⟨w1.heap.size, 0, none⟩ 1 1 [.string x] rfl rfl (cell_one_new _ _ _) (strs_one [x]) (by unfold maxLen; omega) (by omega) (by simp; omega) ?_; intro v'' w2 hown2 hgrow2 _))
            go_roundw
            case rel => exact ⟨k + 1, m ++ [s] ++ [x], true, by omega, by go_num, rfl, HW', by simpa using hown2, (hfr.step (grown_fr hown hgrow1) (fun _ _ h => h)).step (grown_fr hown1 hgrow2) (fun _ _ h => h)⟩
            case measure => simp [intOf]; omega
    · have hout := HW.out
      rw [List.take_of_length_le (by omega)] at hout
      have Hout := Lib.hid hout
      clear hout
      cases d with
      | true =>
        have He : Hid (with32 l s = m) := by unfold Hid with32; rw [Hout.out]; rfl
        go_wp2_with fail
        go_ret
        obtain ⟨a', cap', hv, hI, hfresh⟩ := Strs.of_own hown
        rw [He.out]
        exact ⟨⟨a', cap', by rw [← hv]; rfl, hI, hfresh⟩, hfr.mono (fun b hb h => by unfold From at h; omega)⟩
      | false =>
        have He : Hid (with32 l s = m ++ [s]) := by unfold Hid with32; rw [Hout.out]; rfl
        go_wp2_with (at_builtin; refine wpList_append_own _ rfl _ _ 33 rfl w.heap.size 9 i0 (.string ByteArray.empty) 1 16 Tryz.underlying33 hi hz0 hz1 hz2 rfl (by decide) _ _ _ rfl (hown.alloc _) ⟨wr.heap.size, 0, none⟩ 1 1 [.string s] rfl rfl (cell_one_new _ _ _) (strs_one [s]) (by unfold maxLen; omega) (by omega) (by simp; omega) ?_; intro v' w1 hown1 hgrow1 _)
        go_ret
        have hown2 : w1.ownsRow w.heap.size 9 1 v' (m ++ [s]).length ((m ++ [s]).map Value.string) := by simpa using hown1
        obtain ⟨a', cap', hv, hI, hfresh⟩ := Strs.of_own hown2
        rw [He.out]
        exact ⟨⟨a', cap', by rw [← hv]; rfl, hI, hfresh⟩, (hfr.step (grown_fr hown hgrow1) (fun _ _ h => h)).mono (fun b hb h => by unfold From at h; omega)⟩
end Go.Proofs.YtbblkknndaoefaaGreatDoor
namespace Go.Proofs.YtbblkknndaoefaaGreatDoor
open Go.RowKit Go.Maps
set_option linter.unusedVariables false

structure Mems (w : World) (a : Option Addr) (cap : Nat) (L : List Mem) : Prop where
  len : L.length ≤ cap
  max : cap ≤ maxLen
  isNil : a = none → L = [] ∧ cap = 0
  ok : ∀ m ∈ L, Strs w m.a m.c m.l
  cell : ∀ ad, a = some ad → L ≠ [] → ad.spot = none ∧ ad.block < w.heap.size ∧ ∀ i m, L[i]? = some m → ∀ j, j < 7 → w.cell? ⟨ad.block, ad.off + (i * 7 + j), none⟩ = m.vals[j]?
/-- The seven cells of a member at (b, o). -/
structure MemAt (w : World) (b o : Nat) (m : Mem) : Prop where
  c0 : w.cell? ⟨b, o, none⟩ = some (.string m.p)
  c1 : w.cell? ⟨b, o + 1, none⟩ = some (.string m.i)
  c2 : w.cell? ⟨b, o + 2, none⟩ = some (.int .i64 m.r)
  c3 : w.cell? ⟨b, o + 3, none⟩ = some (.int .i64 m.s)
  c4 : w.cell? ⟨b, o + 4, none⟩ = some (.int .i64 m.t)
  c5 : w.cell? ⟨b, o + 5, none⟩ = some (.int .i64 m.e)
  c6 : w.cell? ⟨b, o + 6, none⟩ = some (.slice m.a m.l.length m.c)
theorem Mems.elem {w : World} {a : Option Addr} {cap : Nat} {L : List Mem} (h : Mems w a cap L) {k : Nat} (hk : k < L.length) :
    ∃ b off m, a = some ⟨b, off, none⟩ ∧ L[k]? = some m ∧ Strs w m.a m.c m.l ∧ MemAt w b (off + k * 7) m ∧ b < w.heap.size := by
  cases a with
  | none => obtain ⟨rfl, _⟩ := h.isNil rfl; simp at hk
  | some ad =>
    obtain ⟨b, off, sp⟩ := ad
    obtain ⟨h1, h2, h3⟩ := h.cell _ rfl (by intro e; subst e; simp at hk)
    simp at h1; subst h1
    have hc := h3 k _ (List.getElem?_eq_getElem hk)
    exact ⟨b, off, L[k], rfl, List.getElem?_eq_getElem hk, h.ok _ (List.getElem_mem hk), ⟨hc 0 (by omega), hc 1 (by omega), hc 2 (by omega), hc 3 (by omega), hc 4 (by omega), hc 5 (by omega), hc 6 (by omega)⟩, h2⟩
theorem Mems.lenmax {w : World} {a : Option Addr} {cap : Nat} {L : List Mem} (h : Mems w a cap L) : L.length ≤ 9223372036854775807 := by
  have h1 := h.len; have h2 := h.max; unfold maxLen at h2; omega
theorem Mems.fr {S : Nat → Prop} {w w' : World} {a : Option Addr} {cap : Nat} {L : List Mem} (h : Mems w a cap L) (hf : Fr S w w') (hS : ∀ ad, a = some ad → L ≠ [] → ¬ S ad.block) (hM : ∀ m ∈ L, ∀ ad, m.a = some ad → m.l ≠ [] → ¬ S ad.block) : Mems w' a cap L :=
  ⟨h.len, h.max, h.isNil, fun m hm => (h.ok m hm).fr hf (hM m hm), fun ad e hne => by
    obtain ⟨h1, h2, h3⟩ := h.cell ad e hne
    refine ⟨h1, Nat.lt_of_lt_of_le h2 hf.size, fun i m hi j hj => ?_⟩
    rw [← h3 i m hi j hj]
    exact World.cell?_of_block (hf.block _ h2 (hS ad e hne))⟩
theorem Mems.no {S : Nat → Prop} {w w' : World} {a : Option Addr} {cap : Nat} {L : List Mem} (h : Mems w a cap L) (hf : Fr S w w') (hS : ∀ k, ¬ S k) : Mems w' a cap L := h.fr hf (fun _ _ _ => hS _) (fun _ _ _ _ _ => hS _)
theorem Mems.keep {S : Nat → Prop} {w w' : World} {a : Option Addr} {cap : Nat} {L : List Mem} (h : Mems w a cap L) (hf : Fr S w w') (hS : ∀ b, b < w.heap.size → ¬ S b) : Mems w' a cap L :=
  h.fr hf (fun ad e hne => hS _ (h.cell ad e hne).2.1) (fun m hm ad e hne => hS _ ((h.ok m hm).cell ad e hne).2.1)
theorem Mems.nil (w : World) : Mems w none 0 [] := ⟨by simp, by simp, fun _ => ⟨rfl, rfl⟩, by simp, fun _ e _ => by cases e⟩
theorem infoM : (Tryz.prog.info? 58).map (fun i => (i.zero, i.size, i.bytes)) = some (some (.agg #[.string ByteArray.empty, .string ByteArray.empty, .int .i64 0, .int .i64 0, .int .i64 0, .int .i64 0, .slice none 0 0]), 7, 88) := by kernel_rfl
def mflat (L : List Mem) : List Value := L.flatMap (fun m => m.vals.toList)
theorem mflat_snoc (L : List Mem) (m : Mem) : mflat (L ++ [m]) = mflat L ++ m.vals.toList := by simp [mflat]
theorem mvals_one (m : Mem) : ∀ u ∈ m.vals.toList, u.oneCell' = true := by
  intro u hu
  simp [Mem.vals] at hu
  rcases hu with rfl | rfl | rfl | rfl | rfl | rfl | rfl <;> rfl
theorem mflat_at : ∀ (L : List Mem) (i : Nat) (m : Mem), L[i]? = some m → ∀ j, j < 7 → (mflat L)[i * 7 + j]? = m.vals[j]?
  | [], i, m, h, j, hj => by simp at h
  | x :: t, 0, m, h, j, hj => by
    simp at h; subst h
    have : mflat (x :: t) = x.vals.toList ++ mflat t := by simp [mflat]
    rw [this, List.getElem?_append_left (by simp [Mem.vals]; omega)]
    simp
  | x :: t, i + 1, m, h, j, hj => by
    have : mflat (x :: t) = x.vals.toList ++ mflat t := by simp [mflat]
    rw [this, List.getElem?_append_right (by simp [Mem.vals]; omega), show (i + 1) * 7 + j - x.vals.toList.length = i * 7 + j from by simp [Mem.vals]; omega]
    exact mflat_at t i m (by simpa using h) j hj
theorem mflat_len (L : List Mem) : (mflat L).length = L.length * 7 := by
  induction L with
  | nil => rfl
  | cons d t ih =>
    have : mflat (d :: t) = d.vals.toList ++ mflat t := by simp [mflat]
    rw [this, List.length_append, ih]
    simp [Mem.vals]; omega
theorem Mems.of_own {w : World} {base : Nat} {e : TypeId} {v : Value} {L : List Mem} (h : w.ownsRow base e 7 v L.length (mflat L)) (hok : ∀ m ∈ L, Strs w m.a m.c m.l) :
    ∃ a cap, v = .slice a L.length cap ∧ Mems w a cap L ∧ ∀ ad, a = some ad → base ≤ ad.block := by
  obtain ⟨_, ⟨rfl, h2⟩ | ⟨g, cap, cur, rfl, hg, hb, h1, h2, h3, h4⟩⟩ := h
  · have : L = [] := List.eq_nil_of_length_eq_zero h2
    subst this
    exact ⟨none, 0, rfl, Mems.nil w, fun _ e => by cases e⟩
  · refine ⟨some ⟨g, 0, none⟩, cap, rfl, ⟨h1, h2, (fun e => by cases e), hok, ?_⟩, fun ad e => by cases e; exact hg⟩
    intro ad e hne
    cases e
    refine ⟨rfl, lt_of_block hb, fun i m hi j hj => ?_⟩
    rw [cell_of_block hb]
    simp only [Nat.zero_add]
    have hlt : i < L.length := (List.getElem?_eq_some_iff.1 hi).1
    have e1 : (cur.toList.take (L.length * 7))[i * 7 + j]? = (mflat L)[i * 7 + j]? := by rw [h4]
    rw [List.getElem?_take_of_lt (by omega), mflat_at L i m hi j hj] at e1
    rw [← Array.getElem?_toList, e1]
theorem Mems.of_block {w : World} {b : Nat} {L : List Mem} {T : TypeId} {fz : Nat × Nat} (h : w.heap[b]? = some (.cells (mflat L).toArray T fz)) (hm : L.length ≤ maxLen) (hok : ∀ m ∈ L, Strs w m.a m.c m.l) : Mems w (some ⟨b, 0, none⟩) L.length L := by
  refine ⟨Nat.le_refl _, hm, (fun e => by cases e), hok, fun ad e hne => ?_⟩
  cases e
  refine ⟨rfl, lt_of_block h, fun i m hi j hj => ?_⟩
  rw [cell_of_block h]
  simp only [Nat.zero_add]
  rw [← mflat_at L i m hi j hj]
  simp
/-- Members of the call's own: their inner texts lie in new blocks of texts. -/
def MFresh (w : World) (base : Nat) (L : List Mem) : Prop := ∀ m ∈ L, Strs w m.a m.c m.l ∧ BlkT w m.a 9 ∧ ∀ ad, m.a = some ad → base ≤ ad.block
theorem MFresh.fr {S : Nat → Prop} {w w' : World} {base : Nat} {L : List Mem} (h : MFresh w base L) (hf : Fr S w w') (hS : ∀ b, base ≤ b → b < w.heap.size → ¬ S b) : MFresh w' base L := fun m hm => by
  obtain ⟨h1, h2, h3⟩ := h m hm
  have hk : ∀ ad, m.a = some ad → ¬ S ad.block := fun ad e => by obtain ⟨cs, hc⟩ := h2 ad e; exact hS _ (h3 ad e) (lt_of_block hc)
  exact ⟨h1.fr hf (fun ad e _ => hk ad e), h2.fr hf hk, h3⟩
theorem MFresh.own {w w' : World} {base b0 : Nat} {L : List Mem} {v : Value} {n : Nat} {xs : List Value} (h : MFresh w base L) (ho : w.ownsRow b0 58 7 v n xs) (hf : Fr (fun b => v.ownBlock = some b) w w') : MFresh w' base L := fun m hm => by
  obtain ⟨h1, h2, h3⟩ := h m hm
  have hk := BlkT.ne ho h2 (by decide)
  exact ⟨h1.fr hf (fun ad e _ => hk ad e), h2.fr hf hk, h3⟩
theorem MFresh.snoc {w : World} {base : Nat} {L : List Mem} {m : Mem} (h : MFresh w base L) (h1 : Strs w m.a m.c m.l) (h2 : BlkT w m.a 9) (h3 : ∀ ad, m.a = some ad → base ≤ ad.block) : MFresh w base (L ++ [m]) := fun x hx => by
  rcases List.mem_append.1 hx with hx | hx
  · exact h x hx
  · obtain rfl : x = m := by simpa using hx
    exact ⟨h1, h2, h3⟩
end Go.Proofs.YtbblkknndaoefaaGreatDoor
namespace Go.Proofs.YtbblkknndaoefaaGreatDoor
open Go.RowKit Go.Maps
set_option linter.unusedVariables false

/-- The IDs, ascending, each once, as the reference gathers them. -/
def idsW (L : List Mem) : List ByteArray := L.foldl (fun o m => with32 o m.i) []
theorem idsW_snoc (L : List Mem) (m : Mem) : idsW (L ++ [m]) = with32 (idsW L) m.i := by simp [idsW, List.foldl_append]
theorem idsW_ok (L : List Mem) : (idsW L).Pairwise ltS ∧ (∀ y, y ∈ idsW L ↔ ∃ m ∈ L, m.i = y) ∧ (idsW L).length ≤ L.length := by
  refine rev_ind (P := fun L => (idsW L).Pairwise ltS ∧ (∀ y, y ∈ idsW L ↔ ∃ m ∈ L, m.i = y) ∧ (idsW L).length ≤ L.length) ?_ ?_ L
  · exact ⟨List.Pairwise.nil, by simp [idsW], by simp [idsW]⟩
  · intro l x ⟨h1, h2, h3⟩
    rw [idsW_snoc]
    obtain ⟨h4, h5⟩ := with32_ok x.i h1
    refine ⟨h4, fun y => ?_, ?_⟩
    · rw [h5, h2]
      constructor
      · rintro (rfl | ⟨m, hm, rfl⟩)
        · exact ⟨x, by simp, rfl⟩
        · exact ⟨m, by simp [hm], rfl⟩
      · rintro ⟨m, hm, rfl⟩
        rcases List.mem_append.1 hm with h | h
        · exact .inr ⟨m, h, rfl⟩
        · obtain rfl : m = x := by simpa using h
          exact .inl rfl
    · have := with32_len (idsW l) x.i
      simp only [List.length_append, List.length_cons, List.length_nil]
      omega
set_option maxRecDepth 100000 in
set_option maxHeartbeats 2000000 in
theorem ref_ids (a : Option Addr) (cap : Nat) (L : List Mem) (w : World) (hL : Mems w a cap L) (hb : L.length ≤ 100000) :
    Calls Tryz.prog 78 #[.slice a L.length cap] w fun e w' => (∃ a' c', e = .returned (.slice a' (idsW L).length c') ∧ Strs w' a' c' (idsW L) ∧ ∀ ad, a' = some ad → w.heap.size ≤ ad.block) ∧ Fr No w w' := by
  have hm := hL.lenmax
  go_enter Tryz.func78, Tryz.ntmps78
  go_wp2_with fail
  go_loopw [3, 4] (fun v i wr => ∃ (k : Nat) (av : Option Addr) (cv : Nat), k ≤ L.length ∧ v = .slice av (idsW (L.take k)).length cv ∧ i = .int .i64 (k : Int) ∧ Strs wr av cv (idsW (L.take k)) ∧ (∀ ad, av = some ad → w.heap.size ≤ ad.block) ∧ Fr No w wr) (fun _ i _ => L.length - (intOf i).toNat)
  case atStart => exact ⟨0, none, 0, by omega, rfl, rfl, Strs.nil _, (fun ad e => by cases e), Fr.refl _ _⟩
  case round =>
    obtain ⟨k, av, cv, hk, rfl, rfl, hS, hF, hf⟩ := hrel
    by_cases hlt : k < L.length
    · have hlt' : (k : Int) < L.length := by omega
      obtain ⟨b, off, m, rfl, hx, _, ⟨_, c1, _, _, _, _, _⟩, _⟩ := (hL.no hf (fun _ => id)).elem hlt
      have Htk : Hid (idsW (L.take (k + 1)) = with32 (idsW (L.take k)) m.i) := by unfold Hid; rw [List.take_add_one, hx]; exact idsW_snoc _ _
      have hok := idsW_ok (L.take k)
      have hl : (idsW (L.take k)).length ≤ 1000000 := by have := hok.2.2; rw [List.length_take] at this; omega
      have hw := ref_with32 av cv (idsW (L.take k)) m.i wr hS hok.1 hl
      have hsr := hf.size
      clear hx hok
      go_wp2_with fail
      refine hw.mono ?_
      rintro e w1 ⟨⟨a1, k1, rfl, hS1, hF1⟩, hf1⟩
      have H := Lib.hid (And.intro hS1 (And.intro (fun ad (e : a1 = some ad) => Nat.le_trans hsr (hF1 ad e)) (hf.step hf1 (fun _ _ h => h))))
      clear hS1 hF1 hf hf1 hw hS hF
      go_wp2_with fail
      go_roundw
      case rel => exact ⟨k + 1, a1, k1, by omega, by rw [Htk.out], by go_num, by rw [Htk.out]; exact H.out.1, H.out.2.1, H.out.2.2⟩
      case measure => simp [intOf]; omega
    · obtain rfl : k = L.length := by omega
      rw [List.take_length] at hS ⊢
      have H := Lib.hid (And.intro hS (And.intro hF hf))
      clear hS hF hf
      go_wp2_with fail
      go_ret
      exact ⟨⟨_, _, rfl, H.out.1, H.out.2.1⟩, H.out.2.2⟩
end Go.Proofs.YtbblkknndaoefaaGreatDoor
namespace Go.Proofs.YtbblkknndaoefaaGreatDoor
open Go.RowKit
set_option linter.unusedVariables false

theorem asc_of {l : List ByteArray} (h : l.Pairwise ltS) : AscS (l.map kb) := by
  refine List.pairwise_map.2 (h.imp (fun {x y} hxy => ?_))
  rw [ltS_iff] at hxy
  refine ⟨?_, fun e => ?_⟩
  · unfold leS
    exact decide_eq_true (List.not_lt.1 (fun h' => List.lt_irrefl _ (List.lt_trans hxy h')))
  · have e' : wbl x = wbl y := e
    rw [e'] at hxy
    exact List.lt_irrefl _ hxy
/-- The members with one inner text. -/
def goodL (L : List Mem) : List Mem := L.filter fun m => m.l.length == 1
theorem goodL_snoc (L : List Mem) (m : Mem) : goodL (L ++ [m]) = goodL L ++ (if m.l.length = 1 then [m] else []) := by
  unfold goodL
  rw [List.filter_append]
  by_cases h : m.l.length = 1 <;> simp [h]
theorem goodL_yes {L : List Mem} {k : Nat} {m : Mem} (h : L[k]? = some m) (h1 : m.l.length = 1) : goodL (L.take (k + 1)) = goodL (L.take k) ++ [m] := by
  rw [List.take_add_one, h, show (some m).toList = [m] from rfl, goodL_snoc, if_pos h1]
theorem goodL_no {L : List Mem} {k : Nat} {m : Mem} (h : L[k]? = some m) (h1 : ¬ m.l.length = 1) : goodL (L.take (k + 1)) = goodL (L.take k) := by
  rw [List.take_add_one, h, show (some m).toList = [m] from rfl, goodL_snoc, if_neg h1, List.append_nil]
theorem best_good (L : List Mem) : best (goodL L) = best L := by
  refine rev_ind (P := fun L => best (goodL L) = best L) rfl ?_ L
  intro l m ih
  rw [goodL_snoc, best_snoc]
  by_cases h : m.l.length = 1
  · rw [if_pos h, best_snoc, ih]
  · rw [if_neg h, List.append_nil, ih, bestS_skip h]
theorem ids33 (L : List Mem) : IsIds L (idsW (goodL L)) := by
  refine ⟨asc_of (idsW_ok _).1, fun x => ?_⟩
  rw [(idsW_ok _).2.1, best_some_iff]
  constructor
  · rintro ⟨m, hm, rfl⟩
    obtain ⟨h1, h2⟩ := List.mem_filter.1 hm
    exact ⟨m, h1, by simpa using h2, rfl⟩
  · rintro ⟨m, h1, h2, h3⟩
    exact ⟨m, List.mem_filter.2 ⟨h1, by simpa using h2⟩, kb_inj h3⟩
theorem bestS_other {g : List UInt8 → Option Mem} {m : Mem} {x : ByteArray} (h : m.i ≠ x) : bestS g m (kb x) = g (kb x) := by
  unfold bestS
  rw [if_neg]
  intro e
  simp only [Bool.and_eq_true, beq_iff_eq] at e
  exact h (kb_inj e.1.2).symm
/-- The owners, with the places of their inner texts as they stand in the list. -/
def ownF (L : List Mem) (ids : List ByteArray) : List Mem := ids.map fun x => (best L (kb x)).getD Mem.zero
theorem ownF_k (L : List Mem) (ids : List ByteArray) : (ownF L ids).map Mem.k = own1 L ids := by
  unfold ownF own1
  rw [List.map_map]; rfl
theorem goodL_len (L : List Mem) : (goodL L).length ≤ L.length := List.length_filter_le _ _
theorem goodL_mem {L : List Mem} {m : Mem} (h : m ∈ goodL L) : m ∈ L ∧ m.l.length = 1 := by
  obtain ⟨h1, h2⟩ := List.mem_filter.1 h
  exact ⟨h1, by simpa using h2⟩
theorem ownF_mem {L : List Mem} {x : ByteArray} (h : x ∈ idsW (goodL L)) : ∃ m, best L (kb x) = some m ∧ m ∈ L ∧ m.l.length = 1 ∧ m.i = x := by
  obtain ⟨m, hm⟩ := Option.isSome_iff_exists.1 (((ids33 L).mem x).1 h)
  obtain ⟨h1, h2, h3⟩ := best_mem L _ m hm
  exact ⟨m, hm, h1, h2, kb_inj h3⟩
end Go.Proofs.YtbblkknndaoefaaGreatDoor
namespace Go.Proofs.YtbblkknndaoefaaGreatDoor
open Go.RowKit
set_option linter.unusedVariables false

def best2S (good : Mem → Bool) (g : ByteArray × Int → Option Mem) (m : Mem) : ByteArray × Int → Option Mem := fun x =>
  if (good m && decide (x = (m.i, m.s)) && (match g x with | none => true | some o => ahead m o)) = true then some m else g x
/-- The best member of each place. -/
def best2 (good : Mem → Bool) (L : List Mem) : ByteArray × Int → Option Mem := L.foldl (best2S good) fun _ => none
section
variable {good : Mem → Bool}
theorem best2_snoc (L : List Mem) (m : Mem) : best2 good (L ++ [m]) = best2S good (best2 good L) m := by simp [best2, List.foldl_append]
theorem best2S_cases (g : ByteArray × Int → Option Mem) (m : Mem) (x : ByteArray × Int) : (best2S good g m x = some m ∧ good m = true ∧ x = (m.i, m.s) ∧ ∀ o, g x = some o → ahead m o = true) ∨ (best2S good g m x = g x ∧ (good m = true → x = (m.i, m.s) → ∃ o, g x = some o ∧ ahead m o = false)) := by
  by_cases h1 : good m = true
  · by_cases h2 : x = (m.i, m.s)
    · rcases hg : g x with _ | o
      · refine .inl ⟨?_, h1, h2, fun o ho => by cases ho⟩
        unfold best2S; rw [hg]; simp [h1, h2]
      · cases ha : ahead m o with
        | true =>
          refine .inl ⟨?_, h1, h2, fun o' ho => by cases ho; exact ha⟩
          unfold best2S; rw [hg]; simp [h1, h2, ha]
        | false =>
          refine .inr ⟨?_, fun _ _ => ⟨o, rfl, ha⟩⟩
          unfold best2S; rw [hg]; simp [ha]
    · refine .inr ⟨?_, fun _ h => absurd h h2⟩
      unfold best2S; rw [if_neg (by simp [h2])]
  · refine .inr ⟨?_, fun h => absurd h h1⟩
    unfold best2S; rw [if_neg (by simp [h1])]
theorem best2S_skip {g : ByteArray × Int → Option Mem} {m : Mem} (h : good m = false) : best2S good g m = g := by
  funext x; unfold best2S; rw [if_neg (by simp [h])]
theorem best2S_keep {g : ByteArray × Int → Option Mem} {m o : Mem} (hg : g (m.i, m.s) = some o) (h : ahead m o = false) : best2S good g m = g := by
  funext x; unfold best2S
  by_cases e : x = (m.i, m.s)
  · subst e; rw [hg]; simp [h]
  · rw [if_neg (by simp [e])]
theorem best2S_take {g : ByteArray × Int → Option Mem} {m : Mem} (h1 : good m = true) (h : ∀ o, g (m.i, m.s) = some o → ahead m o = true) : best2S good g m = fun x => if x = (m.i, m.s) then some m else g x := by
  funext x; unfold best2S
  by_cases e : x = (m.i, m.s)
  · subst e
    rw [if_pos rfl]
    rcases hg : g (m.i, m.s) with _ | o
    · simp [h1]
    · simp [h1, h o hg]
  · rw [if_neg (by simp [e]), if_neg e]
theorem best2_mem (L : List Mem) : ∀ x m, best2 good L x = some m → m ∈ L ∧ good m = true ∧ (m.i, m.s) = x := by
  refine rev_ind (P := fun L => ∀ x m, best2 good L x = some m → m ∈ L ∧ good m = true ∧ (m.i, m.s) = x) ?_ ?_ L
  · intro x m h; cases h
  · intro l y ih x m h
    rw [best2_snoc] at h
    rcases best2S_cases (best2 good l) y x with ⟨h1, h2, h3, _⟩ | ⟨h1, _⟩
    · rw [h1] at h; cases h
      exact ⟨by simp, h2, h3.symm⟩
    · rw [h1] at h
      obtain ⟨a, b⟩ := ih x m h
      exact ⟨by simp [a], b⟩
theorem best2_some (L : List Mem) : ∀ m ∈ L, good m = true → ∃ o, best2 good L (m.i, m.s) = some o := by
  refine rev_ind (P := fun L => ∀ m ∈ L, good m = true → ∃ o, best2 good L (m.i, m.s) = some o) ?_ ?_ L
  · intro m h; cases h
  · intro l y ih m hm h1
    rw [best2_snoc]
    rcases best2S_cases (best2 good l) y (m.i, m.s) with ⟨h2, _⟩ | ⟨h2, h3⟩
    · exact ⟨y, h2⟩
    · rw [h2]
      rcases List.mem_append.1 hm with hm | hm
      · exact ih m hm h1
      · obtain rfl : m = y := by simpa using hm
        obtain ⟨o, ho, _⟩ := h3 h1 rfl
        exact ⟨o, ho⟩
theorem best2_least (L : List Mem) : L.Pairwise (fun m o => m.p ≠ o.p) → ∀ m ∈ L, good m = true → ∀ o, best2 good L (m.i, m.s) = some o → m = o ∨ ahead o m = true := by
  refine rev_ind (P := fun L => L.Pairwise (fun m o => m.p ≠ o.p) → ∀ m ∈ L, good m = true → ∀ o, best2 good L (m.i, m.s) = some o → m = o ∨ ahead o m = true) ?_ ?_ L
  · intro _ m h; cases h
  · intro l y ih hp m hm h1 o ho
    obtain ⟨hp1, _, hp2⟩ := List.pairwise_append.1 hp
    rw [best2_snoc] at ho
    rcases best2S_cases (best2 good l) y (m.i, m.s) with ⟨h2, h3, h4, h5⟩ | ⟨h2, h3⟩
    · rw [h2] at ho; cases ho
      rcases List.mem_append.1 hm with hm | hm
      · obtain ⟨o', ho'⟩ := best2_some l m hm h1
        right
        rcases ih hp1 m hm h1 o' ho' with rfl | h6
        · exact h5 _ ho'
        · exact ahead_trans (h5 o' ho') h6
      · exact .inl (by simpa using hm)
    · rw [h2] at ho
      rcases List.mem_append.1 hm with hm | hm
      · exact ih hp1 m hm h1 o ho
      · obtain rfl : m = y := by simpa using hm
        obtain ⟨o', ho', h6⟩ := h3 h1 rfl
        rw [ho] at ho'; cases ho'
        exact .inr (ahead_total (Ne.symm (hp2 o (best2_mem l _ o ho).1 m (by simp))) h6)
theorem best2_order {L L' : List Mem} (hp : L.Pairwise (fun m o => m.p ≠ o.p)) (hp' : L'.Pairwise (fun m o => m.p ≠ o.p)) (h : ∀ m, m ∈ L ↔ m ∈ L') (x : ByteArray × Int) : best2 good L x = best2 good L' x := by
  rcases h1 : best2 good L x with _ | o
  · rcases h2 : best2 good L' x with _ | o'
    · rfl
    · exfalso
      obtain ⟨a, b, c⟩ := best2_mem L' x o' h2
      obtain ⟨z, hz⟩ := best2_some L o' ((h o').2 a) b
      rw [c, h1] at hz; cases hz
  · obtain ⟨a, b, c⟩ := best2_mem L x o h1
    obtain ⟨o', ho'⟩ := best2_some L' o ((h o).1 a) b
    rw [c] at ho'
    rw [ho']
    obtain ⟨a', b', c'⟩ := best2_mem L' x o' ho'
    rcases best2_least L' hp' o ((h o).1 a) b o' (by rw [c]; exact ho') with e | h3
    · rw [e]
    · rcases best2_least L hp o' ((h o').2 a') b' o (by rw [c']; exact h1) with e | h4
      · rw [e]
      · rw [ahead_asymm h3] at h4; cases h4
end

/-- A member has a path, and a slot and a total that may be. -/
def soundB (m : Mem) : Bool := !m.p.toList.isEmpty && (decide (1 ≤ m.s) && decide (m.s ≤ 16)) && (decide (1 ≤ m.t) && decide (m.t ≤ 16))

/-- An array: its ID, paths, total, least, count, inner texts. -/
structure Arr where
  i : ByteArray
  ps : List ByteArray
  t : Int
  e : Int
  n : Int
  l : List ByteArray
/-- The least slot of an ID. -/
def leastSlot (b : ByteArray × Int → Option Mem) (id : ByteArray) : Int := (((List.range 16).find? fun (k : Nat) => (b (id, (k : Int) + 1)).isSome).getD 0 : Nat) + 1
def firstOf (b : ByteArray × Int → Option Mem) (id : ByteArray) : Mem := (b (id, leastSlot b id)).getD Mem.zero
def pathAt (b : ByteArray × Int → Option Mem) (id : ByteArray) (k : Nat) : ByteArray := match b (id, (k : Int) + 1) with | some m => m.p | none => ⟨#[]⟩
/-- The array of an ID. -/
def buildA (b : ByteArray × Int → Option Mem) (id : ByteArray) : Arr :=
  ⟨id, (List.range (firstOf b id).t.toNat).map (pathAt b id), (firstOf b id).t, (firstOf b id).e, ((List.range (firstOf b id).t.toNat).filter fun (k : Nat) => (b (id, (k : Int) + 1)).isSome).length, (firstOf b id).l⟩
/-- ids are the IDs, ascending. -/
structure IsIds2 (b : ByteArray × Int → Option Mem) (ids : List ByteArray) : Prop where
  asc : AscS (ids.map kb)
  mem : ∀ x : ByteArray, x ∈ ids ↔ ∃ s : Int, (b (x, s)).isSome = true
theorem IsIds2.unique {b : ByteArray × Int → Option Mem} {ids ids' : List ByteArray} (h : IsIds2 b ids) (h' : IsIds2 b ids') : ids = ids' := by
  refine map_kb_inj (AscS.ext h.asc h'.asc fun x => ?_)
  rw [mem_kb, mem_kb, h.mem, h'.mem]
/-- The slots of an ID: each once. -/
structure IsSlots (b : ByteArray × Int → Option Mem) (id : ByteArray) (zs : List Int) : Prop where
  nodup : zs.Nodup
  mem : ∀ s : Int, s ∈ zs ↔ (b (id, s)).isSome = true
theorem leastSlot_min {b : ByteArray × Int → Option Mem} {id : ByteArray} {zs : List Int} (h : IsSlots b id zs) (hr : ∀ s ∈ zs, 1 ≤ s ∧ s ≤ 16) {m : Int} (hm : m ∈ zs) (hmin : ∀ s ∈ zs, m ≤ s) : leastSlot b id = m := by
  unfold leastSlot
  obtain ⟨h1, h2⟩ := hr m hm
  obtain ⟨k, rfl⟩ : ∃ k : Nat, m = (k : Int) + 1 := ⟨(m - 1).toNat, by omega⟩
  have hf : (List.range 16).find? (fun (k : Nat) => (b (id, (k : Int) + 1)).isSome) = some k := by
    rw [List.find?_range_eq_some]
    refine ⟨(h.mem _).1 hm, List.mem_range.2 (by omega), fun j hj => ?_⟩
    cases hb : (b (id, (j : Int) + 1)).isSome with
    | false => rfl
    | true =>
      have := hmin _ ((h.mem _).2 hb)
      omega
  rw [hf]; rfl
/-- The paths, when the slots zs have been seen. -/
def psJ (b : ByteArray × Int → Option Mem) (id : ByteArray) (T : Nat) (zs : List Int) : List ByteArray := (List.range T).map fun (k : Nat) => if ((k : Int) + 1) ∈ zs then pathAt b id k else ⟨#[]⟩
def cntJ (T : Int) (zs : List Int) : Nat := (zs.filter fun s => decide (s ≤ T)).length
theorem psJ_len (b : ByteArray × Int → Option Mem) (id : ByteArray) (T : Nat) (zs : List Int) : (psJ b id T zs).length = T := by simp [psJ]
theorem psJ_nil (b : ByteArray × Int → Option Mem) (id : ByteArray) (T : Nat) : psJ b id T [] = List.replicate T ⟨#[]⟩ := by
  unfold psJ
  simp only [List.not_mem_nil, if_false]
  rw [List.map_const', List.length_range]
theorem psJ_put (b : ByteArray × Int → Option Mem) (id : ByteArray) (T : Nat) (zs : List Int) (k : Nat) (hk : k < T) : psJ b id T (zs ++ [(k : Int) + 1]) = (psJ b id T zs).set k (pathAt b id k) := by
  apply List.ext_getElem?
  intro j
  rw [List.getElem?_set]
  unfold psJ
  by_cases hj : j < T
  · simp only [List.getElem?_map, List.getElem?_range hj, Option.map_some, List.length_map, List.length_range]
    by_cases e : k = j
    · subst e
      simp [hj]
    · have : ((j : Int) + 1 ∈ zs ++ [(k : Int) + 1]) ↔ (j : Int) + 1 ∈ zs := by
        simp; omega
      simp only [this, if_neg e]
  · have h1 : (List.range T)[j]? = none := List.getElem?_eq_none (by simp; omega)
    rw [List.getElem?_map, List.getElem?_map, h1]
    have e : k ≠ j := by omega
    simp [e]
theorem psJ_skip (b : ByteArray × Int → Option Mem) (id : ByteArray) (T : Nat) (zs : List Int) (s : Int) (hs : ¬ s ≤ T) : psJ b id T (zs ++ [s]) = psJ b id T zs := by
  unfold psJ
  refine List.map_congr_left (fun k hk => ?_)
  have hk' := List.mem_range.1 hk
  have : ((k : Int) + 1 ∈ zs ++ [s]) ↔ (k : Int) + 1 ∈ zs := by simp; omega
  simp only [this]
theorem psJ_full {b : ByteArray × Int → Option Mem} {id : ByteArray} {zs : List Int} (h : IsSlots b id zs) (T : Nat) : psJ b id T zs = (List.range T).map (pathAt b id) := by
  unfold psJ
  refine List.map_congr_left (fun k _ => ?_)
  split
  · rfl
  · rename_i hn
    rw [h.mem] at hn
    unfold pathAt
    rcases hb : b (id, (k : Int) + 1) with _ | m
    · rfl
    · rw [hb] at hn; simp at hn
theorem cntJ_full {b : ByteArray × Int → Option Mem} {id : ByteArray} {zs : List Int} (h : IsSlots b id zs) (hr : ∀ s ∈ zs, 1 ≤ s) (T : Nat) : cntJ T zs = ((List.range T).filter fun (k : Nat) => (b (id, (k : Int) + 1)).isSome).length := by
  unfold cntJ
  have hp : (zs.filter fun s => decide (s ≤ (T : Int))).Perm (((List.range T).filter fun (k : Nat) => (b (id, (k : Int) + 1)).isSome).map fun k : Nat => (k : Int) + 1) := by
    rw [List.perm_ext_iff_of_nodup]
    · intro s
      simp only [List.mem_filter, List.mem_map, List.mem_range, decide_eq_true_eq]
      constructor
      · rintro ⟨h1, h2⟩
        have h3 := hr s h1
        refine ⟨(s - 1).toNat, ⟨by omega, ?_⟩, by omega⟩
        rw [show (((s - 1).toNat : Nat) : Int) + 1 = s by omega]
        exact (h.mem s).1 h1
      · rintro ⟨k, ⟨h1, h2⟩, rfl⟩
        exact ⟨(h.mem _).2 h2, by omega⟩
    · exact h.nodup.sublist List.filter_sublist
    · refine List.pairwise_map.2 ((List.nodup_range.sublist List.filter_sublist).imp (fun {a b} hab e => hab (by omega)))
  rw [hp.length_eq, List.length_map]
theorem cntJ_snoc (T : Int) (zs : List Int) (s : Int) : cntJ T (zs ++ [s]) = cntJ T zs + (if s ≤ T then 1 else 0) := by
  unfold cntJ
  rw [List.filter_append, List.length_append]
  congr 1
  by_cases h : s ≤ T <;> simp [h]
theorem cntJ_le (T : Int) (zs : List Int) : cntJ T zs ≤ zs.length := List.length_filter_le _ _
end Go.Proofs.YtbblkknndaoefaaGreatDoor
