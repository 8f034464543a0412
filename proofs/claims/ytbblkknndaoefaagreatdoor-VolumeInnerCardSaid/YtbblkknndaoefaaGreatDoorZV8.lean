/- tree.Find. One, Contents. Tree: makes a tree of any numbers. tree.first, tree.Find; the closure of Gone. Package relate: sets; partitions. relate.partition, relate.Partition. The parser's cursor: until, skip, want, number. -/
import Derived.Test.YtbblkknndaoefaaGreatDoorZV2
import Derived.Test.YtbblkknndaoefaaGreatDoorZV3
import Derived.Test.YtbblkknndaoefaaGreatDoorZV6
import Derived.Test.YtbblkknndaoefaaGreatDoorZV1
import Derived.Deep.DeepCutAuto
import Derived.Lib.SliceRun
import Derived.Test.YtbblkknndaoefaaGreatDoorStrs2
import Derived.Test.YtbblkknndaoefaaGreatDoorZV7
import Derived.Test.YtbblkknndaoefaaGreatDoorStrs3
import Derived.Lib.AtoiAllCases
import Derived.Lib.AppendIntMem
namespace Go.Proofs.YtbblkknndaoefaaGreatDoor
open Go.RowKit Go.Maps
set_option linter.unusedVariables false

def aflat (l : List (ByteArray × ByteArray)) : List Value := l.flatMap (fun x => [.string x.1, .string x.2])
theorem aflat_len (l : List (ByteArray × ByteArray)) : (aflat l).length = l.length * 2 := by
  induction l with
  | nil => rfl
  | cons d t ih =>
    have : aflat (d :: t) = [.string d.1, .string d.2] ++ aflat t := by simp [aflat]
    rw [this, List.length_append, ih]
    simp; omega
theorem aflat_at : ∀ (l : List (ByteArray × ByteArray)) (i : Nat) (x : ByteArray × ByteArray), l[i]? = some x → (aflat l)[i * 2]? = some (.string x.1) ∧ (aflat l)[i * 2 + 1]? = some (.string x.2)
  | [], i, d, h => by simp at h
  | y :: t, 0, x, h => by
    simp at h; subst h
    exact ⟨rfl, rfl⟩
  | y :: t, i + 1, x, h => by
    have e : aflat (y :: t) = .string y.1 :: .string y.2 :: aflat t := by simp [aflat]
    have h1 := aflat_at t i x (by simpa using h)
    rw [e, show (i + 1) * 2 = i * 2 + 1 + 1 from by omega]
    exact h1
theorem aflat_inv (l : List (ByteArray × ByteArray)) (j : Nat) (u : Value) (h : (aflat l)[j]? = some u) : ∃ i x, l[i]? = some x ∧ ((j = i * 2 ∧ u = .string x.1) ∨ (j = i * 2 + 1 ∧ u = .string x.2)) := by
  have hlt : j < (aflat l).length := (List.getElem?_eq_some_iff.1 h).1
  rw [aflat_len] at hlt
  have hi : j / 2 < l.length := by omega
  have h1 := aflat_at l (j / 2) l[j / 2] (List.getElem?_eq_getElem hi)
  refine ⟨j / 2, l[j / 2], List.getElem?_eq_getElem hi, ?_⟩
  rcases (by omega : j = j / 2 * 2 ∨ j = j / 2 * 2 + 1) with e | e
  · left; refine ⟨e, ?_⟩
    rw [e, h1.1] at h; exact (Option.some.inj h).symm
  · right; refine ⟨e, ?_⟩
    rw [e, h1.2] at h; exact (Option.some.inj h).symm
theorem aflat_one (l : List (ByteArray × ByteArray)) : ∀ u ∈ aflat l, u.oneCell' = true := by
  intro u hu
  obtain ⟨x, _, hu⟩ := List.mem_flatMap.1 hu
  simp at hu
  rcases hu with rfl | rfl <;> rfl
theorem Atts.src {W : World} {a : Option Addr} {cap : Nat} {l : List (ByteArray × ByteArray)} (h : Atts W a cap l) : ∀ ad, a = some ad → ∀ j u, (aflat l)[j]? = some u → W.cell? (ad.add j) = some u := by
  intro ad e j u hu
  obtain ⟨i, x, hx, hj⟩ := aflat_inv _ _ _ hu
  obtain ⟨h1, _, h3⟩ := h.cell ad e (by intro e; subst e; simp at hx)
  obtain ⟨b, o, sp⟩ := ad
  simp only at h1; subst h1
  have h4 := h3 i x hx
  rw [Addr.add_lit]
  rcases hj with ⟨rfl, rfl⟩ | ⟨rfl, rfl⟩
  · exact h4.1
  · exact h4.2
theorem Atts.of_own {w : World} {base : Nat} {e : TypeId} {v : Value} {l : List (ByteArray × ByteArray)} (h : w.ownsRow base e 2 v l.length (aflat l)) (hw : ∀ x ∈ l, x.1.size ≤ maxLen ∧ x.2.size ≤ maxLen) :
    ∃ a cap, v = .slice a l.length cap ∧ Atts w a cap l ∧ ∀ ad, a = some ad → base ≤ ad.block := by
  obtain ⟨_, ⟨rfl, h2⟩ | ⟨g, cap, cur, rfl, hg, hb, h1, h2, h3, h4⟩⟩ := h
  · have : l = [] := List.eq_nil_of_length_eq_zero h2
    subst this
    exact ⟨none, 0, rfl, Atts.nil w, fun _ e => by cases e⟩
  · refine ⟨some ⟨g, 0, none⟩, cap, rfl, ⟨h1, h2, (fun e => by cases e), hw, ?_⟩, fun ad e => by cases e; exact hg⟩
    intro ad e hne
    cases e
    refine ⟨rfl, lt_of_block hb, fun i x hi => ?_⟩
    have hlt : i < l.length := (List.getElem?_eq_some_iff.1 hi).1
    have h5 := aflat_at l i x hi
    rw [cell_of_block hb, cell_of_block hb]
    simp only [Nat.zero_add]
    rw [← Array.getElem?_toList, ← Array.getElem?_toList]
    have e1 : ∀ j, j < l.length * 2 → cur.toList[j]? = (aflat l)[j]? := fun j hj => by
      rw [← h4, List.getElem?_take_of_lt hj]
    rw [e1 _ (by omega), e1 _ (by omega)]
    exact h5

end Go.Proofs.YtbblkknndaoefaaGreatDoor
namespace Go.Proofs.YtbblkknndaoefaaGreatDoor
open Go.RowKit Go.Maps
set_option linter.unusedVariables false

/-- One text of a list is handed back. -/
def OneOf (l : List ByteArray) (e : Ending) : Prop := ∃ s, e = .returned (.string s) ∧ s ∈ l

set_option maxHeartbeats 1000000 in
theorem tape_one (B tb k : Nat) (a : Option Addr) (cap : Nat) (l : List ByteArray) (w : World) (ht : Tape w B tb k) (hk : k ≤ 1000000000000) (hl : Strs w a cap l) (h1 : 1 ≤ l.length) (h2 : l.length ≤ 4294967296) (htb : ∀ ad, a = some ad → ad.block ≠ tb) :
    Calls Tryz.prog 54 #[.pointer (some ⟨tb, 0, none⟩), .slice a l.length cap] w fun e w' => OneOf l e ∧ Tape w' B tb (k + 1) ∧ Fr (Is tb) w w' := by
  have hne : ((l.length : Int) == 0) = false := by simp; intro h; subst h; simp at h1
  go_enter Tryz.func54, Tryz.ntmps54
  go_wp2_with fail
  refine (tape_next B tb k l.length _ ht hk (by omega) (by omega)).mono ?_
  rintro e w1 ⟨r, rfl, hr1, hr2, ht1, hf1⟩
  obtain ⟨r, rfl⟩ := Int.eq_ofNat_of_zero_le hr1
  have hlt : r < l.length := by omega
  have hl1 := hl.fr hf1 (fun ad e _ h => htb ad e h)
  obtain ⟨b, off, x, rfl, hx, hc⟩ := hl1.at hlt
  have Hx := Lib.hid hx
  clear hx
  go_wp2_with fail
  go_ret
  exact ⟨⟨x, rfl, List.mem_of_getElem? Hx.out⟩, ht1, hf1⟩

/-- The contents that Contents hands back. -/
def contents : List ByteArray := [
  ⟨#[]⟩,
  ⟨#[102, 115, 58, 102, 58]⟩,
  ⟨#[102, 115, 58, 103, 58, 76]⟩,
  ⟨#[114, 97, 105, 100, 58, 114, 58, 49, 47, 50, 47, 49, 40, 102, 115, 58, 102, 58, 41]⟩,
  ⟨#[114, 97, 105, 100, 58, 114, 58, 50, 47, 50, 47, 49, 40, 102, 115, 58, 102, 58, 41]⟩,
  ⟨#[99, 114, 121, 112, 116, 58, 99, 40, 102, 115, 58, 103, 58, 41]⟩,
  ⟨#[112, 118, 58, 118, 58, 49, 47, 49, 40, 102, 115, 58, 102, 58, 44, 99, 114, 121, 112, 116, 58, 99, 40, 102, 115, 58, 104, 58, 41, 41]⟩,
  ⟨#[116, 97, 98, 108, 101, 58, 116, 40, 102, 115, 58, 102, 58, 44, 99, 114, 121, 112, 116, 58, 99, 40, 114, 97, 105, 100, 58, 114, 58, 49, 47, 50, 47, 49, 40, 102, 115, 58, 120, 58, 41, 41, 41]⟩,
  ⟨#[116, 97, 98, 108, 101, 58, 116, 40, 114, 97, 105, 100, 58, 114, 58, 49, 47, 50, 47, 49, 40, 116, 97, 98, 108, 101, 58, 117, 40, 102, 115, 58, 102, 58, 41, 41, 44, 114, 97, 105, 100, 58, 114, 58, 50, 47, 50, 47, 49, 40, 116, 97, 98, 108, 101, 58, 117, 40, 102, 115, 58, 102, 58, 41, 41, 41]⟩,
  ⟨#[114, 97, 105, 100, 58, 114, 58, 49, 47, 49, 47, 49, 40, 114, 97, 105, 100, 58, 114, 58, 49, 47, 49, 47, 49, 40, 102, 115, 58, 102, 58, 41, 41]⟩,
  ⟨#[112, 118, 58, 118, 58, 49, 47, 50, 40, 102, 115, 58, 102, 58, 41]⟩,
  ⟨#[112, 118, 58, 118, 58, 50, 47, 50, 40, 102, 115, 58, 102, 58, 41]⟩,
  ⟨#[99, 114, 121, 112, 116, 58, 100, 40, 112, 118, 58, 118, 58, 49, 47, 49, 40, 114, 97, 105, 100, 58, 115, 58, 49, 47, 51, 47, 50, 40, 102, 115, 58, 121, 58, 41, 41, 41]⟩,
  ⟨#[114, 97, 105, 100, 58, 115, 58, 50, 47, 51, 47, 50, 40, 102, 115, 58, 121, 58, 41]⟩,
  ⟨#[114, 97, 105, 100, 58, 115, 58, 51, 47, 51, 47, 50, 40, 102, 115, 58, 121, 58, 41]⟩,
  ⟨#[110, 111, 110, 115, 101, 110, 115, 101]⟩]
theorem contents_size : ∀ s ∈ contents, s.size ≤ 256 := by decide
theorem contents_len : contents.length = 16 := rfl

theorem Strs.of_block {w : World} {b : Nat} {l : List ByteArray} {T : TypeId} {fz : Nat × Nat} (h : w.heap[b]? = some (.cells (l.map Value.string).toArray T fz)) (hm : l.length ≤ maxLen) : Strs w (some ⟨b, 0, none⟩) l.length l := by
  refine ⟨Nat.le_refl _, hm, (fun e => by cases e), fun ad e hne => ?_⟩
  cases e
  refine ⟨rfl, lt_of_block h, fun i x hi => ?_⟩
  rw [cell_of_block h]
  simp [hi]

set_option maxRecDepth 100000 in
set_option maxHeartbeats 1000000 in
theorem made_contents (w : World) :
    Calls Tryz.prog 36 #[] w fun e w' => e = .returned (.slice (some ⟨w.heap.size, 0, none⟩) 16 16) ∧ Strs w' (some ⟨w.heap.size, 0, none⟩) 16 contents ∧ Fr No w w' := by
  have hb := block_alloc w (.cells (contents.map Value.string).toArray 9)
  have hs := Strs.of_block hb (by rw [contents_len]; unfold maxLen; omega)
  rw [contents_len] at hs
  have hf : Fr No w (w.alloc (.cells (contents.map Value.string).toArray 9)) := (Fr.refl _ _).alloc _
  have H := Lib.hid (And.intro hs hf)
  clear hb hs hf
  go_enter Tryz.func36, Tryz.ntmps36
  go_wp2_with fail
  go_ret
  exact ⟨rfl, H.out⟩
end Go.Proofs.YtbblkknndaoefaaGreatDoor
/- Device: makes a device of any numbers. -/
namespace Go.Proofs.YtbblkknndaoefaaGreatDoor
open Go.RowKit Go.Maps
set_option linter.unusedVariables false

section
variable {w W W' : World} {B tb : Nat} {a : Option Addr} {n cap Bd : Nat} {i : Int} {k : Nat} {d : Dev} {l : List (ByteArray × ByteArray)}
end

/-- The tape's block, and what is new. -/
def TB (tb B0 : Nat) : Nat → Prop := fun x => x = tb ∨ B0 ≤ x
theorem Fr.swap {T : Nat → Prop} (w : World) (o o' : Obj) (h : T w.heap.size) : Fr T (w.alloc o) (w.alloc o') := by
  have f1 : Fr No w (w.alloc o) := (Fr.refl _ _).alloc _
  have f2 : Fr No w (w.alloc o') := (Fr.refl _ _).alloc _
  refine ⟨rfl, rfl, rfl, by simp, fun k hk hn => ?_⟩
  have hlt : k < w.heap.size := by
    rw [World.size_alloc] at hk
    by_cases e : k = w.heap.size
    · subst e; exact absurd h hn
    · omega
  exact (f2.block k hlt id).trans (f1.block k hlt id).symm

/-- What Device hands back. -/
structure DevTo (w w' : World) (B tb k' : Nat) (i : Int) (d : Dev) (l : List (ByteArray × ByteArray)) : Prop where
  fr : Fr (Is tb) w w'
  tape : Tape w' B tb k'
  ix : d.index = i
  drv : d.drv = ⟨#[]⟩
  sz : Sized d
  att : Atts w' d.aa d.ac l
  an : d.an = l.length
  afr : ∀ ad, d.aa = some ad → w.heap.size ≤ ad.block
  lb : l.length ≤ 1
def DevRes (w w' : World) (B tb K : Nat) (i : Int) (e : Ending) : Prop := ∃ k' d l, k' ≤ K ∧ e = .returned (.agg d.vals) ∧ DevTo w w' B tb k' i d l

/-- One at a list that was just laid. -/
theorem one_lit (B tb k n : Nat) (l : List ByteArray) (W : World) (ht : Tape W B tb k) (hk : k ≤ 1000000000000) (vs : Array Value) (hv : vs = (l.map Value.string).toArray) (hn : n = l.length) (h1 : 1 ≤ l.length) (h2 : l.length ≤ 4294967296) :
    Calls Tryz.prog 54 #[.pointer (some ⟨tb, 0, none⟩), .slice (some ⟨W.heap.size, 0, none⟩) n n] (W.alloc (.cells vs 9)) fun e w' => OneOf l e ∧ Tape w' B tb (k + 1) ∧ Fr (Is tb) W w' := by
  subst hv hn
  have hx : Fr No W (W.alloc (.cells (l.map Value.string).toArray 9)) := (Fr.refl _ _).alloc _
  have hs := Strs.of_block (block_alloc W (.cells (l.map Value.string).toArray 9)) (by unfold maxLen; omega)
  have htl := ht.lt
  exact (tape_one B tb k _ _ l _ (ht.fr hx (fun _ _ => id) id) hk hs h1 h2 (fun ad e => by cases e; simp; omega)).mono fun e w' ⟨h1, h2, h3⟩ => ⟨h1, h2, (hx.mono (T := Is tb) (fun _ _ h => h.elim)).step h3 (fun _ _ h => h)⟩
/-- One of some texts, all short. -/
theorem OneOf.short {l : List ByteArray} {e : Ending} (h : OneOf l e) {N : Nat} (hl : (l.all fun s => decide (s.size ≤ N)) = true) : ∃ s, e = .returned (.string s) ∧ s.size ≤ N := by
  obtain ⟨s, h1, h2⟩ := h
  exact ⟨s, h1, by simpa using List.all_eq_true.1 hl s h2⟩

end Go.Proofs.YtbblkknndaoefaaGreatDoor
namespace Go.Proofs.YtbblkknndaoefaaGreatDoor
open Go.RowKit Go.Maps
set_option linter.unusedVariables false

/-- A device whose attributes lie in memory, in blocks from base on. -/
structure ElOk (W : World) (base : Nat) (d : Dev) : Prop where
  sz : Sized d
  drv : d.drv = ⟨#[]⟩
  att : ∃ l, Atts W d.aa d.ac l ∧ d.an = l.length ∧ l.length ≤ 24
  fresh : ∀ ad, d.aa = some ad → base ≤ ad.block
/-- A tree in memory, in blocks from base on. -/
structure Tr (W : World) (base : Nat) (a : Option Addr) (cap : Nat) (ds : List Dev) : Prop where
  dv : Devs W a cap ds
  wf : TreeWf ds
  fresh : ∀ ad, a = some ad → base ≤ ad.block
  el : ∀ d ∈ ds, ElOk W base d
theorem ElOk.fr {S : Nat → Prop} {W W' : World} {base : Nat} {d : Dev} (h : ElOk W base d) (hf : Fr S W W') (hS : ∀ b, base ≤ b → ¬ S b) : ElOk W' base d := by
  obtain ⟨l, h1, h2⟩ := h.att
  exact ⟨h.sz, h.drv, ⟨l, h1.fr hf (fun ad e _ => hS _ (h.fresh ad e)), h2⟩, h.fresh⟩
theorem Tr.fr {S : Nat → Prop} {W W' : World} {base : Nat} {a : Option Addr} {cap : Nat} {ds : List Dev} (h : Tr W base a cap ds) (hf : Fr S W W') (hS : ∀ b, base ≤ b → ¬ S b) : Tr W' base a cap ds :=
  ⟨h.dv.fr hf (fun ad e _ => hS _ (h.fresh ad e)), h.wf, h.fresh, fun d hd => (h.el d hd).fr hf hS⟩
theorem Tr.no {W W' : World} {base : Nat} {a : Option Addr} {cap : Nat} {ds : List Dev} (h : Tr W base a cap ds) (hf : Fr No W W') : Tr W' base a cap ds := h.fr hf (fun _ _ => id)
theorem Tr.nil (W : World) (base : Nat) : Tr W base none 0 [] := ⟨Devs.nil W, TreeWf.nil, (fun _ e => by cases e), (fun d h => by simp at h)⟩

section
variable {w W W' : World} {B tb k : Nat} {a : Option Addr} {cap : Nat} {ds : List Dev}
theorem Tr.store (h : Tr W (w.heap.size + 2) a cap ds) {b : Nat} {x : Option Addr} {y z : Nat} {T : TypeId} (hb : W.heap[b]? = some (.cells #[.slice x y z] T)) (v : Value) : Tr (W.setCell ⟨b, 0, none⟩ v) (w.heap.size + 2) a cap ds := by
  have hf : Fr (Is b) W (W.setCell ⟨b, 0, none⟩ v) := Fr.setAt (Fr.refl _ _) _
  have hc : ∀ (o : Nat) (u : Value), W.cell? ⟨b, o, none⟩ = some u → u = .slice x y z := fun o u hu => by
    rw [cell_of_block hb] at hu
    match o, hu with
    | 0, hu => simpa using hu.symm
  refine ⟨h.dv.fr hf (fun ad e hne hS => ?_), h.wf, h.fresh, fun d hd => ?_⟩
  · obtain ⟨h1, _, h3⟩ := h.dv.cell ad e hne
    cases ds with
    | nil => exact hne rfl
    | cons d t =>
      have h4 := h3 0 d rfl 0 (by omega)
      unfold Is at hS
      rw [hS] at h4
      have := hc _ _ h4
      cases this
  · have he := h.el d hd
    obtain ⟨l, h1, h2⟩ := he.att
    refine ⟨he.sz, he.drv, ⟨l, h1.fr hf (fun ad e hne hS => ?_), h2⟩, he.fresh⟩
    obtain ⟨_, _, h3⟩ := h1.cell ad e hne
    cases l with
    | nil => exact hne rfl
    | cons q t =>
      have h4 := (h3 0 q rfl).1
      unfold Is at hS
      rw [hS] at h4
      have := hc _ _ h4
      cases this
end

theorem DevTo.el {w w' : World} {B tb k' : Nat} {i : Int} {d : Dev} {l : List (ByteArray × ByteArray)} (h : DevTo w w' B tb k' i d l) {base : Nat} (hb : base ≤ w.heap.size) : ElOk w' base d :=
  ⟨h.sz, h.drv, ⟨l, h.att, h.an, by have := h.lb; omega⟩, fun ad e => Nat.le_trans hb (h.afr ad e)⟩

/-- What Tree hands back. -/
def TreeRes (w w' : World) (B tb K N : Nat) (e : Ending) : Prop := ∃ a cap ds k', k' ≤ K ∧ ds.length ≤ N ∧ e = .returned (.agg #[.slice a ds.length cap]) ∧ Tr w' (w.heap.size + 2) a cap ds ∧ Tape w' B tb k' ∧ Fr (Is tb) w w'

end Go.Proofs.YtbblkknndaoefaaGreatDoor
/- A tree in memory under frames; a new tape. -/
namespace Go.Proofs.YtbblkknndaoefaaGreatDoor
open Go.RowKit Go.Maps
set_option linter.unusedVariables false

theorem Tr.keep {X W : World} {base : Nat} {a : Option Addr} {cap : Nat} {ds : List Dev} {S : Nat → Prop} (h : Tr X base a cap ds) (hf : Fr S X W) (hS : ∀ b, b < X.heap.size → base ≤ b → ¬ S b) : Tr W base a cap ds := by
  refine ⟨h.dv.fr hf (fun ad e hne => hS _ (h.dv.cell ad e hne).2.1 (h.fresh ad e)), h.wf, h.fresh, fun d hd => ?_⟩
  have he := h.el d hd
  obtain ⟨l, h1, h2⟩ := he.att
  exact ⟨he.sz, he.drv, ⟨l, h1.fr hf (fun ad e hne => hS _ (h1.cell ad e hne).2.1 (he.fresh ad e)), h2⟩, he.fresh⟩
theorem Tape.make {w : World} {a : Option Addr} {cap : Nat} {l : List Int} (h : Ints w a cap l) (T : TypeId) :
    Tape (w.alloc (.cells #[.slice a l.length cap, .int .i64 0] T)) w.heap.size w.heap.size 0 :=
  ⟨a, cap, l, T, h.fr ((Fr.refl No _).alloc _) (fun _ _ _ h => h), fun ad e hne => (h.cell ad e hne).2.1, Nat.le_refl _, block_alloc _ _⟩
end Go.Proofs.YtbblkknndaoefaaGreatDoor
namespace Go.Proofs.YtbblkknndaoefaaGreatDoor
open Go.RowKit Go.Maps
set_option linter.unusedVariables false

/-- A device was found, or not. -/
def FoundD (w w' : World) (ds : List Dev) (n : Int) (e : Ending) : Prop :=
  (look ds n = none ∧ e = .returned (.tuple #[.agg Dev.zero.vals, .bool false])) ∨
  ∃ d a' c' l, look ds n = some d ∧ e = .returned (.tuple #[.agg ({ d with aa := a', ac := c' } : Dev).vals, .bool true]) ∧ Atts w' a' c' l ∧ d.an = l.length ∧ l.length ≤ 24 ∧ ∀ ad, a' = some ad → w.heap.size ≤ ad.block

end Go.Proofs.YtbblkknndaoefaaGreatDoor
namespace Go.Proofs.YtbblkknndaoefaaGreatDoor
open Go.RowKit Go.Maps
set_option linter.unusedVariables false

theorem ISet.put {w w1 : World} {mb : Nat} {D : DataW Unit} {n N : Nat} {f : Int → Bool} (hn : n ≤ N) (ho : w.ownsMap Tryz.prog 3 unitElem mb n D) (h : ∀ x, has D (.int .i64 x) = f x) (x : Int) {v : DataW Unit} (ho1 : w1.ownsMap Tryz.prog 3 unitElem mb (n + 1) (D.put (.int .i64 x) v)) : ISet w1 mb (upd f x true) (N + 1) := by
  refine ⟨_, n + 1, by omega, ho1, fun y => ?_⟩
  unfold upd
  split
  · rename_i h; subst h; exact has_put_same ho.isMap (isKeyInt _) _
  · rename_i h2; rw [has_put_other (by intro e; exact h2 (by simpa using e))]; exact h y
theorem upd_take {l : List Int} {k : Nat} {x : Int} (h : l[k]? = some x) : upd (fun y => decide (y ∈ l.take k)) x true = fun y => decide (y ∈ l.take (k + 1)) := by
  funext y
  unfold upd
  rw [List.take_add_one, h]
  by_cases e : y = x
  · subst e; simp
  · simp [e]
theorem rset_made (w : World) : ISet (w.alloc (.map #[] 0)) w.heap.size (fun _ => false) 0 :=
  ⟨.map [], 0, Nat.le_refl _, World.ownsMap_made _ _ _ _, fun _ => rfl⟩

/-- The variables ErrSyntax (its block) and ErrRange (its block) hold errors. -/
structure ErrV (w : World) : Prop where
  s : ∃ ev, w.cell? ⟨3, 0, none⟩ = some ev ∧ (ev = .nilIface ∨ ∃ te pe, ev = .iface te pe)
  r : ∃ ev, w.cell? ⟨4, 0, none⟩ = some ev ∧ (ev = .nilIface ∨ ∃ te pe, ev = .iface te pe)
theorem ErrV.fr {S : Nat → Prop} {w w' : World} (h : ErrV w) (hf : Fr S w w') (h5 : ¬ S 3) (h6 : ¬ S 4) : ErrV w' := by
  obtain ⟨e5, c5, k5⟩ := h.s
  obtain ⟨e6, c6, k6⟩ := h.r
  exact ⟨⟨e5, hf.cell c5 h5, k5⟩, ⟨e6, hf.cell c6 h6, k6⟩⟩
theorem ErrV.no {w w' : World} (h : ErrV w) (hf : Fr No w w') : ErrV w' := h.fr hf id id

/-- What follows the parent's original and a p in a device's original. -/
def digitsB (p d : Dev) : ByteArray := ⟨(Lib.trimPrefix d.orig.data.toList (p.orig ++ ⟨#[112]⟩).data.toList).toArray⟩
/-- The number of a partition. -/
def partB (p d : Dev) : Option Int := match Lib.atoiAll (digitsB p d).data.toList with
  | .ok v => if Lib.hasPrefix d.orig.data.toList (p.orig ++ ⟨#[112]⟩).data.toList = true ∧ 1 ≤ v ∧ v ≤ 16 ∧ (Lib.decDigits v.toNat) = (digitsB p d).data.toList ∧ d.kind = 2 ∧ p.kind = 2 then some v else none
  | _ => none
def PartRes (o : Option Int) (e : Ending) : Prop := e = .returned (.tuple #[.int .i64 (o.getD 0), .bool o.isSome])
theorem digits_size {p d : Dev} (h : d.orig.size ≤ 32) : (digitsB p d).size ≤ 32 := by
  unfold digitsB Lib.trimPrefix
  have h2 : d.orig.data.toList.length ≤ 32 := by rw [← Lib.size_eq]; exact h
  split
  · simp only [ByteArray.size, List.size_toArray, List.length_drop]; omega
  · simp only [ByteArray.size, List.size_toArray]; exact h2
end Go.Proofs.YtbblkknndaoefaaGreatDoor
namespace Go.Proofs.YtbblkknndaoefaaGreatDoor
open Go.RowKit Go.Maps
set_option linter.unusedVariables false

def cutB (p d : Dev) : Bool := Lib.hasPrefix d.orig.data.toList (p.orig ++ ⟨#[112]⟩).data.toList
theorem cut_gen (s q : ByteArray) (w : World) : Calls Tryz.prog 193 #[.string s, .string q] w fun e w' => e = .returned (.tuple #[.string ⟨(Lib.trimPrefix s.data.toList q.data.toList).toArray⟩, .bool (Lib.hasPrefix s.data.toList q.data.toList)]) ∧ w = w' :=
  (Tryz.strings_CutPrefix s q w).mono fun e w' h => ⟨h.1, h.2.symm⟩
theorem cut_digits (p d : Dev) (w : World) : Calls Tryz.prog 193 #[.string d.orig, .string (p.orig ++ ⟨#[112]⟩)] w fun e w' => e = .returned (.tuple #[.string (digitsB p d), .bool (cutB p d)]) ∧ w = w' := by
  unfold digitsB cutB
  exact cut_gen _ _ w
def AtoiR (s : ByteArray) (e : Ending) : Prop :=
  (∃ v, Lib.atoiAll s.data.toList = .ok v ∧ e = .returned (.tuple #[.int .i64 v, .nilIface])) ∨ ((∀ v, Lib.atoiAll s.data.toList ≠ .ok v) ∧ ∃ (k : Int) (te : TypeId) (N : Nat), e = .returned (.tuple #[.int .i64 k, .iface te (.pointer (some ⟨N, 0, none⟩))]))
theorem atoi_any (s : ByteArray) (w : World) (hs : s.size ≤ 1000) (hE : ErrV w) : Calls Tryz.prog 143 #[.string s] w fun e w' => AtoiR s e ∧ Fr No w w' := by
  obtain ⟨e5, c5, k5⟩ := hE.s
  obtain ⟨e6, c6, k6⟩ := hE.r
  rcases h : Lib.atoiAll s.data.toList with v | _ | _
  · refine (Tryz.strconv_Atoi_ok s (by omega) v h w).mono ?_
    rintro e w' ⟨rfl, hw⟩
    refine ⟨.inl ⟨v, h, rfl⟩, ?_⟩
    rcases hw with rfl | ⟨t, rfl⟩
    · exact Fr.refl _ _
    · exact Fr.of_below_size (Lib.bytesWorld_below _ _ _)
  · refine (Any.strconv_Atoi_syntax Tryz.laysC172 s (by omega) h e5 w c5 k5).mono ?_
    rintro e w' ⟨N, rfl, _, _, hb⟩
    exact ⟨.inr ⟨fun v e => (by rw [h] at e; cases e), 0, _, N, rfl⟩, Fr.of_below_size hb⟩
  · refine (Tryz.strconv_Atoi_range s (by omega) h e6 w c6 k6).mono ?_
    rintro e w' ⟨N, rfl, _, _, hb⟩
    exact ⟨.inr ⟨fun v e => (by rw [h] at e; cases e), _, _, N, rfl⟩, Fr.of_below_size hb⟩
theorem partB_cut {p d : Dev} (h : cutB p d = false) : partB p d = none := by
  unfold cutB at h
  unfold partB
  split
  · rw [if_neg (by rw [h]; simp)]
  · rfl
theorem partB_err {p d : Dev} (h : ∀ v, Lib.atoiAll (digitsB p d).data.toList ≠ .ok v) : partB p d = none := by
  unfold partB
  split
  · rename_i v e; exact absurd e (h v)
  · rfl
theorem partB_ok {p d : Dev} {v : Int} (h : Lib.atoiAll (digitsB p d).data.toList = .ok v) : partB p d = if cutB p d = true ∧ 1 ≤ v ∧ v ≤ 16 ∧ (Lib.decDigits v.toNat) = (digitsB p d).data.toList ∧ d.kind = 2 ∧ p.kind = 2 then some v else none := by
  unfold partB cutB
  rw [h]

/-- The number of the partition that a device is. -/
def partOf (ds : List Dev) (n : Int) : Option Int := match look ds n with
  | none => none
  | some d => match look ds d.parent with
    | none => none
    | some p => partB p d

end Go.Proofs.YtbblkknndaoefaaGreatDoor
namespace Go.Proofs.YtbblkknndaoefaaGreatDoor
open Go.RowKit Go.Maps
set_option linter.unusedVariables false

def Ascii (s : ByteArray) : Prop := ∀ (j : Nat) b, s.data.toList[j]? = some b → b.toNat < 128
/-- The variables of the library that the parser's callees read. -/
structure Env (w : World) : Prop where
  len : ∃ m, w.cell? ⟨1, 0, none⟩ = some (.int .i64 m)
  err : ErrV w
  tab : Lib.TabIs Tryz.prog w "internal/strconv.uint64pow10" .u64 Lib.pow10Tab
  sz : 9 ≤ w.heap.size
theorem tabNamed : Tryz.prog.globalNamed "internal/strconv.uint64pow10" = some 0 := by kernel_rfl
theorem Env.fr {S : Nat → Prop} {w w' : World} (h : Env w) (hf : Fr S w w') (hS : ∀ b, b < 9 → ¬ S b) : Env w' := by
  obtain ⟨m, hm⟩ := h.len
  have hs := h.sz
  have hs' := hf.size
  refine ⟨⟨m, hf.cell hm (hS _ (by decide))⟩, h.err.fr hf (hS _ (by decide)) (hS _ (by decide)), ?_, by omega⟩
  have h1 := h.tab
  have h2 := hf.block 0 (by omega) (hS _ (by decide))
  have e : w'.var? Tryz.prog "internal/strconv.uint64pow10" = w.var? Tryz.prog "internal/strconv.uint64pow10" := by
    unfold World.var?
    rw [tabNamed]
    simp only [Option.bind_some, h2]
  unfold Lib.TabIs at *
  rw [e]
  exact h1
theorem Env.no {w w' : World} (h : Env w) (hf : Fr No w w') : Env w' := h.fr hf (fun _ _ => id)

/-- Block pb is a parser of the text s: r is what remains to be read. -/
structure Cur (w : World) (pb : Nat) (s : ByteArray) (r : List UInt8) (bad : Bool) : Prop where
  blk : ∃ at_ : Nat, w.heap[pb]? = some (.cells #[.string s, .int .i64 (at_ : Int), .bool bad] 116 (0, 0)) ∧ at_ ≤ s.size ∧ s.data.toList.drop at_ = r
theorem Cur.fr {S : Nat → Prop} {w w' : World} {pb : Nat} {s : ByteArray} {r : List UInt8} {bad : Bool} (h : Cur w pb s r bad) (hf : Fr S w w') (hS : ¬ S pb) : Cur w' pb s r bad := by
  obtain ⟨a, hb, h1, h2⟩ := h.blk
  exact ⟨a, hf.heap hb hS, h1, h2⟩
theorem Cur.no {w w' : World} {pb : Nat} {s : ByteArray} {r : List UInt8} {bad : Bool} (h : Cur w pb s r bad) (hf : Fr No w w') : Cur w' pb s r bad := h.fr hf id
theorem Cur.lt {w : World} {pb : Nat} {s : ByteArray} {r : List UInt8} {bad : Bool} (h : Cur w pb s r bad) : pb < w.heap.size := by
  obtain ⟨a, hb, h1, h2⟩ := h.blk; exact lt_of_block hb
theorem Cur.le {w : World} {pb : Nat} {s : ByteArray} {r : List UInt8} {bad : Bool} (h : Cur w pb s r bad) : r.length ≤ s.size := by
  obtain ⟨a, hb, h1, rfl⟩ := h.blk
  have : s.data.toList.length = s.size := (Lib.size_eq s).symm
  simp only [List.length_drop]; omega

theorem any_upto (ends : List UInt8) : ∀ r : List UInt8, (Lib.indexAny r ends = -1 ∧ upto ends r = r ∧ past ends r = []) ∨ ∃ k : Nat, Lib.indexAny r ends = (k : Int) ∧ k < r.length ∧ upto ends r = r.take k ∧ past ends r = r.drop k
  | [] => .inl ⟨rfl, rfl, rfl⟩
  | b :: l => by
    rw [Lib.indexAny]
    by_cases h : ends.contains b = true
    · rw [if_pos h]
      refine .inr ⟨0, rfl, by simp, ?_, ?_⟩
      · simp only [upto, List.takeWhile_cons, h]; simp
      · simp only [past, List.dropWhile_cons, h]; simp
    · have h' : ends.contains b = false := by simpa using h
      rw [if_neg h]
      rcases any_upto ends l with ⟨h1, h2, h3⟩ | ⟨k, h1, h2, h3, h4⟩
      · rw [h1]
        refine .inl ⟨rfl, ?_, ?_⟩
        · simp only [upto, List.takeWhile_cons, h', Bool.not_false, if_true] at h2 ⊢; rw [h2]
        · simp only [past, List.dropWhile_cons, h', Bool.not_false, if_true] at h3 ⊢; rw [h3]
      · rw [h1]
        refine .inr ⟨k + 1, ?_, by simp; omega, ?_, ?_⟩
        · rw [if_neg (by simp)]; rfl
        · simp only [upto, List.takeWhile_cons, h', Bool.not_false, if_true] at h3 ⊢; rw [h3]; rfl
        · simp only [past, List.dropWhile_cons, h', Bool.not_false, if_true] at h4 ⊢; rw [h4]; rfl

theorem zero256 (w : World) : (zeroValue 205).run Tryz.prog w = .ok (.agg (Array.replicate 256 (.bool false))) w := by kernel_rfl

set_option maxRecDepth 100000 in
set_option maxHeartbeats 1000000 in
theorem c_until (pb : Nat) (s ends : ByteArray) (r : List UInt8) (bad : Bool) (w : World) (hc : Cur w pb s r bad) (ha : Ascii s) (he : Ascii ends) (hs : s.size ≤ 1000000) (hes : ends.size ≤ 1000) :
    Calls Tryz.prog 116 #[.pointer (some ⟨pb, 0, none⟩), .string ends] w fun e w' => e = .returned (.string ⟨(upto ends.data.toList r).toArray⟩) ∧ Cur w' pb s (past ends.data.toList r) bad ∧ Fr (Is pb) w w' := by
  obtain ⟨a, hb, hal, hr⟩ := hc.blk
  have hal' : (a : Int) ≤ s.size := by omega
  have hsz : s.data.toList.length = s.size := (Lib.size_eq s).symm
  have hext : (s.extract a s.size).data.toList = r := by rw [Lib.extract_to_end]; exact hr
  obtain ⟨q, hq⟩ : ∃ q, q = s.extract a s.size := ⟨_, rfl⟩
  have hqr : q.data.toList = r := by rw [hq]; exact hext
  have hqs : q.size ≤ 1000000 := by
    have h1 : q.data.toList.length = q.size := (Lib.size_eq q).symm
    have h2 := hc.le
    rw [hqr] at h1; omega
  have hqa : Ascii q := fun j b hb => by
    rw [hqr, ← hr, List.getElem?_drop] at hb
    exact ha _ b hb
  have hany := any_upto ends.data.toList r
  have Hq := Lib.hid hq
  have Hqr := Lib.hid hqr
  have Hr := Lib.hid hr
  clear hext hq hqr hr
  go_enter Tryz.func116, Tryz.ntmps116
  go_wp2_with fail
  refine region_sig No [(0, false), (1, false), (2, false), (3, false), (4, false), (5, false), (6, false), (7, false), (8, false), (9, false)] (by kernel_rfl) (by kernel_rfl) (fun w0 hf0 => ?_)
  have hb0 := hf0.heap hb id
  have g0 : ∀ g : Gr No w0, g.W.cell? ⟨pb, 0, none⟩ = some (.string s) := fun g => g.fr.cell (cell_of_block hb0 0) id
  have g1 : ∀ g : Gr No w0, g.W.cell? ⟨pb, 1, none⟩ = some (.int .i64 (a : Int)) := fun g => g.fr.cell (cell_of_block hb0 1) id
  repeat (apply sig_q; exact rfl; exact rfl; exact rfl; intro K hK; go_big_quiet_op; go_big_quiet_on)
  refine sig_end ?_
  clear g0 g1
  rw [← Hq.out]
  have hfr0 : Fr No w w0 := hf0
  go_wp2_with fail
  refine (Tryz.strings_IndexAny zero256 q ends _ (by omega) (by omega) hqa he).mono ?_
  rintro e w1 ⟨rfl, hbel⟩
  have hf1 : Fr No w w1 := hfr0.step (Fr.of_below_size hbel) (fun _ _ h => h)
  have hb1 := hf1.heap hb id
  have c1 : w1.cell? ⟨pb, 1, none⟩ = some (.int .i64 (a : Int)) := cell_of_block hb1 1
  have z1 : w1.frozen? ⟨pb, 1, none⟩ = false := free_of_block hb1 1
  have hql : q.data.toList.length = q.size := (Lib.size_eq q).symm
  have hrl : r.length = q.size := by rw [← Hqr.out]; exact hql
  have haq : a + q.size = s.size := by
    have h1 := congrArg List.length Hr.out
    rw [List.length_drop] at h1; omega
  rw [Hqr.out]
  have key : ∀ k : Nat, k ≤ q.size → Hid (q.extract 0 k = ⟨(r.take k).toArray⟩ ∧ ∀ W, Fr No w W → W.heap[pb]? = some (.cells #[.string s, .int .i64 (a : Int), .bool bad] 116 (0, 0)) → Cur (W.setCell ⟨pb, 1, none⟩ (.int .i64 ((a : Int) + k))) pb s (r.drop k) bad ∧ Fr (Is pb) w (W.setCell ⟨pb, 1, none⟩ (.int .i64 ((a : Int) + k)))) := by
    intro k hk
    refine ⟨?_, fun W hW hbW => ⟨⟨a + k, ?_, by omega, ?_⟩, ?_⟩⟩
    · apply ByteArray.ext
      apply Array.ext'
      rw [Lib.extract_from_zero, Hqr.out]
    · rw [block_setCell hbW]; rfl
    · rw [← Hr.out, List.drop_drop]
    · exact (hW.mono (T := Is pb) (fun _ _ h => h.elim)).setAt _
  have Hkey := Lib.hid key
  clear hbel hfr0 hf0 hb0 hql key
  rcases hany with ⟨h1, h2, h3⟩ | ⟨k, h1, h2, h3, h4⟩
  · rw [h1]
    have hlen : ((q.size : Nat) : Int) ≤ q.size := Int.le_refl _
    have Hk := Lib.hid ((Hkey.out q.size (Nat.le_refl _)).out)
    have He : Hid (q = ⟨(upto ends.data.toList r).toArray⟩ ∧ r.drop q.size = past ends.data.toList r) := by
      unfold Hid
      refine ⟨?_, by rw [h3, ← hrl, List.drop_length]⟩
      rw [h2, ← Hqr.out]
    have Hf1 := Lib.hid (And.intro hf1 hb1)
    clear h1 h2 h3 hf1 hb1 Hkey hrl
    go_wp2_with fail
    go_ret
    have h5 := Hk.out.2 w1 Hf1.out.1 Hf1.out.2
    rw [He.out.2] at h5
    exact ⟨by show Ending.returned (.string q) = _; rw [← He.out.1], h5.1, h5.2⟩
  · rw [h1]
    have hkq : k < q.size := by omega
    have hk' : (k : Int) ≤ q.size := by omega
    have Hk := Lib.hid ((Hkey.out k (by omega)).out)
    have He : Hid (q.extract 0 k = ⟨(upto ends.data.toList r).toArray⟩ ∧ r.drop k = past ends.data.toList r) := by
      unfold Hid
      rw [Hk.out.1, h3, h4]
      exact ⟨rfl, rfl⟩
    have Hf1 := Lib.hid (And.intro hf1 hb1)
    clear h1 h2 h3 h4 hf1 hb1 Hkey hrl
    go_wp2_with fail
    go_ret
    have h5 := Hk.out.2 w1 Hf1.out.1 Hf1.out.2
    rw [He.out.2] at h5
    exact ⟨by show Ending.returned (.string (q.extract 0 k)) = _; rw [He.out.1], h5.1, h5.2⟩

theorem skip_prefix (b : UInt8) (r : List UInt8) : Lib.hasPrefix r [b] = (skip1 b r).isSome := by
  cases r with
  | nil => rfl
  | cons x t =>
    simp only [Lib.hasPrefix, skip1, List.isPrefixOf]
    by_cases h : x = b
    · subst h; simp
    · have h2 : (b == x) = false := by simpa using fun e => h e.symm
      simp [h, h2]
theorem skip_drop {b : UInt8} {r t : List UInt8} (h : skip1 b r = some t) : t = r.drop 1 := by rw [skip1_some h]; rfl

set_option maxRecDepth 100000 in
set_option maxHeartbeats 1000000 in
theorem c_skip (pb : Nat) (s : ByteArray) (b : UInt8) (r : List UInt8) (bad : Bool) (w : World) (hc : Cur w pb s r bad) (hs : s.size ≤ 1000000) :
    Calls Tryz.prog 142 #[.pointer (some ⟨pb, 0, none⟩), .string ⟨#[b]⟩] w fun e w' => e = .returned (.bool (skip1 b r).isSome) ∧ Cur w' pb s ((skip1 b r).getD r) bad ∧ Fr (Is pb) w w' := by
  obtain ⟨a, hb, hal, hr⟩ := hc.blk
  have hal' : (a : Int) ≤ s.size := by omega
  have hcl := hc.le
  have hsz : s.data.toList.length = s.size := (Lib.size_eq s).symm
  obtain ⟨q, hq⟩ : ∃ q, q = s.extract a s.size := ⟨_, rfl⟩
  have hqr : q.data.toList = r := by rw [hq, Lib.extract_to_end]; exact hr
  have hpre : Lib.hasPrefix q.data.toList (⟨#[b]⟩ : ByteArray).data.toList = (skip1 b r).isSome := by rw [hqr]; exact skip_prefix b r
  have hlen : r.length = s.size - a := by rw [← hr, List.length_drop]; omega
  have Hq := Lib.hid hq
  have Hr := Lib.hid hr
  have Hpre := Lib.hid hpre
  have Hc := Lib.hid hc
  clear hq hqr hr hpre hc
  go_enter Tryz.func142, Tryz.ntmps142
  go_wp2_with fail
  refine region_sig No [(0, false), (1, false), (2, false), (3, false), (4, false), (5, false), (6, false), (7, false), (8, false), (9, false), (10, true), (11, false)] (by kernel_rfl) (by kernel_rfl) (fun w0 hf0 => ?_)
  have hb0 := hf0.heap hb id
  have g0 : ∀ g : Gr No w0, g.W.cell? ⟨pb, 0, none⟩ = some (.string s) := fun g => g.fr.cell (cell_of_block hb0 0) id
  have g1 : ∀ g : Gr No w0, g.W.cell? ⟨pb, 1, none⟩ = some (.int .i64 (a : Int)) := fun g => g.fr.cell (cell_of_block hb0 1) id
  repeat (apply sig_q; exact rfl; exact rfl; exact rfl; intro K hK; go_big_quiet_op; go_big_quiet_on)
  clear g0 g1
  rw [← Hq.out]
  apply sig_m
  exact rfl
  go_wp2_with fail
  refine (Tryz.strings_HasPrefix q ⟨#[b]⟩ _).mono ?_
  rintro e w1 ⟨rfl, rfl⟩
  rw [Hpre.out]
  have c1 : w1.cell? ⟨pb, 1, none⟩ = some (.int .i64 (a : Int)) := cell_of_block hb0 1
  have z1 : w1.frozen? ⟨pb, 1, none⟩ = false := free_of_block hb0 1
  cases hk : skip1 b r with
  | none =>
    have H := Lib.hid (And.intro (Hc.out.no hf0) (hf0.mono (T := Is pb) (fun _ _ h => h.elim)))
    have Hk := Lib.hid hk
    clear hk hb0 hf0
    simp only [Option.isSome_none]
    go_wp2_with fail
    refine OnlyN.mk ⟨Fr.refl _ _, ?_⟩
    repeat (apply sig_q; exact rfl; exact rfl; exact rfl; intro K hK; go_big_quiet_op; go_big_quiet_on)
    refine sig_end ?_
    go_wp2_with fail
    go_ret
    rw [Hk.out]
    exact ⟨rfl, H.out.1, H.out.2⟩
  | some t =>
    have hrl : 1 ≤ r.length := by rw [skip1_some hk]; simp
    have H : Hid (Cur (w1.setCell ⟨pb, 1, none⟩ (.int .i64 ((a : Int) + 1))) pb s t bad ∧ Fr (Is pb) w (w1.setCell ⟨pb, 1, none⟩ (.int .i64 ((a : Int) + 1)))) := by
      refine ⟨⟨a + 1, ?_, by omega, ?_⟩, ?_⟩
      · rw [block_setCell hb0]; rfl
      · rw [skip_drop hk, ← Hr.out, List.drop_drop]
      · exact (hf0.mono (T := Is pb) (fun _ _ h => h.elim)).setAt _
    have Hk := Lib.hid hk
    clear hk hb0 hf0
    simp only [Option.isSome_some]
    go_wp2_with fail
    refine OnlyN.mk ⟨Fr.refl _ _, ?_⟩
    repeat (apply sig_q; exact rfl; exact rfl; exact rfl; intro K hK; go_big_quiet_op; go_big_quiet_on)
    refine sig_end ?_
    go_wp2_with fail
    go_ret
    rw [Hk.out]
    exact ⟨rfl, H.out.1, H.out.2⟩

set_option maxRecDepth 100000 in
set_option maxHeartbeats 1000000 in
theorem c_want (pb : Nat) (s : ByteArray) (b : UInt8) (r : List UInt8) (bad : Bool) (w : World) (hc : Cur w pb s r bad) (hs : s.size ≤ 1000000) :
    Calls Tryz.prog 117 #[.pointer (some ⟨pb, 0, none⟩), .string ⟨#[b]⟩] w fun e w' => e = .returned (.tuple #[]) ∧ Cur w' pb s ((skip1 b r).getD r) (bad || (skip1 b r).isNone) ∧ Fr (Is pb) w w' := by
  go_enter Tryz.func117, Tryz.ntmps117
  go_wp2_with fail
  refine (c_skip pb s b r bad _ hc hs).mono ?_
  rintro e w1 ⟨rfl, hc1, hf1⟩
  generalize hrr : (skip1 b r).getD r = r' at *
  have Hrr := Lib.hid hrr
  clear hrr
  obtain ⟨a, hb1, hal, hr⟩ := hc1.blk
  have c2 : w1.cell? ⟨pb, 2, none⟩ = some (.bool bad) := cell_of_block hb1 2
  have z2 : w1.frozen? ⟨pb, 2, none⟩ = false := free_of_block hb1 2
  have H : Hid (∀ v : Bool, Cur (w1.setCell ⟨pb, 2, none⟩ (.bool v)) pb s r' v ∧ Fr (Is pb) w (w1.setCell ⟨pb, 2, none⟩ (.bool v))) := by
    intro v
    refine ⟨⟨a, ?_, hal, hr⟩, hf1.setAt _⟩
    rw [block_setCell hb1]; rfl
  clear hb1 hc1 hf1 hr hc
  cases hk : skip1 b r with
  | none =>
    have Hk := Lib.hid hk
    clear hk
    simp only [Option.isSome_none]
    go_wp2_with fail
    go_end0
    rw [Hk.out]
    have h := H.out true
    exact ⟨rfl, by have e := Hrr.out; rw [Hk.out] at e; rw [e]; show Cur _ pb s r' (bad || true); rw [Bool.or_true]; exact h.1, h.2⟩
  | some t =>
    have Hk := Lib.hid hk
    clear hk
    simp only [Option.isSome_some]
    go_wp2_with fail
    go_end0
    rw [Hk.out]
    have h := H.out bad
    exact ⟨rfl, by have e := Hrr.out; rw [Hk.out] at e; rw [e]; show Cur _ pb s r' (bad || false); rw [Bool.or_false]; exact h.1, h.2⟩

/-- What number leaves. -/
def NumIs (r r' : List UInt8) (bad bad' : Bool) (n : Int) : Prop := (bad = true → bad' = true) ∧ (bad = false → (pNum r = none ∧ bad' = true) ∨ (pNum r = some (n, r') ∧ bad' = false))
theorem num_ascii : Ascii ⟨#[47, 40, 44, 41, 58]⟩ := fun j b hb => by
  have h : ∀ x ∈ ([47, 40, 44, 41, 58] : List UInt8), x.toNat < 128 := by decide
  exact h b (List.mem_of_getElem? hb)

set_option maxRecDepth 100000 in
set_option maxHeartbeats 1000000 in
theorem c_number (pb : Nat) (s : ByteArray) (r : List UInt8) (bad : Bool) (w : World) (hc : Cur w pb s r bad) (ha : Ascii s) (hs : s.size ≤ 900) (hE : Env w) (h9 : 9 ≤ pb) :
    Calls Tryz.prog 118 #[.pointer (some ⟨pb, 0, none⟩)] w fun e w' => ∃ n r' bad', e = .returned (.int .i64 n) ∧ r'.length ≤ r.length ∧ Cur w' pb s r' bad' ∧ NumIs r r' bad bad' n ∧ Fr (Is pb) w w' := by
  go_enter Tryz.func118, Tryz.ntmps118
  go_wp2_with fail
  refine (c_until pb s ⟨#[47, 40, 44, 41, 58]⟩ r bad _ hc ha num_ascii (by omega) (by decide)).mono ?_
  rintro e w1 ⟨rfl, hc1, hf1⟩
  have hup := upto_past [47, 40, 44, 41, 58] r
  have hpn : pNum r = (match Lib.atoiAll (upto [47, 40, 44, 41, 58] r) with | .ok v => if Lib.itoa v = upto [47, 40, 44, 41, 58] r then some (v, past [47, 40, 44, 41, 58] r) else none | _ => none) := rfl
  have e5 : (⟨#[47, 40, 44, 41, 58]⟩ : ByteArray).data.toList = [47, 40, 44, 41, 58] := rfl
  rw [e5] at hc1 ⊢
  generalize upto [47, 40, 44, 41, 58] r = dl at *
  generalize past [47, 40, 44, 41, 58] r = r' at *
  have hrl := hc.le
  have hdl : dl.length ≤ 900 ∧ r'.length ≤ r.length := by
    have := congrArg List.length hup; rw [List.length_append] at this; omega
  obtain ⟨dg, hdg⟩ : ∃ dg, dg = (⟨dl.toArray⟩ : ByteArray) := ⟨_, rfl⟩
  rw [← hdg]
  have hdd : dg.data.toList = dl := by rw [hdg]
  have hds : dg.size ≤ 1000 := by
    have h1 : dg.data.toList.length = dg.size := (Lib.size_eq dg).symm
    rw [hdd] at h1; omega
  have hE1 := hE.fr hf1 (fun b hb h => by unfold Is at h; omega)
  have Hdd := Lib.hid hdd
  have Hpn := Lib.hid hpn
  have Hlen := Lib.hid hdl.2
  clear hdg hup e5 hc hdd hpn hdl
  go_wp2_with fail
  refine (atoi_any dg _ hds hE1.err).mono ?_
  rintro e w2 ⟨hR, hf2⟩
  unfold AtoiR at hR
  rw [Hdd.out] at hR
  have hc2 := hc1.no hf2
  have hE2 := hE1.no hf2
  obtain ⟨a, hb2, hal, hr⟩ := hc2.blk
  have hf12 := hf1.step hf2 (fun _ _ h => h.elim)
  have H : Hid (∀ (W : World) (v : Bool), Fr No w2 W → Cur (W.setCell ⟨pb, 2, none⟩ (.bool v)) pb s r' v ∧ Fr (Is pb) w (W.setCell ⟨pb, 2, none⟩ (.bool v))) := by
    intro W v hW
    refine ⟨⟨a, ?_, hal, hr⟩, (hf12.step hW (fun _ _ h => h.elim)).setAt _⟩
    rw [block_setCell (hW.heap hb2 id)]; rfl
  have c2 : w2.cell? ⟨pb, 2, none⟩ = some (.bool bad) := cell_of_block hb2 2
  have z2 : w2.frozen? ⟨pb, 2, none⟩ = false := free_of_block hb2 2
  have Hb2 := Lib.hid hb2
  clear hc1 hc2 hf1 hf2 hf12 hE1 hr hb2
  cases bad with
  | true =>
    rcases hR with ⟨v, hv, rfl⟩ | ⟨hv, k, te, N, rfl⟩
    all_goals
      clear hv
      go_wp2_with fail
      go_ret
      have h := H.out w2 true (Fr.refl _ _)
      exact ⟨_, r', true, rfl, Hlen.out, h.1, ⟨(fun _ => rfl), (fun h => by cases h)⟩, h.2⟩
  | false =>
    rcases hR with ⟨v, hv, rfl⟩ | ⟨hv, k, te, N, rfl⟩
    · have hbd := Lib.atoiAll_bounds hv
      have Hn : Hid (pNum r = if Lib.itoa v = dl then some (v, r') else none) := by unfold Hid; rw [Hpn.out, hv]
      clear hv
      go_wp2_with fail
      refine (Tryz.strconv_Itoa v hbd.1 hbd.2 _ hE2.tab).mono ?_
      rintro e w3 ⟨rfl, kk, os, rfl⟩
      have hf3 : Fr No w2 (Go.Sort.grow (w2.drewN kk) os) := Fr.of_below_size (Lib.below_grow _ w2 (Nat.le_refl _) kk os)
      generalize Go.Sort.grow (w2.drewN kk) os = w3 at *
      have c3 : w3.cell? ⟨pb, 2, none⟩ = some (.bool false) := hf3.cell c2 id
      have z3 : w3.frozen? ⟨pb, 2, none⟩ = false := free_of_block (hf3.heap Hb2.out id) 2
      obtain ⟨it, hit⟩ : ∃ it, it = (⟨(Lib.itoa v).toArray⟩ : ByteArray) := ⟨_, rfl⟩
      rw [← hit]
      have Hit : Hid ((it.toList == dg.toList) = decide (Lib.itoa v = dl)) := by
        unfold Hid
        rw [hit, Bool.eq_iff_iff, beq_iff_eq, decide_eq_true_iff, ByteArray.toList_eq, ByteArray.toList_eq, Hdd.out]
      have Hf3 := Lib.hid hf3
      clear hit hf3 c2 z2
      rcases hie : (it.toList == dg.toList) with _ | _
      · have Hno : Hid (pNum r = none) := by
          unfold Hid
          have h1 := Hit.out
          rw [hie] at h1
          rw [Hn.out, if_neg (of_decide_eq_false h1.symm)]
        go_wp2_with fail
        go_ret
        have h := H.out w3 true Hf3.out
        exact ⟨_, r', true, rfl, Hlen.out, h.1, ⟨fun _ => rfl, fun _ => .inl ⟨Hno.out, rfl⟩⟩, h.2⟩
      · have Hyes : Hid (pNum r = some (v, r')) := by
          unfold Hid
          have h1 := Hit.out
          rw [hie] at h1
          rw [Hn.out, if_pos (of_decide_eq_true h1.symm)]
        go_wp2_with fail
        go_ret
        have h := H.out w3 false Hf3.out
        exact ⟨_, r', false, rfl, Hlen.out, h.1, ⟨(fun h => by cases h), (fun _ => .inr ⟨Hyes.out, rfl⟩)⟩, h.2⟩
    · have Hno : Hid (pNum r = none) := by
        unfold Hid
        rw [Hpn.out]
        split
        · rename_i v e; exact absurd e (hv v)
        · rfl
      clear hv
      go_wp2_with fail
      go_ret
      have h := H.out w2 true (Fr.refl _ _)
      exact ⟨_, r', true, rfl, Hlen.out, h.1, ⟨fun _ => rfl, fun _ => .inl ⟨Hno.out, rfl⟩⟩, h.2⟩
end Go.Proofs.YtbblkknndaoefaaGreatDoor
