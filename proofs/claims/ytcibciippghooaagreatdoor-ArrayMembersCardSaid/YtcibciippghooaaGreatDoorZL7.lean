/- Tree: makes a tree of any numbers. tree.first, tree.Find; the closure of Gone. Package relate: sets; partitions. relate.partition, relate.Partition. strings.IndexAny at any text and an ASCII set; strings.IndexRune at a rune that is not ASCII. -/
import Derived.Test.YtcibciippghooaaGreatDoorZL6
import Derived.Test.YtcibciippghooaaGreatDoorZL3
import Derived.Test.YtcibciippghooaaGreatDoorStrs2
import Derived.Test.YtcibciippghooaaGreatDoorZL2
import Derived.Test.YtcibciippghooaaGreatDoorStrs3
import Derived.Test.YtcibciippghooaaGreatDoorZL4
import Derived.Lib.AtoiAllCases
import Derived.Lib.AppendIntMem
import Derived.Lib.TrimU
import Derived.Lib.OthersKept
import Derived.Laws.RangeString
import Derived.Laws.Runes
import Derived.Deep.LoopGhost
import Derived.WalkMore
namespace Go.Proofs.YtcibciippghooaaGreatDoor
open Go.RowKit Go.Maps
set_option linter.unusedVariables false

/-- A device whose attributes lie in memory, in blocks from base on. -/
structure ElOk (W : World) (base : Nat) (d : Dev) : Prop where
  sz : Sized d
  drv : d.drv = ⟨#[]⟩
  att : ∃ l, Atts W d.aa d.ac l ∧ d.an = l.length ∧ l.length ≤ 24
  fresh : ∀ ad, d.aa = some ad → base ≤ ad.block
/-- A tree in memory, in blocks from base on. -/
structure Tr (W : World) (base : Nat) (a : Option Addr) (cap : Nat) (ds : List Dev) : Prop where
  dv : Devs W a cap ds
  wf : TreeWf ds
  fresh : ∀ ad, a = some ad → base ≤ ad.block
  el : ∀ d ∈ ds, ElOk W base d
theorem ElOk.fr {S : Nat → Prop} {W W' : World} {base : Nat} {d : Dev} (h : ElOk W base d) (hf : Fr S W W') (hS : ∀ b, base ≤ b → ¬ S b) : ElOk W' base d := by
  obtain ⟨l, h1, h2⟩ := h.att
  exact ⟨h.sz, h.drv, ⟨l, h1.fr hf (fun ad e _ => hS _ (h.fresh ad e)), h2⟩, h.fresh⟩
theorem Tr.fr {S : Nat → Prop} {W W' : World} {base : Nat} {a : Option Addr} {cap : Nat} {ds : List Dev} (h : Tr W base a cap ds) (hf : Fr S W W') (hS : ∀ b, base ≤ b → ¬ S b) : Tr W' base a cap ds :=
  ⟨h.dv.fr hf (fun ad e _ => hS _ (h.fresh ad e)), h.wf, h.fresh, fun d hd => (h.el d hd).fr hf hS⟩
theorem Tr.no {W W' : World} {base : Nat} {a : Option Addr} {cap : Nat} {ds : List Dev} (h : Tr W base a cap ds) (hf : Fr No W W') : Tr W' base a cap ds := h.fr hf (fun _ _ => id)
theorem Tr.nil (W : World) (base : Nat) : Tr W base none 0 [] := ⟨Devs.nil W, TreeWf.nil, (fun _ e => by cases e), (fun d h => by simp at h)⟩

section
variable {w W W' : World} {B tb k : Nat} {a : Option Addr} {cap : Nat} {ds : List Dev}
theorem Tr.store (h : Tr W (w.heap.size + 2) a cap ds) {b : Nat} {x : Option Addr} {y z : Nat} {T : TypeId} (hb : W.heap[b]? = some (.cells #[.slice x y z] T)) (v : Value) : Tr (W.setCell ⟨b, 0, none⟩ v) (w.heap.size + 2) a cap ds := by
  have hf : Fr (Is b) W (W.setCell ⟨b, 0, none⟩ v) := Fr.setAt (Fr.refl _ _) _
  have hc : ∀ (o : Nat) (u : Value), W.cell? ⟨b, o, none⟩ = some u → u = .slice x y z := fun o u hu => by
    rw [cell_of_block hb] at hu
    match o, hu with
    | 0, hu => simpa using hu.symm
  refine ⟨h.dv.fr hf (fun ad e hne hS => ?_), h.wf, h.fresh, fun d hd => ?_⟩
  · obtain ⟨h1, _, h3⟩ := h.dv.cell ad e hne
    cases ds with
    | nil => exact hne rfl
    | cons d t =>
      have h4 := h3 0 d rfl 0 (by omega)
      unfold Is at hS
      rw [hS] at h4
      have := hc _ _ h4
      cases this
  · have he := h.el d hd
    obtain ⟨l, h1, h2⟩ := he.att
    refine ⟨he.sz, he.drv, ⟨l, h1.fr hf (fun ad e hne hS => ?_), h2⟩, he.fresh⟩
    obtain ⟨_, _, h3⟩ := h1.cell ad e hne
    cases l with
    | nil => exact hne rfl
    | cons q t =>
      have h4 := (h3 0 q rfl).1
      unfold Is at hS
      rw [hS] at h4
      have := hc _ _ h4
      cases this
end

theorem DevTo.el {w w' : World} {B tb k' : Nat} {i : Int} {d : Dev} {l : List (ByteArray × ByteArray)} (h : DevTo w w' B tb k' i d l) {base : Nat} (hb : base ≤ w.heap.size) : ElOk w' base d :=
  ⟨h.sz, h.drv, ⟨l, h.att, h.an, by have := h.lb; omega⟩, fun ad e => Nat.le_trans hb (h.afr ad e)⟩

/-- What Tree hands back. -/
def TreeRes (w w' : World) (B tb K N : Nat) (e : Ending) : Prop := ∃ a cap ds k', k' ≤ K ∧ ds.length ≤ N ∧ e = .returned (.agg #[.slice a ds.length cap]) ∧ Tr w' (w.heap.size + 2) a cap ds ∧ Tape w' B tb k' ∧ Fr (Is tb) w w'

end Go.Proofs.YtcibciippghooaaGreatDoor
/- A tree in memory under frames; a new tape. -/
namespace Go.Proofs.YtcibciippghooaaGreatDoor
open Go.RowKit Go.Maps
set_option linter.unusedVariables false

theorem Tr.keep {X W : World} {base : Nat} {a : Option Addr} {cap : Nat} {ds : List Dev} {S : Nat → Prop} (h : Tr X base a cap ds) (hf : Fr S X W) (hS : ∀ b, b < X.heap.size → base ≤ b → ¬ S b) : Tr W base a cap ds := by
  refine ⟨h.dv.fr hf (fun ad e hne => hS _ (h.dv.cell ad e hne).2.1 (h.fresh ad e)), h.wf, h.fresh, fun d hd => ?_⟩
  have he := h.el d hd
  obtain ⟨l, h1, h2⟩ := he.att
  exact ⟨he.sz, he.drv, ⟨l, h1.fr hf (fun ad e hne => hS _ (h1.cell ad e hne).2.1 (he.fresh ad e)), h2⟩, he.fresh⟩
theorem Tape.make {w : World} {a : Option Addr} {cap : Nat} {l : List Int} (h : Ints w a cap l) (T : TypeId) :
    Tape (w.alloc (.cells #[.slice a l.length cap, .int .i64 0] T)) w.heap.size w.heap.size 0 :=
  ⟨a, cap, l, T, h.fr ((Fr.refl No _).alloc _) (fun _ _ _ h => h), fun ad e hne => (h.cell ad e hne).2.1, Nat.le_refl _, block_alloc _ _⟩
end Go.Proofs.YtcibciippghooaaGreatDoor
namespace Go.Proofs.YtcibciippghooaaGreatDoor
open Go.RowKit Go.Maps
set_option linter.unusedVariables false

/-- A device was found, or not. -/
def FoundD (w w' : World) (ds : List Dev) (n : Int) (e : Ending) : Prop :=
  (look ds n = none ∧ e = .returned (.tuple #[.agg Dev.zero.vals, .bool false])) ∨
  ∃ d a' c' l, look ds n = some d ∧ e = .returned (.tuple #[.agg ({ d with aa := a', ac := c' } : Dev).vals, .bool true]) ∧ Atts w' a' c' l ∧ d.an = l.length ∧ l.length ≤ 24 ∧ ∀ ad, a' = some ad → w.heap.size ≤ ad.block

end Go.Proofs.YtcibciippghooaaGreatDoor
namespace Go.Proofs.YtcibciippghooaaGreatDoor
open Go.RowKit Go.Maps
set_option linter.unusedVariables false

theorem ISet.put {w w1 : World} {mb : Nat} {D : DataW Unit} {n N : Nat} {f : Int → Bool} (hn : n ≤ N) (ho : w.ownsMap Tryz.prog 3 unitElem mb n D) (h : ∀ x, has D (.int .i64 x) = f x) (x : Int) {v : DataW Unit} (ho1 : w1.ownsMap Tryz.prog 3 unitElem mb (n + 1) (D.put (.int .i64 x) v)) : ISet w1 mb (upd f x true) (N + 1) := by
  refine ⟨_, n + 1, by omega, ho1, fun y => ?_⟩
  unfold upd
  split
  · rename_i h; subst h; exact has_put_same ho.isMap (isKeyInt _) _
  · rename_i h2; rw [has_put_other (by intro e; exact h2 (by simpa using e))]; exact h y
theorem upd_take {l : List Int} {k : Nat} {x : Int} (h : l[k]? = some x) : upd (fun y => decide (y ∈ l.take k)) x true = fun y => decide (y ∈ l.take (k + 1)) := by
  funext y
  unfold upd
  rw [List.take_add_one, h]
  by_cases e : y = x
  · subst e; simp
  · simp [e]
theorem rset_made (w : World) : ISet (w.alloc (.map #[] 0)) w.heap.size (fun _ => false) 0 :=
  ⟨.map [], 0, Nat.le_refl _, World.ownsMap_made _ _ _ _, fun _ => rfl⟩

/-- The variables ErrSyntax (its block) and ErrRange (its block) hold errors. -/
structure ErrV (w : World) : Prop where
  s : ∃ ev, w.cell? ⟨4, 0, none⟩ = some ev ∧ (ev = .nilIface ∨ ∃ te pe, ev = .iface te pe)
  r : ∃ ev, w.cell? ⟨5, 0, none⟩ = some ev ∧ (ev = .nilIface ∨ ∃ te pe, ev = .iface te pe)
theorem ErrV.fr {S : Nat → Prop} {w w' : World} (h : ErrV w) (hf : Fr S w w') (h5 : ¬ S 4) (h6 : ¬ S 5) : ErrV w' := by
  obtain ⟨e5, c5, k5⟩ := h.s
  obtain ⟨e6, c6, k6⟩ := h.r
  exact ⟨⟨e5, hf.cell c5 h5, k5⟩, ⟨e6, hf.cell c6 h6, k6⟩⟩
theorem ErrV.no {w w' : World} (h : ErrV w) (hf : Fr No w w') : ErrV w' := h.fr hf id id

/-- What follows the parent's original and a p in a device's original. -/
def digitsB (p d : Dev) : ByteArray := ⟨(Lib.trimPrefix d.orig.data.toList (p.orig ++ ⟨#[112]⟩).data.toList).toArray⟩
/-- The number of a partition. -/
def partB (p d : Dev) : Option Int := match Lib.atoiAll (digitsB p d).data.toList with
  | .ok v => if Lib.hasPrefix d.orig.data.toList (p.orig ++ ⟨#[112]⟩).data.toList = true ∧ 1 ≤ v ∧ v ≤ 16 ∧ (Lib.decDigits v.toNat) = (digitsB p d).data.toList ∧ d.kind = 2 ∧ p.kind = 2 then some v else none
  | _ => none
def PartRes (o : Option Int) (e : Ending) : Prop := e = .returned (.tuple #[.int .i64 (o.getD 0), .bool o.isSome])
theorem digits_size {p d : Dev} (h : d.orig.size ≤ 32) : (digitsB p d).size ≤ 32 := by
  unfold digitsB Lib.trimPrefix
  have h2 : d.orig.data.toList.length ≤ 32 := by rw [← Lib.size_eq]; exact h
  split
  · simp only [ByteArray.size, List.size_toArray, List.length_drop]; omega
  · simp only [ByteArray.size, List.size_toArray]; exact h2
end Go.Proofs.YtcibciippghooaaGreatDoor
namespace Go.Proofs.YtcibciippghooaaGreatDoor
open Go.RowKit Go.Maps
set_option linter.unusedVariables false

def cutB (p d : Dev) : Bool := Lib.hasPrefix d.orig.data.toList (p.orig ++ ⟨#[112]⟩).data.toList
theorem cut_gen (s q : ByteArray) (w : World) : Calls Tryz.prog 148 #[.string s, .string q] w fun e w' => e = .returned (.tuple #[.string ⟨(Lib.trimPrefix s.data.toList q.data.toList).toArray⟩, .bool (Lib.hasPrefix s.data.toList q.data.toList)]) ∧ w = w' :=
  (Tryz.strings_CutPrefix s q w).mono fun e w' h => ⟨h.1, h.2.symm⟩
theorem cut_digits (p d : Dev) (w : World) : Calls Tryz.prog 148 #[.string d.orig, .string (p.orig ++ ⟨#[112]⟩)] w fun e w' => e = .returned (.tuple #[.string (digitsB p d), .bool (cutB p d)]) ∧ w = w' := by
  unfold digitsB cutB
  exact cut_gen _ _ w
def AtoiR (s : ByteArray) (e : Ending) : Prop :=
  (∃ v, Lib.atoiAll s.data.toList = .ok v ∧ e = .returned (.tuple #[.int .i64 v, .nilIface])) ∨ ((∀ v, Lib.atoiAll s.data.toList ≠ .ok v) ∧ ∃ (k : Int) (te : TypeId) (N : Nat), e = .returned (.tuple #[.int .i64 k, .iface te (.pointer (some ⟨N, 0, none⟩))]))
theorem atoi_any (s : ByteArray) (w : World) (hs : s.size ≤ 1000) (hE : ErrV w) : Calls Tryz.prog 130 #[.string s] w fun e w' => AtoiR s e ∧ Fr No w w' := by
  obtain ⟨e5, c5, k5⟩ := hE.s
  obtain ⟨e6, c6, k6⟩ := hE.r
  rcases h : Lib.atoiAll s.data.toList with v | _ | _
  · refine (Tryz.strconv_Atoi_ok s (by omega) v h w).mono ?_
    rintro e w' ⟨rfl, hw⟩
    refine ⟨.inl ⟨v, h, rfl⟩, ?_⟩
    rcases hw with rfl | ⟨t, rfl⟩
    · exact Fr.refl _ _
    · exact Fr.of_below_size (Lib.bytesWorld_below _ _ _)
  · refine (Any.strconv_Atoi_syntax Tryz.laysC172 s (by omega) h e5 w c5 k5).mono ?_
    rintro e w' ⟨N, rfl, _, _, hb⟩
    exact ⟨.inr ⟨fun v e => (by rw [h] at e; cases e), 0, _, N, rfl⟩, Fr.of_below_size hb⟩
  · refine (Tryz.strconv_Atoi_range s (by omega) h e6 w c6 k6).mono ?_
    rintro e w' ⟨N, rfl, _, _, hb⟩
    exact ⟨.inr ⟨fun v e => (by rw [h] at e; cases e), _, _, N, rfl⟩, Fr.of_below_size hb⟩
theorem partB_cut {p d : Dev} (h : cutB p d = false) : partB p d = none := by
  unfold cutB at h
  unfold partB
  split
  · rw [if_neg (by rw [h]; simp)]
  · rfl
theorem partB_err {p d : Dev} (h : ∀ v, Lib.atoiAll (digitsB p d).data.toList ≠ .ok v) : partB p d = none := by
  unfold partB
  split
  · rename_i v e; exact absurd e (h v)
  · rfl
theorem partB_ok {p d : Dev} {v : Int} (h : Lib.atoiAll (digitsB p d).data.toList = .ok v) : partB p d = if cutB p d = true ∧ 1 ≤ v ∧ v ≤ 16 ∧ (Lib.decDigits v.toNat) = (digitsB p d).data.toList ∧ d.kind = 2 ∧ p.kind = 2 then some v else none := by
  unfold partB cutB
  rw [h]

/-- The number of the partition that a device is. -/
def partOf (ds : List Dev) (n : Int) : Option Int := match look ds n with
  | none => none
  | some d => match look ds d.parent with
    | none => none
    | some p => partB p d

end Go.Proofs.YtcibciippghooaaGreatDoor
namespace Go.Proofs.YtcibciippghooaaGreatDoor
open Go.RowKit Go.Maps
set_option linter.unusedVariables false

def Ascii (s : ByteArray) : Prop := ∀ (j : Nat) b, s.data.toList[j]? = some b → b.toNat < 128
theorem zero256 (w : World) : (zeroValue 195).run Tryz.prog w = .ok (.agg (Array.replicate 256 (.bool false))) w := by kernel_rfl

/-! ### Runes that are not ASCII -/
set_option maxHeartbeats 2000000 in
theorem decN_high (n b0 b1 b2 b3 : Nat) (h : 128 ≤ b0) : 128 ≤ (Lib.decodeN n b0 b1 b2 b3).1 ∧ ((Lib.decodeN n b0 b1 b2 b3).2 = 1 ∨ ((Lib.decodeN n b0 b1 b2 b3).2 = 2 ∧ 1 < n ∧ 128 ≤ b1) ∨ ((Lib.decodeN n b0 b1 b2 b3).2 = 3 ∧ 2 < n ∧ 128 ≤ b1 ∧ 128 ≤ b2) ∨ ((Lib.decodeN n b0 b1 b2 b3).2 = 4 ∧ 3 < n ∧ 128 ≤ b1 ∧ 128 ≤ b2 ∧ 128 ≤ b3)) := by
  unfold Lib.decodeN
  rw [if_neg (by omega)]
  repeat' split
  all_goals (refine ⟨?_, ?_⟩)
  all_goals first
    | exact .inl rfl
    | exact .inr (.inl ⟨rfl, by omega, by omega⟩)
    | exact .inr (.inr (.inl ⟨rfl, by omega, by omega, by omega⟩))
    | exact .inr (.inr (.inr ⟨rfl, by omega, by omega, by omega, by omega⟩))
    | (simp only; omega)
theorem get_bang (s : ByteArray) (i : Nat) (x : UInt8) (h : s.data.toList[i]? = some x) : s.get! i = x := by
  have h2 : s.data[i]? = some x := by rw [← Array.getElem?_toList]; exact h
  show s.data[i]! = x
  rw [getElem!_def, h2]
/-- The rune at a byte that is not ASCII: no ASCII rune, no ASCII byte. -/
theorem dec_high (s : ByteArray) (pos : Nat) (x : UInt8) (hx : s.data.toList[pos]? = some x) (hb : 128 ≤ x.toNat) :
    128 ≤ (Utf8.decode s pos).1 ∧ pos + (Utf8.decode s pos).2 ≤ s.size ∧ ∀ j y, pos ≤ j → j < pos + (Utf8.decode s pos).2 → s.data.toList[j]? = some y → 128 ≤ y.toNat := by
  have hlen : s.data.toList.length = s.size := (Lib.size_eq s).symm
  have hp : pos < s.size := by rw [← hlen]; exact (List.getElem?_eq_some_iff.1 hx).1
  have h0 := get_bang s pos x hx
  rw [Lib.decode_at]
  have key := decN_high (s.size - pos) (s.get! pos).toNat (s.get! (pos + 1)).toNat (s.get! (pos + 2)).toNat (s.get! (pos + 3)).toNat (by rw [h0]; exact hb)
  refine ⟨key.1, ?_, ?_⟩
  · rcases key.2 with h | ⟨h, _⟩ | ⟨h, _⟩ | ⟨h, _⟩ <;> omega
  · intro j y h1 h2 hy
    have hg := get_bang s j y hy
    rcases key.2 with h | ⟨h, h3, h4⟩ | ⟨h, h3, h4, h5⟩ | ⟨h, h3, h4, h5, h6⟩
    · rw [h] at h2
      obtain rfl : j = pos := by omega
      rw [← hg, h0]; exact hb
    · rw [h] at h2
      rcases (by omega : j = pos ∨ j = pos + 1) with rfl | rfl
      · rw [← hg, h0]; exact hb
      · rw [← hg]; exact h4
    · rw [h] at h2
      rcases (by omega : j = pos ∨ j = pos + 1 ∨ j = pos + 2) with rfl | rfl | rfl
      · rw [← hg, h0]; exact hb
      · rw [← hg]; exact h4
      · rw [← hg]; exact h5
    · rw [h] at h2
      rcases (by omega : j = pos ∨ j = pos + 1 ∨ j = pos + 2 ∨ j = pos + 3) with rfl | rfl | rfl | rfl
      · rw [← hg, h0]; exact hb
      · rw [← hg]; exact h4
      · rw [← hg]; exact h5
      · rw [← hg]; exact h6
set_option maxHeartbeats 2000000 in
theorem enc_high (r : Nat) (h : 128 ≤ r) : 2 ≤ (Utf8.encode (r : Int)).size ∧ (Utf8.encode (r : Int)).size ≤ 4 ∧ ∀ (j : Nat) y, (Utf8.encode (r : Int)).data.toList[j]? = some y → 128 ≤ y.toNat := by
  have hs : ∀ l : List UInt8, (∀ y ∈ l, 128 ≤ y.toNat) → ∀ (j : Nat) y, (⟨l.toArray⟩ : ByteArray).data.toList[j]? = some y → 128 ≤ y.toNat := fun l hl j y hy => hl y (by simpa using List.mem_of_getElem? hy)
  have key : ∀ c : Nat, 128 ≤ c → c ≤ 1114111 → ∀ e : ByteArray, e = (if c < 0x80 then ⟨#[UInt8.ofNat c]⟩ else if c < 0x800 then ⟨#[UInt8.ofNat (0xC0 + c / 64), UInt8.ofNat (0x80 + c % 64)]⟩
      else if c < 0x10000 then ⟨#[UInt8.ofNat (0xE0 + c / 4096), UInt8.ofNat (0x80 + c / 64 % 64), UInt8.ofNat (0x80 + c % 64)]⟩
      else ⟨#[UInt8.ofNat (0xF0 + c / 262144), UInt8.ofNat (0x80 + c / 4096 % 64), UInt8.ofNat (0x80 + c / 64 % 64), UInt8.ofNat (0x80 + c % 64)]⟩) → 2 ≤ e.size ∧ e.size ≤ 4 ∧ ∀ (j : Nat) y, e.data.toList[j]? = some y → 128 ≤ y.toNat := by
    rintro c h1 h2 e rfl
    rw [if_neg (by omega)]
    split
    · refine ⟨by show 2 ≤ 2; decide, by show 2 ≤ 4; decide, hs _ ?_⟩
      intro y hy
      simp only [List.mem_cons, List.not_mem_nil, or_false] at hy
      rcases hy with rfl | rfl <;> (simp only [UInt8.toNat_ofNat']; omega)
    split
    · refine ⟨by show 2 ≤ 3; decide, by show 3 ≤ 4; decide, hs _ ?_⟩
      intro y hy
      simp only [List.mem_cons, List.not_mem_nil, or_false] at hy
      rcases hy with rfl | rfl | rfl <;> (simp only [UInt8.toNat_ofNat']; omega)
    · refine ⟨by show 2 ≤ 4; decide, by show 4 ≤ 4; decide, hs _ ?_⟩
      intro y hy
      simp only [List.mem_cons, List.not_mem_nil, or_false] at hy
      rcases hy with rfl | rfl | rfl | rfl <;> (simp only [UInt8.toNat_ofNat']; omega)
  by_cases hv : Utf8.valid (r : Int) = true
  · refine key r h ?_ _ ?_
    · unfold Utf8.valid at hv
      simp only [Bool.or_eq_true, Bool.and_eq_true, decide_eq_true_eq] at hv
      omega
    · unfold Utf8.encode
      rw [if_pos hv]; simp only [Int.toNat_natCast]
  · refine key 0xFFFD (by decide) (by decide) _ ?_
    unfold Utf8.encode
    rw [if_neg hv]; rfl

set_option maxHeartbeats 1000000 in
theorem x_valid (r : Int) (w : World) (h : 0 ≤ r) :
    Calls Tryz.prog 178 #[.int .i32 r] w fun e w' => RetB e ∧ w' = w := by
  go_enter Tryz.func178, Tryz.ntmps178
  by_cases h1 : r < 55296
  · go_wp2
    go_ret
    exact ⟨RetB.mk true, rfl⟩
  · by_cases h2 : 57343 < r
    · by_cases h3 : r ≤ 1114111
      · go_wp2
        go_ret
        exact ⟨RetB.mk true, rfl⟩
      · go_wp2
        go_ret
        exact ⟨RetB.mk false, rfl⟩
    · go_wp2
      go_ret
      exact ⟨RetB.mk false, rfl⟩
theorem asc_at {s : ByteArray} (h : Ascii s) {i : Nat} (hi : i < s.size) : (s[i]'hi).toNat < 128 := by
  refine h i _ ?_
  rw [Array.getElem?_toList]; exact Array.getElem?_eq_getElem (by simpa using hi)
theorem asc_index {s : ByteArray} (h : Ascii s) {b : UInt8} (hb : 128 ≤ b.toNat) (k : Nat) : Lib.indexByte (s.extract k s.size).data.toList ((b.toNat : Int)).toNat.toUInt8 < 0 := by
  have e : ((b.toNat : Int)).toNat.toUInt8 = b := by simp
  rw [e]
  have h1 := Lib.contains_iff_indexByte (s.extract k s.size).data.toList b
  have h2 : (s.extract k s.size).data.toList.contains b = false := by
    rw [Bool.eq_false_iff]
    intro hc
    rw [List.contains_iff_mem, Lib.extract_to_end] at hc
    obtain ⟨m, hm⟩ := List.getElem?_of_mem (List.mem_of_mem_drop hc)
    have := h m b hm
    omega
  rw [h2] at h1
  have := of_decide_eq_false h1.symm
  omega

set_option maxRecDepth 100000 in
set_option maxHeartbeats 1000000 in
theorem x_indexRune (s : ByteArray) (r : Nat) (w : World) (hs : s.size ≤ 1000) (ha : Ascii s) (h1 : 128 ≤ r) (h2 : r ≤ 1114111) :
    Calls Tryz.prog 156 #[.string s, .int .i32 (r : Int)] w fun e w' => e = .returned (.int .i64 (-1)) ∧ Fr No w w' := by
  have hm : s.size ≤ 9223372036854775807 := by omega
  have n1 : ¬ (r : Int) < 128 := by omega
  have Ha := Lib.hid ha
  clear ha
  go_enter Tryz.func156, Tryz.ntmps156
  by_cases he : r = 65533
  · subst he
    go_wp2_with fail
    go_loopg [5] s.size (fun g _ wx => ∃ i : Nat, i + g = s.size ∧ wx = w.iter s i)
    case atStart => exact ⟨0, by omega, rfl⟩
    case round =>
      obtain ⟨i, hig, rfl⟩ := hrel
      cases gk with
      | zero =>
        obtain rfl : i = s.size := by omega
        have hnx := run_next_end (P := Tryz.prog) w s s.size
        go_wp2
        go_ret
        exact ⟨rfl, Fr.refl _ _ |>.alloc _⟩
      | succ g =>
        have hi : i < s.size := by omega
        have h128 := asc_at Ha.out hi
        have hnx := fun ty => run_next_ascii (P := Tryz.prog) w s i ty hi h128
        have hne : ¬ ((s[i]'hi).toNat : Int) = 65533 := by omega
        go_wp2_with fail
        go_roundg g
        case measure => omega
        case rel => exact ⟨i + 1, by omega, rfl⟩
  have n2 : ¬ (r : Int) = 65533 := by omega
  have n3 : (0 : Int) ≤ r := by omega
  have henc := enc_high r h1
  go_wp2_with fail
  refine (x_valid _ _ (by omega)).mono ?_
  rintro e w1 ⟨⟨b, rfl⟩, rfl⟩
  cases b with
  | false =>
    go_wp2_with fail
    go_ret
    exact ⟨rfl, Fr.refl _ _⟩
  | true =>
    go_wp2_with fail
    refine wp_scope_straight ?_
    go_upto_region 2 with (fail)
    obtain ⟨L, hL⟩ : ∃ L, (Utf8.encode (r : Int)).size = L + 1 := ⟨(Utf8.encode (r : Int)).size - 1, by omega⟩
    generalize Utf8.encode (r : Int) = E at *
    obtain ⟨e1, e2, e3⟩ := henc
    have hL' : ((E.size : Nat) : Int) = (L : Int) + 1 := by omega
    have HE := Lib.hid e3
    have HL := Lib.hid hL
    clear e3 hL
    go_wp2_with fail
    go_loop [9] (fun i => i = .int .i64 (L : Int)) (fun _ => 0)
    case atStart => rfl
    case round =>
      subst hrel
      by_cases hlt : L < s.size
      · have hlt' : (L : Int) < s.size := by omega
        have hA := asc_at Ha.out hlt
        have hLE : L < E.size := by omega
        have hB : 128 ≤ (E[L]'hLE).toNat := HE.out L _ (by rw [Array.getElem?_toList]; exact Array.getElem?_eq_getElem (by simpa using hLE))
        have Hix : Hid (Lib.indexByte (s.extract (L + 1) s.size).data.toList (((E[L]'hLE).toNat : Int)).toNat.toUInt8 < 0) := asc_index Ha.out hB _
        have hne : ¬ ((s[L]'hlt).toNat : Int) = ((E[L]'hLE).toNat : Int) := by omega
        clear hL'
        go_wp2_with fail
        refine wp_scope_straight ?_
        go_wp2_with fail
        refine region_sig No [(0, false), (1, false), (2, false), (3, false), (4, false), (5, false), (6, false)] (by kernel_rfl) (by kernel_rfl) (fun w0 hf0 => ?_)
        repeat (apply sig_q; exact rfl; exact rfl; exact rfl; intro K hK; go_big_quiet_op; go_big_quiet_on)
        refine sig_end ?_
        have Hf0 := Lib.hid hf0
        clear hf0
        go_wp2_with fail
        refine region_sig No [(0, false), (1, false), (2, false), (3, false), (4, false), (5, false), (6, false), (7, true), (8, false)] (by kernel_rfl) (by kernel_rfl) (fun w2 hf2 => ?_)
        repeat (apply sig_q; exact rfl; exact rfl; exact rfl; intro K hK; go_big_quiet_op; go_big_quiet_on)
        apply sig_m
        exact rfl
        go_wp2_with fail
        refine (Tryz.strings_IndexByte _ _ _).mono ?_
        rintro e w3 ⟨rfl, rfl⟩
        have hq := Hix.out
        generalize Lib.indexByte (s.extract (L + 1) s.size).data.toList (((E[L]'hLE).toNat : Int)).toNat.toUInt8 = q at *
        go_wp2_with fail
        refine OnlyN.mk ⟨Fr.refl _ _, ?_⟩
        repeat (apply sig_q; exact rfl; exact rfl; exact rfl; intro K hK; go_big_quiet_op; go_big_quiet_on)
        refine sig_end ?_
        have Hf2 := Lib.hid (Hf0.out.step hf2 (fun _ _ h => h))
        clear hf2
        go_wp2_with fail
        simp +zetaDelta only [Exit.noGoto_ret, Exit.inBlock, Exit.then]
        go_ret
        exact ⟨rfl, Hf2.out⟩
      · go_wp2_with fail
        try simp +zetaDelta only [Exit.noGoto_ret]
        go_ret
        exact ⟨rfl, Fr.refl _ _⟩

/-- s of at most 8 bytes, whatever they are. -/
theorem x_indexAny_short (s chars : ByteArray) (w : World) (h2 : 2 ≤ chars.size) (hcs : chars.size ≤ 1000) (h8 : s.size ≤ 8) (hac : Ascii chars) :
    Calls Tryz.prog 128 #[.string s, .string chars] w fun e w' => e = .returned (.int .i64 (Lib.indexAny s.data.toList chars.data.toList)) ∧ Fr No w w' := by
  have hemp : chars.toList.isEmpty = false := by
    rw [ByteArray.toList_eq]
    cases h : chars.data.toList with
    | nil => have := Lib.size_eq chars; rw [h, List.length_nil] at this; omega
    | cons _ _ => rfl
  have hn1 : ¬ ((chars.size : Int) = 1) := by omega
  have h8z : decide ((8 : Int) < (s.size : Int)) = false := decide_eq_false (by omega)
  have hsm : s.size ≤ 9223372036854775807 := by omega
  have Hac := Lib.hid hac
  clear hac
  go_enter Tryz.func128, Tryz.ntmps128
  go_wp2_with fail
  refine (Tryz.strings_shouldUseASCIISet _ _).mono ?_
  rintro e w1 ⟨rfl, rfl⟩
  rw [h8z]
  clear h8z
  go_wp2_with fail
  go_loopg [9, 10] s.size (fun g _ _ wx => ∃ i : Nat, i + g = s.size ∧ wx.heap[w1.heap.size]? = some (.stringIter s i) ∧ Fr No w1 wx ∧ Hid (Lib.NoAny s.data.toList chars.data.toList i))
  case atStart => exact ⟨0, by omega, World.iter_heap _ _ _, (Fr.refl _ _).alloc _, Lib.NoAny.zero _ _⟩
  case round =>
    obtain ⟨i, hig, hbi, hfr, HN⟩ := hrel
    obtain ⟨W, rfl⟩ : ∃ W, W = wr := ⟨_, rfl⟩
    cases gk with
    | zero =>
      obtain rfl : i = s.size := by omega
      have hnx := fun ty => Lib.run_next_end_at (P := Tryz.prog) W w1.heap.size s s.size ty hbi (by omega)
      have Hfr := Lib.hid hfr
      clear hbi hfr
      go_wp2_with fail
      go_ret
      exact ⟨by rw [Lib.indexAny_none (by rw [← Lib.size_eq]; exact HN.out)]; rfl, Hfr.out⟩
    | succ g =>
      have hi : i < s.size := by omega
      have hnx := fun ty => Lib.run_next_any_at (P := Tryz.prog) W w1.heap.size s i ty hbi hi
      obtain ⟨x, hx⟩ : ∃ x : UInt8, s[i]'hi = x := ⟨_, rfl⟩
      have hxl : s.data.toList[i]? = some x := by
        rw [← hx, Array.getElem?_toList]; exact Array.getElem?_eq_getElem (by simpa using hi)
      have hw1 : 1 ≤ (Utf8.decode s i).2 := Lib.width_pos s i
      have hle : (Utf8.decode s i).1 ≤ 1114111 := Lib.rune_le s i
      have hasc : x.toNat < 128 → Utf8.decode s i = (x.toNat, 1) := fun h => by rw [decode_ascii s i hi (by rw [hx]; exact h), hx]
      have hhi : 128 ≤ x.toNat → _ := fun h => dec_high s i x hxl h
      have hit := Lib.iterAt_heap W w1.heap.size s i (i + (Utf8.decode s i).2) hbi
      have hfi : Fr No w1 (W.iterAt w1.heap.size s (i + (Utf8.decode s i).2)) := Fr.of_below_size (Lib.below_iterAt (hfr.below (Nat.le_refl _) (fun _ _ => id)) (Nat.le_refl _) s _)
      have Hasc := Lib.hid hasc
      have Hhi := Lib.hid hhi
      have Hx := Lib.hid hxl
      have HN2 : Hid (128 ≤ x.toNat → Lib.NoAny s.data.toList chars.data.toList (i + (Utf8.decode s i).2)) := by
        intro h j b hj hb
        by_cases hji : j < i
        · exact HN.out j b hji hb
        · have h3 := (dec_high s i x hxl h).2.2 j b (by omega) hj hb
          rw [Bool.eq_false_iff]
          intro hc
          rw [List.contains_iff_mem] at hc
          obtain ⟨m, hm⟩ := List.getElem?_of_mem hc
          have := Hac.out m b hm
          omega
      clear hasc hhi hxl hx hbi hfr
      generalize Utf8.decode s i = D at *
      obtain ⟨rn, wd⟩ := D
      simp only at hnx hw1 hle hit hfi Hasc Hhi HN2
      generalize W.iterAt w1.heap.size s (i + wd) = W2 at *
      have Hit := Lib.hid hit
      have Hfi := Lib.hid hfi
      clear hit hfi
      by_cases h128 : x.toNat < 128
      · have hD := Hasc.out h128
        injection hD with hD1 hD2
        subst hD1; subst hD2
        have hcon := Lib.contains_iff_indexByte chars.data.toList x
        have hback : ((x.toNat : Int)).toNat.toUInt8 = x := by simp
        have Hcon := Lib.hid hcon
        clear hcon
        go_wp2_with fail
        refine (Tryz.strings_IndexRune_ascii _ _ _ (by omega) (by omega)).mono ?_
        rintro e w3 ⟨rfl, rfl⟩
        rw [hback]
        by_cases hin : 0 ≤ Lib.indexByte chars.data.toList x
        · have hc : chars.data.toList.contains x = true := by rw [Hcon.out]; exact decide_eq_true hin
          have Hc := Lib.hid hc
          clear hc
          generalize Lib.indexByte chars.data.toList x = q at *
          go_wp2_with fail
          go_ret
          exact ⟨by rw [Lib.indexAny_hit HN.out Hx.out Hc.out]; rfl, Hfi.out⟩
        · have hc : chars.data.toList.contains x = false := by rw [Hcon.out]; exact decide_eq_false hin
          have Hc := Lib.hid hc
          clear hc
          generalize Lib.indexByte chars.data.toList x = q at *
          go_wp2_with fail
          go_roundg g
          case measure => omega
          case rel => exact ⟨i + 1, by omega, Hit.out, Hfi.out, HN.out.succ Hx.out Hc.out⟩
      · have hhx : 128 ≤ x.toNat := by omega
        obtain ⟨k1, k2, -⟩ := Hhi.out hhx
        go_wp2_with fail
        refine (x_indexRune chars rn _ hcs Hac.out k1 hle).mono ?_
        rintro e w3 ⟨rfl, hf3⟩
        have Hit3 := Lib.hid (hf3.heap Hit.out id)
        have Hf3 := Lib.hid (Hfi.out.step hf3 (fun _ _ h => h))
        clear hf3
        go_wp2_with fail
        go_roundg (s.size - (i + wd))
        case measure => omega
        case rel => exact ⟨i + wd, by omega, Hit3.out, Hf3.out, HN2.out hhx⟩

/-- IndexAny at any text and a short ASCII set. -/
theorem x_indexAny (s ends : ByteArray) (w : World) (hs : s.size ≤ 1000000) (hes : ends.size ≤ 1000) (he : Ascii ends) :
    Calls Tryz.prog 128 #[.string s, .string ends] w fun e w' => e = .returned (.int .i64 (Lib.indexAny s.data.toList ends.data.toList)) ∧ Fr No w w' := by
  by_cases h0 : ends.size = 0
  · exact (Tryz.strings_IndexAny_none s ends w h0).mono fun e w' ⟨h1, h2⟩ => ⟨h1, h2 ▸ Fr.refl _ _⟩
  by_cases h1 : ends.size = 1
  · exact (Tryz.strings_IndexAny_one s ends w h1 he).mono fun e w' ⟨h1, h2⟩ => ⟨h1, h2 ▸ Fr.refl _ _⟩
  by_cases h8 : s.size ≤ 8
  · exact x_indexAny_short s ends w (by omega) hes h8 he
  · exact (Tryz.strings_IndexAny_long zero256 s ends w (by omega) (by omega) (by omega) (by omega) he).mono fun e w' ⟨h1, h2⟩ => ⟨h1, h2 ▸ ((Fr.refl _ _).alloc _).alloc _⟩
end Go.Proofs.YtcibciippghooaaGreatDoor
