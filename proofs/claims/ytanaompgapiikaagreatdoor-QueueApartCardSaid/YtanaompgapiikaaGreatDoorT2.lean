/- Attributes in memory; Sorted, Node. -/
import Derived.Test.YtanaompgapiikaaGreatDoorT1
import Derived.Test.YtanaompgapiikaaGreatDoorReg
namespace Go.Proofs.YtanaompgapiikaaGreatDoor
open Go.RowKit
set_option linter.unusedVariables false

/-- A slice of attributes: its elements are 'l' (name, value). -/
structure Atts (w : World) (a : Option Addr) (cap : Nat) (l : List (ByteArray × ByteArray)) : Prop where
  len : l.length ≤ cap
  max : cap ≤ maxLen
  isNil : a = none → l = [] ∧ cap = 0
  wf : ∀ x ∈ l, x.1.size ≤ maxLen ∧ x.2.size ≤ maxLen
  cell : ∀ ad, a = some ad → l ≠ [] → ad.spot = none ∧ ad.block < w.heap.size ∧ ∀ i x, l[i]? = some x → w.cell? ⟨ad.block, ad.off + i * 2, none⟩ = some (.string x.1) ∧ w.cell? ⟨ad.block, ad.off + i * 2 + 1, none⟩ = some (.string x.2)

theorem Atts.at {w : World} {a : Option Addr} {cap : Nat} {l : List (ByteArray × ByteArray)} (h : Atts w a cap l) {k : Nat} (hk : k < l.length) :
    ∃ b off x y, a = some ⟨b, off, none⟩ ∧ l[k]? = some (x, y) ∧ x.size ≤ maxLen ∧ y.size ≤ maxLen ∧ w.cell? ⟨b, off + k * 2, none⟩ = some (.string x) ∧ w.cell? ⟨b, off + k * 2 + 1, none⟩ = some (.string y) := by
  cases a with
  | none => obtain ⟨rfl, _⟩ := h.isNil rfl; simp at hk
  | some ad =>
    obtain ⟨b, off, sp⟩ := ad
    obtain ⟨h1, h2, h3⟩ := h.cell _ rfl (by intro e; subst e; simp at hk)
    simp at h1; subst h1
    have h4 := h3 k _ (List.getElem?_eq_getElem hk)
    have h5 := h.wf l[k] (List.getElem_mem hk)
    exact ⟨b, off, l[k].1, l[k].2, rfl, List.getElem?_eq_getElem hk, h5.1, h5.2, h4.1, h4.2⟩
theorem Atts.lenmax {w : World} {a : Option Addr} {cap : Nat} {l : List (ByteArray × ByteArray)} (h : Atts w a cap l) : l.length ≤ 9223372036854775807 := by
  have h1 := h.len; have h2 := h.max; unfold maxLen at h2; omega
theorem Atts.fr {S : Nat → Prop} {w w' : World} {a : Option Addr} {cap : Nat} {l : List (ByteArray × ByteArray)} (h : Atts w a cap l) (hf : Fr S w w') (hS : ∀ ad, a = some ad → l ≠ [] → ¬ S ad.block) : Atts w' a cap l :=
  ⟨h.len, h.max, h.isNil, h.wf, fun ad e hne => by
    obtain ⟨h1, h2, h3⟩ := h.cell ad e hne
    exact ⟨h1, Nat.lt_of_lt_of_le h2 hf.size, fun i x hi => ⟨hf.cell (h3 i x hi).1 (hS ad e hne), hf.cell (h3 i x hi).2 (hS ad e hne)⟩⟩⟩
theorem Atts.no {S : Nat → Prop} {w w' : World} {a : Option Addr} {cap : Nat} {l : List (ByteArray × ByteArray)} (h : Atts w a cap l) (hf : Fr S w w') (hS : ∀ k, ¬ S k) : Atts w' a cap l := h.fr hf (fun _ _ _ => hS _)
theorem Atts.nil (w : World) : Atts w none 0 [] := ⟨by simp, by simp, fun _ => ⟨rfl, rfl⟩, by simp, fun _ e _ => by cases e⟩

set_option maxHeartbeats 1000000 in
theorem t_sorted (a : Option Addr) (cap : Nat) (l : List (ByteArray × ByteArray)) (w : World) (hl : Atts w a cap l) :
    Calls Tryz.prog 151 #[.slice a l.length cap] w fun e w' => RetB e ∧ Fr No w w' := by
  have hm := hl.lenmax
  go_enter Tryz.func151, Tryz.ntmps151
  go_wp2_with fail
  go_loopw [3] (fun i wr => ∃ k : Nat, 1 ≤ k ∧ k ≤ l.length + 1 ∧ i = .int .i64 (k : Int) ∧ Fr No w wr) (fun i _ => l.length - (intOf i).toNat)
  case atStart => exact ⟨1, by omega, by omega, rfl, Fr.refl _ _⟩
  case round =>
    obtain ⟨k, hk1, hk2, rfl, hf⟩ := hrel
    by_cases hlt : k < l.length
    · obtain ⟨j, rfl⟩ : ∃ j, k = j + 1 := ⟨k - 1, by omega⟩
      go_wp2_with fail
      refine region_sig No [(0, false), (1, false), (2, false), (3, false), (4, false), (5, false), (6, false), (7, false), (8, false), (9, false), (10, false), (11, false)] (by kernel_rfl) (by kernel_rfl) (fun w0 hf0 => ?_)
      have hl0 := (hl.no hf (fun _ => id)).no hf0 (fun _ => id)
      have hf1 := hf.step hf0 (fun _ _ h => h)
      obtain ⟨b, off, x, y, rfl, -, -, -, c0, -⟩ := hl0.at (by omega : j < l.length)
      obtain ⟨b', off', x', y', e', -, -, -, c1, -⟩ := hl0.at hlt
      cases e'
      have g0 : ∀ g : Gr No w0, g.W.cell? ⟨b, off + j * 2, none⟩ = some (.string x) := fun g => g.fr.cell c0 id
      have g1 : ∀ g : Gr No w0, g.W.cell? ⟨b, off + (j + 1) * 2, none⟩ = some (.string x') := fun g => g.fr.cell c1 id
      clear c0 c1
      repeat (apply sig_q; exact rfl; exact rfl; exact rfl; intro K hK; go_big_quiet_op; go_big_quiet_on)
      refine sig_end ?_
      go_wp2_with fail
      all_goals first
        | (go_ret; exact ⟨RetB.mk false, hf1⟩)
        | (go_roundw
           case rel => exact ⟨j + 1 + 1, by omega, by omega, by congr 1, hf1⟩
           case measure => simp [intOf]; omega)
    · go_wp2_with fail
      go_ret
      exact ⟨RetB.mk true, hf⟩
end Go.Proofs.YtanaompgapiikaaGreatDoor
