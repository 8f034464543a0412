/- Maps of ints and of strings, keyed by ints, that the call made. -/
import Derived.Test.YtanaompgapiikaaGreatDoorFr
import Derived.Maps.StringElems
namespace Go.Proofs.YtanaompgapiikaaGreatDoor
open Go.RowKit Go.Maps
set_option linter.unusedVariables false

/-- Block mb is a map[int]string: its look-up is g. -/
def SMap (w : World) (mb : Nat) (g : Int → Option ByteArray) (N : Nat) : Prop :=
  ∃ (D : DataW Unit) (n : Nat), n ≤ N ∧ w.ownsMap Tryz.prog 3 (plainElem Tryz.prog 9) mb n D ∧ (∀ x, has D (.int .i64 x) = (g x).isSome) ∧ ∀ x, D.atKey (.int .i64 x) (.lit (.string [])) = .lit (.string ((g x).getD ⟨#[]⟩).data.toList)
/-- Block mb is a map[int]int: its look-up is g. -/
def IMap (w : World) (mb : Nat) (g : Int → Option Int) (N : Nat) : Prop :=
  ∃ (D : DataW Unit) (n : Nat), n ≤ N ∧ w.ownsMap Tryz.prog 3 (plainElem Tryz.prog 3) mb n D ∧ (∀ x, has D (.int .i64 x) = (g x).isSome) ∧ ∀ x, D.atKey (.int .i64 x) (.lit (.int .i64 0)) = .lit (.int .i64 ((g x).getD 0))
theorem SMap.lt {w : World} {mb : Nat} {g : Int → Option ByteArray} {N : Nat} (h : SMap w mb g N) : mb < w.heap.size := by obtain ⟨D, n, _, ho, _⟩ := h; exact ho.lt
theorem IMap.lt {w : World} {mb : Nat} {g : Int → Option Int} {N : Nat} (h : IMap w mb g N) : mb < w.heap.size := by obtain ⟨D, n, _, ho, _⟩ := h; exact ho.lt
theorem SMap.fr {S : Nat → Prop} {w w' : World} {mb : Nat} {g : Int → Option ByteArray} {N : Nat} (h : SMap w mb g N) (hf : Fr S w w') (hS : ¬ S mb) : SMap w' mb g N := by
  obtain ⟨D, n, hn, ho, r⟩ := h; exact ⟨D, n, hn, hf.ownsMap ho hS, r⟩
theorem IMap.fr {S : Nat → Prop} {w w' : World} {mb : Nat} {g : Int → Option Int} {N : Nat} (h : IMap w mb g N) (hf : Fr S w w') (hS : ¬ S mb) : IMap w' mb g N := by
  obtain ⟨D, n, hn, ho, r⟩ := h; exact ⟨D, n, hn, hf.ownsMap ho hS, r⟩
theorem SMap.made (w : World) : SMap (w.alloc (.map #[] 0)) w.heap.size (fun _ => none) 0 := ⟨.map [], 0, Nat.le_refl _, World.ownsMap_made _ _ _ _, fun _ => rfl, fun _ => rfl⟩
theorem IMap.made (w : World) : IMap (w.alloc (.map #[] 0)) w.heap.size (fun _ => none) 0 := ⟨.map [], 0, Nat.le_refl _, World.ownsMap_made _ _ _ _, fun _ => rfl, fun _ => rfl⟩
theorem zeroS (w : World) : (zeroValue 9).run Tryz.prog w = .ok (.string ⟨#[]⟩) w := by kernel_rfl
theorem zeroI (w : World) : (zeroValue 3).run Tryz.prog w = .ok (.int .i64 0) w := by kernel_rfl
theorem bytes_eq {s t : ByteArray} (h : s.data.toList = t.data.toList) : s = t := by
  cases s; cases t
  simp only at h
  congr 1
  exact Array.toList_inj.1 h

theorem wp_smap {w : World} {ops : Array Oper} {rest : List Oper} {o : Oper} {a : Act} {Q : Exit → Act → World → Prop} (hg : o.guard = none) (m x : Operand) (t : TypeId) (hop : o.op = Op.lookup t m x false) (ht : Tryz.prog.underlying t = some (.map 3 9))
    (mb : Nat) (g : Int → Option ByteArray) (N : Nat) (k : Int) (hk : (Lit.int .i64 k).wf = true) (hm : a.eval m = .map (some mb)) (hown : SMap w mb g N) (hx : a.eval x = .int .i64 k)
    (hK : wpList Tryz.prog ops Q rest (a.put o.dst (.string ((g k).getD ⟨#[]⟩))) w) : wpList Tryz.prog ops Q (o :: rest) a w := by
  obtain ⟨D, n, _, ho, _, h2⟩ := hown
  refine wpList_plain hg fun K' hK' => ?_
  obtain ⟨v, ps, hrun, hv⟩ := ho.lookup lawI ht (zeroS w) (plainElem_string Tryz.underlying9 (by unfold maxLen; show 0 ≤ _; omega)) (keyOf_int_mk Tryz.underlying3 hk)
  obtain ⟨s, rfl, hs, _⟩ := plainElem_string_inv Tryz.underlying9 hv
  simp only [Prod.mk.injEq] at hs
  have e := (h2 k).symm.trans hs.1
  obtain rfl : s = (g k).getD ⟨#[]⟩ := bytes_eq (by simpa using e.symm)
  unfold Oper.wp
  simp [execOp, hop, hm, hx, hrun, Result.andThen]
  exact hK' _ _ hK
theorem wp_smap_ok {w : World} {ops : Array Oper} {rest : List Oper} {o : Oper} {a : Act} {Q : Exit → Act → World → Prop} (hg : o.guard = none) (m x : Operand) (t : TypeId) (hop : o.op = Op.lookup t m x true) (ht : Tryz.prog.underlying t = some (.map 3 9))
    (mb : Nat) (g : Int → Option ByteArray) (N : Nat) (k : Int) (hk : (Lit.int .i64 k).wf = true) (hm : a.eval m = .map (some mb)) (hown : SMap w mb g N) (hx : a.eval x = .int .i64 k)
    (hK : wpList Tryz.prog ops Q rest (a.put o.dst (.tuple #[.string ((g k).getD ⟨#[]⟩), .bool (g k).isSome])) w) : wpList Tryz.prog ops Q (o :: rest) a w := by
  obtain ⟨D, n, _, ho, h1, h2⟩ := hown
  refine wpList_lookup_own_ok w hg m x t hop 3 9 lawI ht _ (zeroS w) (.lit (.string [])) [] (plainElem_string Tryz.underlying9 (by unfold maxLen; show 0 ≤ _; omega)) mb n D hm ho _ _ hx (keyOf_int_mk Tryz.underlying3 hk) (fun v ps hv => ?_)
  obtain ⟨s, rfl, hs, _⟩ := plainElem_string_inv Tryz.underlying9 hv
  simp only [Prod.mk.injEq] at hs
  have e := (h2 k).symm.trans hs.1
  obtain rfl : s = (g k).getD ⟨#[]⟩ := bytes_eq (by simpa using e.symm)
  rw [h1]; exact hK
theorem wp_imap_ok {w : World} {ops : Array Oper} {rest : List Oper} {o : Oper} {a : Act} {Q : Exit → Act → World → Prop} (hg : o.guard = none) (m x : Operand) (t : TypeId) (hop : o.op = Op.lookup t m x true) (ht : Tryz.prog.underlying t = some (.map 3 3))
    (mb : Nat) (g : Int → Option Int) (N : Nat) (k : Int) (hk : (Lit.int .i64 k).wf = true) (hm : a.eval m = .map (some mb)) (hown : IMap w mb g N) (hx : a.eval x = .int .i64 k)
    (hK : wpList Tryz.prog ops Q rest (a.put o.dst (.tuple #[.int .i64 ((g k).getD 0), .bool (g k).isSome])) w) : wpList Tryz.prog ops Q (o :: rest) a w := by
  obtain ⟨D, n, _, ho, h1, h2⟩ := hown
  refine wpList_lookup_own_ok_int w hg m x t hop 3 3 .i64 lawI ht Tryz.underlying3 (zeroI w) mb n D hm ho _ _ hx (keyOf_int_mk Tryz.underlying3 hk) (fun c hc _ => ?_)
  have e := (h2 k).symm.trans hc
  obtain rfl : c = (g k).getD 0 := by simpa using e.symm
  rw [h1]; exact hK

def updO {α : Type} (g : Int → Option α) (x : Int) (v : α) : Int → Option α := fun y => if y = x then some v else g y
theorem SMap.put {w w1 : World} {mb : Nat} {D : DataW Unit} {n N : Nat} {g : Int → Option ByteArray} (hn : n ≤ N) (ho : w.ownsMap Tryz.prog 3 (plainElem Tryz.prog 9) mb n D) (h1 : ∀ x, has D (.int .i64 x) = (g x).isSome) (h2 : ∀ x, D.atKey (.int .i64 x) (.lit (.string [])) = .lit (.string ((g x).getD ⟨#[]⟩).data.toList))
    (x : Int) (s : ByteArray) (ho1 : w1.ownsMap Tryz.prog 3 (plainElem Tryz.prog 9) mb (n + 1) (D.put (.int .i64 x) (.lit (.string s.data.toList)))) : SMap w1 mb (updO g x s) (N + 1) := by
  refine ⟨_, n + 1, by omega, ho1, fun y => ?_, fun y => ?_⟩
  · unfold updO
    split
    · rename_i e; subst e; rw [has_put_same ho.isMap (isKeyInt _) _]; rfl
    · rename_i e; rw [has_put_other (by intro e'; exact e (by simpa using e'))]; exact h1 y
  · unfold updO
    split
    · rename_i e; subst e; rw [atKey_put_same ho.isMap (isKeyInt _) _ _]; rfl
    · rename_i e; rw [atKey_put_other (by intro e'; exact e (by simpa using e'))]; exact h2 y
theorem IMap.put {w w1 : World} {mb : Nat} {D : DataW Unit} {n N : Nat} {g : Int → Option Int} (hn : n ≤ N) (ho : w.ownsMap Tryz.prog 3 (plainElem Tryz.prog 3) mb n D) (h1 : ∀ x, has D (.int .i64 x) = (g x).isSome) (h2 : ∀ x, D.atKey (.int .i64 x) (.lit (.int .i64 0)) = .lit (.int .i64 ((g x).getD 0)))
    (x v : Int) (ho1 : w1.ownsMap Tryz.prog 3 (plainElem Tryz.prog 3) mb (n + 1) (D.put (.int .i64 x) (.lit (.int .i64 v)))) : IMap w1 mb (updO g x v) (N + 1) := by
  refine ⟨_, n + 1, by omega, ho1, fun y => ?_, fun y => ?_⟩
  · unfold updO
    split
    · rename_i e; subst e; rw [has_put_same ho.isMap (isKeyInt _) _]; rfl
    · rename_i e; rw [has_put_other (by intro e'; exact e (by simpa using e'))]; exact h1 y
  · unfold updO
    split
    · rename_i e; subst e; rw [atKey_put_same ho.isMap (isKeyInt _) _ _]; rfl
    · rename_i e; rw [atKey_put_other (by intro e'; exact e (by simpa using e'))]; exact h2 y
end Go.Proofs.YtanaompgapiikaaGreatDoor
