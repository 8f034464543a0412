/- A map[int]bool that the call made: look-up and update. -/
import Derived.Test.YtpigghenmagghaaQ1
namespace Go.Proofs.Ytpigghenmagghaa
open Go.RowKit Go.Maps
set_option linter.unusedVariables false

theorem plainElem_bool_inv {H : Type} {P : Program} {e : TypeId} (he : P.underlying e = some .bool) {v : Value} {z : DataW H × List MemPlace} (h : plainElem P e v = some z) : ∃ b, v = .bool b ∧ z = (.lit (.bool b), []) := by
  unfold plainElem at h
  rw [he] at h
  cases v <;> simp at h
  exact ⟨_, rfl, h.symm⟩

theorem wpList_lookup_own_bool {H : Type} {P : Program} (w : World) {ops : Array Oper} {rest : List Oper} {o : Oper} {a : Act} {Q : Exit → Act → World → Prop}
    (hg : o.guard = none) (m x : Operand) (t : TypeId) (hop : o.op = Op.lookup t m x false)
    (k e : TypeId) (K : Keyed P k) (ht : P.underlying t = some (.map k e)) (he : P.underlying e = some .bool) (hz : (zeroValue e).run P w = .ok (.bool false) w) (b n : Nat) (D : DataW H)
    (hm : a.eval m = .map (some b)) (hown : w.ownsMap P k (plainElem P e) b n D) (key : Value) (kl : Lit) (hx : a.eval x = key) (hkey : keyOf P k key = some kl)
    (c0 : Bool) (hc0 : D.atKey kl (.lit (.bool false)) = .lit (.bool c0))
    (hK : wpList P ops Q rest (a.put o.dst (.bool c0)) w) :
    wpList P ops Q (o :: rest) a w := by
  refine wpList_plain hg fun K' hK' => ?_
  obtain ⟨v, ps, hrun, hv⟩ := hown.lookup K ht hz (plainElem_bool he false) hkey
  obtain ⟨c, rfl, hc⟩ := plainElem_bool_inv he hv
  simp only [Prod.mk.injEq] at hc
  obtain rfl : c = c0 := by
    have := hc.1.symm.trans hc0
    simpa using this
  unfold Oper.wp
  simp [execOp, hop, hm, hx, hrun, Result.andThen]
  exact hK' _ _ hK

/-- Block mb is a map[int]bool whose look-up of any number is g. -/
def BMap (w : World) (mb : Nat) (g : Int → Bool) (N : Nat) : Prop :=
  ∃ (D : DataW Unit) (n : Nat), n ≤ N ∧ w.ownsMap Try.prog 3 (plainElem Try.prog 4) mb n D ∧ ∀ x, D.atKey (.int .i64 x) (.lit (.bool false)) = .lit (.bool (g x))
theorem BMap.lt {w : World} {mb : Nat} {f : Int → Bool} {N : Nat} (h : BMap w mb f N) : mb < w.heap.size := by
  obtain ⟨D, n, _, ho, _⟩ := h; exact ho.lt
theorem BMap.fr {S : Nat → Prop} {w w' : World} {mb : Nat} {f : Int → Bool} {N : Nat} (h : BMap w mb f N) (hf : Fr S w w') (hS : ¬ S mb) : BMap w' mb f N := by
  obtain ⟨D, n, hn, ho, r⟩ := h; exact ⟨D, n, hn, hf.ownsMap ho hS, r⟩
theorem zeroB (w : World) : (zeroValue 4).run Try.prog w = .ok (.bool false) w := by kernel_rfl
theorem bmap_made (w : World) : BMap (w.alloc (.map #[] 0)) w.heap.size (fun _ => false) 0 :=
  ⟨.map [], 0, Nat.le_refl _, World.ownsMap_made _ _ _ _, fun _ => rfl⟩
theorem BMap.put {w w1 : World} {mb : Nat} {D : DataW Unit} {n N : Nat} {g : Int → Bool} (hn : n ≤ N) (ho : w.ownsMap Try.prog 3 (plainElem Try.prog 4) mb n D) (h : ∀ x, D.atKey (.int .i64 x) (.lit (.bool false)) = .lit (.bool (g x)))
    (x : Int) (b : Bool) (ho1 : w1.ownsMap Try.prog 3 (plainElem Try.prog 4) mb (n + 1) (D.put (.int .i64 x) (.lit (.bool b)))) : BMap w1 mb (upd g x b) (N + 1) := by
  refine ⟨_, n + 1, by omega, ho1, fun y => ?_⟩
  unfold upd
  split
  · rename_i e; subst e; exact atKey_put_same ho.isMap (isKeyInt _) _ _
  · rename_i e; rw [atKey_put_other (by intro e'; exact e (by simpa using e'))]; exact h y
end Go.Proofs.Ytpigghenmagghaa
