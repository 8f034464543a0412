/- The law for a region that draws its order, inside a round of a range over a function. -/
import Derived.Test.YtanaompgapiikaaGreatDoorReg
import Derived.TacticsIn
namespace Go.Proofs.YtanaompgapiikaaGreatDoor
open Go.RowKit
set_option linter.unusedVariables false

def noDeferB (l : List Oper) : Bool := l.all fun o => match o.op with | .defer _ => false | _ => true

theorem op_lift {P : Program} {r n : Nat} {o : Oper} {a : Act} {w : World} {K K' K0 : Act → World → Prop} (hd : ∀ c, o.op ≠ .defer c) (h : o.wp P a w K (OnlyN K0)) (hK : ∀ a w, K a w → K' a w) : o.wpIn (Fence.wide.inRound r) n P a w K' (OnlyN K0) := by
  refine ⟨fun _ _ => trivial, ?_⟩
  unfold Oper.wp at h
  rw [show (Fence.wide.inRound r).round = some r from rfl, Oper.semAt_some r _ _ hd]
  generalize (execOp a.eval o).run P w = x at *
  cases x with
  | ok x w' =>
    cases x with
    | value v => exact hK _ _ h
    | skip => exact hK _ _ h
    | defer d => exact hK _ _ h
    | enter f args =>
      refine ⟨(fun e => by cases e), (show CallsIn (Fence.wide.inRound r) (n - 1) P f args w' _ from (callsIn_wide.2 (Calls.mono h (fun e w'' he => ?_)) : CallsIn Fence.wide (n - 1) P f args w' _))⟩
      cases e with
      | returned v => exact hK _ _ he
      | panicked c => exact he
      | outgrown => exact he
    | row row args =>
      refine ⟨(fun e => by cases e), (show RowsIn (Fence.wide.inRound r) (n - 1) P row args w' _ from fun c cs _ => ?_)⟩
      obtain ⟨v, w'', hv, hs⟩ := h c cs
      exact ⟨v, w'', hK _ _ hv, stepsIn_wide.2 hs⟩
    | _ => exact h.elim
  | halt x w' => cases x <;> first | exact h | exact h.elim

theorem ops_lift {P : Program} {r n : Nat} {ops : Array Oper} {K0 : Act → World → Prop} (hd : ∀ (i : Nat) (o : Oper), ops[i]? = some o → ∀ c, o.op ≠ Op.defer c) : ∀ (is : List Nat) (a : Act) (w : World), wpOps P ops (OnlyN K0) is a w → wpOpsIn (Fence.wide.inRound r) n P ops (OnlyN K0) is a w
  | [], a, w, h => h
  | i :: rest, a, w, h => by
    unfold wpOps at h
    unfold wpOpsIn
    split
    · rename_i hi
      rw [hi] at h
      exact ops_lift hd rest _ _ h
    · rename_i o hi
      rw [hi] at h
      simp only at h
      split
      · rename_i hw
        rw [if_pos hw] at h
        rcases h with h | ⟨_, _, _, h⟩
        · exact op_lift (hd i o hi) h (fun a w h => ops_lift hd rest a w h)
        · exact h.elim
      · rename_i hw
        rw [if_neg hw] at h
        exact ⟨fun _ _ => trivial, ops_lift hd rest _ _ h⟩

/-- **THE LAW, IN A ROUND.** -/
theorem region_sig_in {P : Program} {Q : Exit → Act → World → Prop} {l : List Oper} {a : Act} {w : World} {r n : Nat} {id : Nat} (T : Nat → Prop) (σ : List (Nat × Bool)) (hm : P.follows .mixedOrders = true)
    (hB : (Region.noSelect l.toArray && (σ.length == l.length) && schedB l.toArray σ (Array.replicate l.toArray.size false) && noDeferB l) = true)
    (h : ∀ w0, Fr No w w0 → wpSig P l Q T σ a w0) : (Code.region id l.toArray true).wpIn (Fence.wide.inRound r) n P Q a w := by
  simp only [Bool.and_eq_true, beq_iff_eq] at hB
  have h1 := anyH_of_sig (Q := Q) hB.1.1.1 σ _ a w.drew hB.1.2 (h _ ((Fr.refl No w).drew))
  have h2 : l.toArray.size = σ.length := by simp [hB.1.1.2]
  rw [← h2] at h1
  have h3 := wpAny_of_held _ _ _ _ h1
  have hd : ∀ (i : Nat) (o : Oper), l.toArray[i]? = some o → ∀ c, o.op ≠ Op.defer c := fun i o hi c hc => by
    have hm : o ∈ l := by rw [List.getElem?_toArray] at hi; exact List.mem_of_getElem? hi
    have h5 := List.all_eq_true.1 hB.2 o hm
    rw [hc] at h5
    cases h5
  refine wpIn_mono (Q := OnlyN (Q .normal)) (wpIn_region_draw fun t => ?_) fun e a w h => ?_
  · simp only [Region.schedule, hm, Bool.true_or, if_true]
    exact ops_lift hd _ _ _ (wpAny_sound l.toArray.size t _ a _ h3)
  · cases e <;> first | exact h | exact h.elim

/-- **THE LAW WITH FORKS, IN A ROUND.** -/
theorem region_tree_in {P : Program} {l : List Oper} {a : Act} {w : World} {r n : Nat} {id : Nat} {Q : Exit → Act → World → Prop} (T : Nat → Prop) (σ : Sg) (M : Act → World → Prop) (hm : P.follows .mixedOrders = true)
    (hB : (Region.noSelect l.toArray && (σ.size == l.length) && schedT l.toArray σ (Array.replicate l.toArray.size false) && noDeferB l) = true)
    (h : ∀ w0, Fr No w w0 → wpSg P l M T σ a w0) (hM : ∀ a' w', M a' w' → Q .normal a' w') : (Code.region id l.toArray true).wpIn (Fence.wide.inRound r) n P Q a w := by
  simp only [Bool.and_eq_true, beq_iff_eq] at hB
  have h1 := anyT (M := M) hB.1.1.1 σ _ a w.drew hB.1.2 (h _ ((Fr.refl No w).drew))
  have h2 : l.toArray.size = σ.size := by simp [hB.1.1.2]
  rw [← h2] at h1
  have h3 := wpAny_of_held _ _ _ _ h1
  have hd : ∀ (i : Nat) (o : Oper), l.toArray[i]? = some o → ∀ c, o.op ≠ Op.defer c := fun i o hi c hc => by
    have hm : o ∈ l := by rw [List.getElem?_toArray] at hi; exact List.mem_of_getElem? hi
    have h5 := List.all_eq_true.1 hB.2 o hm
    rw [hc] at h5
    cases h5
  refine wpIn_mono (Q := OnlyN M) (wpIn_region_draw fun t => ?_) fun e a w h => ?_
  · simp only [Region.schedule, hm, Bool.true_or, if_true]
    exact ops_lift hd _ _ _ (wpAny_sound l.toArray.size t _ a _ h3)
  · cases e <;> first | exact hM _ _ h | exact h.elim
end Go.Proofs.YtanaompgapiikaaGreatDoor
