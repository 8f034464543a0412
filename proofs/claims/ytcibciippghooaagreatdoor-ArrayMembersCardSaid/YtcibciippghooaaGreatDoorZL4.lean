/- A region that draws its order and holds calls: the operations that only compute and read are taken first, the calls come in their chain; one walk serves every order. Plain laws over any program. Chain, Origin of the reference. -/
import Derived.Test.YtcibciippghooaaGreatDoorZL2
import Derived.OrdersHeld
import Derived.Test.YtcibciippghooaaGreatDoorZL3
import Derived.Maps.AppendAt
namespace Go.Proofs.YtcibciippghooaaGreatDoor
open Go.RowKit
set_option linter.unusedVariables false

/-- Only the normal way out. -/
def OnlyN (K : Act → World → Prop) : Exit → Act → World → Prop
  | .normal, a, w => K a w
  | _, _, _ => False
theorem OnlyN.mk {K : Act → World → Prop} {a : Act} {w : World} (h : K a w) : OnlyN K .normal a w := h

def nth : List Oper → Nat → Option Oper
  | [], _ => none
  | o :: _, 0 => some o
  | _ :: l, n + 1 => nth l n
theorem nth_eq : ∀ (l : List Oper) (i : Nat), nth l i = l[i]?
  | [], _ => by simp [nth]
  | _ :: _, 0 => rfl
  | _ :: l, n + 1 => by simp only [nth, List.getElem?_cons_succ]; exact nth_eq l n

/-- Operations that yield a value and enter nothing. -/
def valueOp : Op → Bool
  | .move _ | .assign _ | .pick _ _ _ | .load _ _ | .nilCheck _ | .binOp _ _ _ _ _ | .unOp _ _ _ | .convert _ _ _ | .fieldAddr _ _ _ | .field _ _ _ | .indexAddr _ _ _ | .index _ _ _
  | .lookup _ _ _ _ | .extract _ _ | .build _ _ | .slice _ _ _ _ _ | .makeInterface _ _ | .makeFunc _ _ _ => true
  | .call c => match c.callee with | .builtin .len => true | .builtin .cap => true | _ => false
  | _ => false

/-- It yields v in every world of the class. -/
def yieldsC (P : Program) (o : Oper) (a : Act) (C : World → Prop) (v : Value) : Prop := ∀ W, C W → (execOp a.eval o).run P W = .ok (.value v) W

theorem run_wrap {P : Program} {s : Sem Value} {W W' : World} {n : Next} (h : (do pure (Next.value (← s)) : Sem Next).run P W = .ok n W') : ∃ v, n = .value v := by
  rw [Sem.run_bind] at h
  cases hs : s.run P W with
  | ok x W'' => rw [hs] at h; simp only [Result.andThen_ok] at h; cases h; exact ⟨x, rfl⟩
  | halt x W'' => rw [hs] at h; simp only [Result.andThen_halt] at h; cases h

theorem run_then {P : Program} {α : Type} {s : Sem α} {f : α → Sem Next} {W W' : World} {n : Next} (h : (s >>= f).run P W = .ok n W') (hf : ∀ x W, (f x).run P W = .ok n W' → ∃ v, n = .value v) : ∃ v, n = .value v := by
  rw [Sem.run_bind] at h
  cases hs : s.run P W with
  | ok x W'' => rw [hs] at h; simp only [Result.andThen_ok] at h; exact hf x _ h
  | halt x W'' => rw [hs] at h; simp only [Result.andThen_halt] at h; cases h

theorem run_pure {P : Program} {x : Value} {W W' : World} {n : Next} (h : (pure (Next.value x) : Sem Next).run P W = .ok n W') : ∃ v, n = .value v := by
  cases h; exact ⟨_, rfl⟩

theorem run_panic {P : Program} {W W' : World} {n : Next} (h : (runtimePanic .nilDeref : Sem Next).run P W = .ok n W') : ∃ v, n = .value v := by
  unfold runtimePanic at h
  simp [Sem.run_bind, goPanic, program, Sem.run] at h

theorem valueOp_value {P : Program} (ρ : Operand → Value) (o : Oper) (hv : valueOp o.op = true) {W W' : World} {n : Next} (h : (execOp ρ o).run P W = .ok n W') : ∃ v, n = .value v := by
  obtain ⟨dst, op, type, pos, after, guard⟩ := o
  cases op <;> simp only [valueOp, Bool.false_eq_true] at hv
  case nilCheck x =>
    unfold execOp at h
    dsimp only at h
    split at h
    · exact run_panic h
    · exact run_panic h
    · exact run_panic h
    · split at h
      · exact run_panic h
      · refine run_then h fun _ _ h => run_then h fun _ _ h => ?_
        split at h
        · exact run_then h fun _ _ h => run_pure h
        · exact run_pure h
      · exact run_pure h
    · exact run_pure h
  case call c =>
    obtain ⟨callee, args, ats⟩ := c
    cases callee with
    | value f => simp at hv
    | invoke r m => simp at hv
    | builtin b =>
      cases b <;> simp at hv
      all_goals
        exact run_wrap h
  case move x => unfold execOp at h; exact run_pure h
  case assign x => unfold execOp at h; exact run_pure h
  case pick c x y =>
    unfold execOp at h
    dsimp only at h
    refine run_then h fun _ _ h => ?_
    split at h <;> exact run_pure h
  all_goals (unfold execOp at h; exact run_wrap h)

/-- A world that comes of w by what the region's calls may do. -/
structure Gr (T : Nat → Prop) (w : World) where
  W : World
  fr : Fr T w W
instance (T : Nat → Prop) (w : World) : Inhabited (Gr T w) := ⟨⟨w, Fr.refl _ _⟩⟩
def Cls (T : Nat → Prop) (w : World) : World → Prop := fun W => ∃ g : Gr T w, W = g.W

/-- The walk in a given order: numbers of operations, 'true' beside those that may turn the world. -/
def wpSig (P : Program) (l : List Oper) (Q : Exit → Act → World → Prop) (T : Nat → Prop) : List (Nat × Bool) → Act → World → Prop
  | [], a, w => Q .normal a w
  | (i, mv) :: σ, a, w => match nth l i with
    | none => False
    | some o =>
      if mv = true then wpList P l.toArray (OnlyN fun a' w' => Fr T w w' ∧ wpSig P l Q T σ a' w') [o] a w
      else valueOp o.op = true ∧ (if Region.wanted o (yielded l.toArray a.tmps) = true then ∃ v, yieldsC P o a (Cls T w) v ∧ wpSig P l Q T σ (a.put o.dst v) w else wpSig P l Q T σ (a.put o.dst undef) w)

/-- The order is one that the region's edges allow, what computes is free when it is taken, and what turns the world is then alone. -/
def schedB (ops : Array Oper) : List (Nat × Bool) → Array Bool → Bool
  | [], listed => (Region.ready .any ops listed).isEmpty
  | (i, mv) :: σ, listed => (if mv then Region.ready .any ops listed == [i] else (Region.ready .any ops listed).contains i && Region.free .any ops listed i) && schedB ops σ (listed.setIfInBounds i true)

section
variable {P : Program} {ops : Array Oper} {Q : Exit → Act → World → Prop} {md : Region.Mode} {S S' : World → Prop}

theorem anyH_mono (h : ∀ W, S W → S' W) : ∀ (fuel : Nat) (listed : Array Bool) (a : Act) (w : World), wpAnyH P md ops Q S fuel listed a w → wpAnyH P md ops Q S' fuel listed a w
  | 0, _, _, _, hh => hh
  | fuel + 1, _, _, _, hh => ⟨hh.1, fun i hi => wpOp_mono (fun a' w' h' => ⟨h _ h'.1, anyH_mono h fuel _ a' w' h'.2⟩) (hh.2 i hi)⟩

theorem wp_only {o : Oper} {a : Act} {w : World} {K K0 : Act → World → Prop} (hh : o.wp P a w K (OnlyN K0)) : o.wp P a w K Q := by
  unfold Oper.wp at *
  generalize (execOp a.eval o).run P w = r at *
  cases r with
  | ok n w' =>
    cases n <;> simp only [Oper.upon] at hh ⊢
    case value => exact hh
    case skip => exact hh
    case defer => exact hh
    case enter =>
      refine Calls.mono hh (fun e w'' he => ?_)
      cases e with
      | returned v => exact he
      | panicked c => exact he.elim
      | outgrown => obtain ⟨_, _, h⟩ := he; exact h.elim
    case row => exact Rows.mono hh (fun _ _ he => he)
  | halt x w' =>
    cases x <;> simp only [Oper.upon] at hh ⊢
    case panic => exact hh.elim

theorem cls_refl (T : Nat → Prop) (w : World) : Cls T w w := ⟨⟨w, Fr.refl _ _⟩, rfl⟩

theorem anyH_of_sig {l : List Oper} {T : Nat → Prop} (hs : Region.noSelect l.toArray = true) : ∀ (σ : List (Nat × Bool)) (listed : Array Bool) (a : Act) (w : World),
    schedB l.toArray σ listed = true → wpSig P l Q T σ a w → wpAnyH P .any l.toArray (OnlyN (Q .normal)) (Fr T w) σ.length listed a w
  | [], listed, a, w, hB, h => wpAnyH_done (P := P) (S := Fr T w) (Q := OnlyN (Q .normal)) (md := .any) (by simpa [schedB] using hB) (show OnlyN (Q .normal) .normal a w from h) 0
  | (i, mv) :: σ, listed, a, w, hB, h => by
    simp only [schedB, Bool.and_eq_true] at hB
    obtain ⟨hB1, hB2⟩ := hB
    simp only [wpSig] at h
    cases hn : nth l i with
    | none => rw [hn] at h; exact h.elim
    | some o =>
      rw [hn] at h
      have ho : l.toArray[i]? = some o := by rw [List.getElem?_toArray, ← nth_eq]; exact hn
      cases mv with
      | true =>
        simp only [if_true, beq_iff_eq] at hB1 h
        refine wpAnyH_all (rs := [i]) hB1 (by simp) ?_
        intro j hj
        obtain rfl : j = i := by simpa using hj
        have step : ∀ a' w', (Fr T w w' ∧ wpSig P l Q T σ a' w') → Fr T w w' ∧ wpAnyH P .any l.toArray (OnlyN (Q .normal)) (Fr T w) σ.length (listed.setIfInBounds j true) a' w' := fun a' w' h' =>
          ⟨h'.1, anyH_mono (fun W hW => h'.1.step hW (fun _ _ h => h)) _ _ _ _ (anyH_of_sig hs σ _ a' w' hB2 h'.2)⟩
        unfold wpOp
        simp only [ho]
        unfold wpList at h
        split
        · rename_i hw
          rw [if_pos hw] at h
          rcases h with h | ⟨_, h⟩
          · exact .inl (Oper.wp_mono (fun a' w' h' => step a' w' h') (wp_only h))
          · obtain ⟨_, _, h⟩ := h; exact h.elim
        · rename_i hw
          rw [if_neg hw] at h
          exact step _ _ h
      | false =>
        simp only [Bool.false_eq_true, if_false, Bool.and_eq_true] at hB1 h
        obtain ⟨hv, h⟩ := h
        split at h
        · rename_i hw
          obtain ⟨v, hy, h⟩ := h
          exact wpAnyH_take ho hs hB1.2 hB1.1 (fun _ _ _ h => h.elim) (.inl ⟨hw, fun W hW => hy W ⟨⟨W, hW⟩, rfl⟩⟩) (Fr.refl _ _) (anyH_of_sig hs σ _ _ w hB2 h)
        · rename_i hw
          exact wpAnyH_take ho hs hB1.2 hB1.1 (fun _ _ _ h => h.elim) (.inr ⟨by simpa using hw, rfl⟩) (Fr.refl _ _) (anyH_of_sig hs σ _ _ w hB2 h)
end

section
variable {P : Program} {Q : Exit → Act → World → Prop} {T : Nat → Prop} {l : List Oper} {σ : List (Nat × Bool)} {a : Act} {w : World}

/-- **THE LAW**: a region that draws its order, walked once in the order σ. -/
theorem region_sig {id : Nat} (T : Nat → Prop) (σ : List (Nat × Bool)) (hm : P.follows .mixedOrders = true)
    (hB : (Region.noSelect l.toArray && (σ.length == l.length) && schedB l.toArray σ (Array.replicate l.toArray.size false)) = true)
    (h : ∀ w0, Fr No w w0 → wpSig P l Q T σ a w0) : (Code.region id l.toArray true).wp P Q a w := by
  simp only [Bool.and_eq_true, beq_iff_eq] at hB
  have h1 := anyH_of_sig (Q := Q) hB.1.1 σ _ a w.drew hB.2 (h _ ((Fr.refl No w).drew))
  have h2 : l.toArray.size = σ.length := by simp [hB.1.2]
  rw [← h2] at h1
  refine wp_mono (wp_region_held (S := Fr T w.drew) hm h1) fun e a w h => ?_
  cases e <;> first | exact h | exact h.elim

theorem sig_end (h : Q .normal a w) : wpSig P l Q T [] a w := h

/-- An operation that computes or reads. -/
theorem sig_q {i : Nat} {o : Oper} (hn : nth l i = some o) (hv : valueOp o.op = true) (hw : Region.wanted o (yielded l.toArray a.tmps) = true)
    (h : ∀ K : Act → Prop, (∀ a', wpSig P l Q T σ a' w → K a') → o.quiet P a (fun W => ∃ g : Gr T w, W = g.W) K) : wpSig P l Q T ((i, false) :: σ) a w := by
  obtain ⟨v, h1, h2⟩ := h (fun a' => wpSig P l Q T σ a' w) (fun _ h => h)
  simp only [wpSig, hn, Bool.false_eq_true, if_false, hw, if_true]
  refine ⟨hv, v, fun W hW => ?_, h2⟩
  have h3 := h1 W hW
  unfold Oper.quietAt at h3
  cases hr : (execOp a.eval o).run P W with
  | halt x W' => rw [hr] at h3; exact h3.elim
  | ok n W' =>
    obtain ⟨u, rfl⟩ := valueOp_value a.eval o hv hr
    rw [hr] at h3
    obtain ⟨e1, e2⟩ := h3
    rw [e1, e2]

/-- An operation whose guard says no. -/
theorem sig_skip {i : Nat} {dst : Option Tmp} {op : Op} {type : TypeId} {pos : String} {after : Array Edge} {guard : Option (Nat × Bool)} (hn : nth l i = some ⟨dst, op, type, pos, after, guard⟩) (hv : valueOp op = true)
    (hw : Region.wanted ⟨dst, op, type, pos, after, guard⟩ (yielded l.toArray a.tmps) = false)
    (h : ∀ K : Act → Prop, (∀ a', wpSig P l Q T σ a' w → K a') → (⟨dst, .assign (.const undef), type, pos, #[], none⟩ : Oper).quiet P a (fun W => ∃ g : Gr T w, W = g.W) K) : wpSig P l Q T ((i, false) :: σ) a w := by
  obtain ⟨v, h1, h2⟩ := h (fun a' => wpSig P l Q T σ a' w) (fun _ h => h)
  simp only [wpSig, hn, Bool.false_eq_true, if_false, hw]
  refine ⟨hv, ?_⟩
  have h3 := h1 w (cls_refl T w)
  obtain ⟨_, rfl⟩ := (h3 : w = w ∧ undef = v)
  exact h2

/-- An operation that may turn the world: it is alone. -/
theorem sig_m {i : Nat} {o : Oper} (hn : nth l i = some o) (h : wpList P l.toArray (OnlyN fun a' w' => Fr T w w' ∧ wpSig P l Q T σ a' w') [o] a w) : wpSig P l Q T ((i, true) :: σ) a w := by
  simp only [wpSig, hn, if_true]
  exact h
end
end Go.Proofs.YtcibciippghooaaGreatDoor
/- A region that draws its order, in which two or three operations that may turn the world can stand side by side: the walk forks there. Plain laws over any program. -/
namespace Go.Proofs.YtcibciippghooaaGreatDoor
open Go.RowKit
set_option linter.unusedVariables false

/-- The walk's order: 'q' computes or reads; 'm1' may turn the world and is alone; 'm2', 'm3' fork. -/
inductive Sg where
  | fin : Sg
  | q (i : Nat) (n : Sg) : Sg
  | m1 (i : Nat) (n : Sg) : Sg
  | m2 (i : Nat) (n : Sg) (j : Nat) (n' : Sg) : Sg
  | m3 (i : Nat) (n : Sg) (j : Nat) (n' : Sg) (k : Nat) (n'' : Sg) : Sg

def Sg.size : Sg → Nat
  | .fin => 0
  | .q _ n => n.size + 1
  | .m1 _ n => n.size + 1
  | .m2 _ n _ _ => n.size + 1
  | .m3 _ n _ _ _ _ => n.size + 1

def schedT (ops : Array Oper) : Sg → Array Bool → Bool
  | .fin, listed => (Region.ready .any ops listed).isEmpty
  | .q i n, listed => (Region.ready .any ops listed).contains i && Region.free .any ops listed i && schedT ops n (listed.setIfInBounds i true)
  | .m1 i n, listed => (Region.ready .any ops listed == [i]) && schedT ops n (listed.setIfInBounds i true)
  | .m2 i n j n', listed => (Region.ready .any ops listed == [i, j]) && (n'.size == n.size) && schedT ops n (listed.setIfInBounds i true) && schedT ops n' (listed.setIfInBounds j true)
  | .m3 i n j n' k n'', listed => (Region.ready .any ops listed == [i, j, k]) && (n'.size == n.size) && (n''.size == n.size) && schedT ops n (listed.setIfInBounds i true) && schedT ops n' (listed.setIfInBounds j true) && schedT ops n'' (listed.setIfInBounds k true)

/-- One operation that may turn the world. -/
def wpMv (P : Program) (l : List Oper) (T : Nat → Prop) (i : Nat) (K : Act → World → Prop) (a : Act) (w : World) : Prop :=
  match nth l i with
  | none => False
  | some o => wpList P l.toArray (OnlyN fun a' w' => Fr T w w' ∧ K a' w') [o] a w

def wpSg (P : Program) (l : List Oper) (M : Act → World → Prop) (T : Nat → Prop) : Sg → Act → World → Prop
  | .fin, a, w => M a w
  | .q i n, a, w => match nth l i with
    | none => False
    | some o => valueOp o.op = true ∧ (if Region.wanted o (yielded l.toArray a.tmps) = true then ∃ v, yieldsC P o a (Cls T w) v ∧ wpSg P l M T n (a.put o.dst v) w else wpSg P l M T n (a.put o.dst undef) w)
  | .m1 i n, a, w => wpMv P l T i (wpSg P l M T n) a w
  | .m2 i n j n', a, w => wpMv P l T i (wpSg P l M T n) a w ∧ wpMv P l T j (wpSg P l M T n') a w
  | .m3 i n j n' k n'', a, w => wpMv P l T i (wpSg P l M T n) a w ∧ wpMv P l T j (wpSg P l M T n') a w ∧ wpMv P l T k (wpSg P l M T n'') a w

section
variable {P : Program} {M : Act → World → Prop}

theorem mv_step {l : List Oper} {T : Nat → Prop} {i : Nat} {K : Act → World → Prop} {fuel : Nat} {listed : Array Bool} {a : Act} {w : World} (h : wpMv P l T i K a w)
    (hn : ∀ a' w', K a' w' → wpAnyH P .any l.toArray (OnlyN M) (Fr T w') fuel (listed.setIfInBounds i true) a' w') :
    wpOp P l.toArray (OnlyN M) i (fun a' w' => Fr T w w' ∧ wpAnyH P .any l.toArray (OnlyN M) (Fr T w) fuel (listed.setIfInBounds i true) a' w') a w := by
  unfold wpMv at h
  cases ho' : nth l i with
  | none => rw [ho'] at h; exact h.elim
  | some o =>
    rw [ho'] at h
    dsimp only at h
    have ho : l.toArray[i]? = some o := by rw [List.getElem?_toArray, ← nth_eq]; exact ho'
    have step : ∀ a' w', (Fr T w w' ∧ K a' w') → Fr T w w' ∧ wpAnyH P .any l.toArray (OnlyN M) (Fr T w) fuel (listed.setIfInBounds i true) a' w' := fun a' w' h' =>
      ⟨h'.1, anyH_mono (fun W hW => h'.1.step hW (fun _ _ h => h)) _ _ _ _ (hn a' w' h'.2)⟩
    unfold wpOp
    simp only [ho]
    unfold wpList at h
    split
    · rename_i hw
      rw [if_pos hw] at h
      rcases h with h | ⟨_, h⟩
      · exact .inl (Oper.wp_mono (fun a' w' h' => step a' w' h') (wp_only h))
      · obtain ⟨_, _, h⟩ := h; exact h.elim
    · rename_i hw
      rw [if_neg hw] at h
      exact step _ _ h

theorem anyT {l : List Oper} {T : Nat → Prop} (hs : Region.noSelect l.toArray = true) : ∀ (σ : Sg) (listed : Array Bool) (a : Act) (w : World),
    schedT l.toArray σ listed = true → wpSg P l M T σ a w → wpAnyH P .any l.toArray (OnlyN M) (Fr T w) σ.size listed a w
  | .fin, listed, a, w, hB, h => wpAnyH_done (P := P) (S := Fr T w) (Q := OnlyN M) (md := .any) (by simpa [schedT] using hB) (show OnlyN M .normal a w from h) 0
  | .q i n, listed, a, w, hB, h => by
    simp only [schedT, Bool.and_eq_true] at hB
    obtain ⟨hB1, hB2⟩ := hB
    simp only [wpSg] at h
    cases hn : nth l i with
    | none => rw [hn] at h; exact h.elim
    | some o =>
      rw [hn] at h
      have ho : l.toArray[i]? = some o := by rw [List.getElem?_toArray, ← nth_eq]; exact hn
      obtain ⟨hv, h⟩ := h
      split at h
      · rename_i hw
        obtain ⟨v, hy, h⟩ := h
        exact wpAnyH_take ho hs hB1.2 hB1.1 (fun _ _ _ h => h.elim) (.inl ⟨hw, fun W hW => hy W ⟨⟨W, hW⟩, rfl⟩⟩) (Fr.refl _ _) (anyT hs n _ _ w hB2 h)
      · rename_i hw
        exact wpAnyH_take ho hs hB1.2 hB1.1 (fun _ _ _ h => h.elim) (.inr ⟨by simpa using hw, rfl⟩) (Fr.refl _ _) (anyT hs n _ _ w hB2 h)
  | .m1 i n, listed, a, w, hB, h => by
    simp only [schedT, Bool.and_eq_true, beq_iff_eq] at hB
    refine wpAnyH_all (rs := [i]) hB.1 (by simp) ?_
    intro j hj
    obtain rfl : j = i := by simpa using hj
    exact mv_step h (fun a' w' h' => anyT hs n _ a' w' hB.2 h')
  | .m2 i n j n', listed, a, w, hB, h => by
    simp only [schedT, Bool.and_eq_true, beq_iff_eq] at hB
    obtain ⟨⟨⟨hB1, hs1⟩, hB2⟩, hB3⟩ := hB
    refine wpAnyH_all (rs := [i, j]) hB1 (by simp) ?_
    intro x hx
    simp only [List.mem_cons, List.not_mem_nil, or_false] at hx
    by_cases e : x = i
    · subst e; exact mv_step h.1 (fun a' w' h' => anyT hs n _ a' w' hB2 h')
    · obtain rfl : x = j := by omega
      exact mv_step h.2 (fun a' w' h' => by have := anyT hs n' _ a' w' hB3 h'; rwa [hs1] at this)
  | .m3 i n j n' k n'', listed, a, w, hB, h => by
    simp only [schedT, Bool.and_eq_true, beq_iff_eq] at hB
    obtain ⟨⟨⟨⟨⟨hB1, hs1⟩, hs2⟩, hB2⟩, hB3⟩, hB4⟩ := hB
    refine wpAnyH_all (rs := [i, j, k]) hB1 (by simp) ?_
    intro x hx
    simp only [List.mem_cons, List.not_mem_nil, or_false] at hx
    by_cases e : x = i
    · subst e; exact mv_step h.1 (fun a' w' h' => anyT hs n _ a' w' hB2 h')
    · by_cases e2 : x = j
      · subst e2; exact mv_step h.2.1 (fun a' w' h' => by have := anyT hs n' _ a' w' hB3 h'; rwa [hs1] at this)
      · obtain rfl : x = k := by omega
        exact mv_step h.2.2 (fun a' w' h' => by have := anyT hs n'' _ a' w' hB4 h'; rwa [hs2] at this)
end

section
variable {P : Program} {M : Act → World → Prop} {T : Nat → Prop} {l : List Oper} {σ σ' σ'' : Sg} {a : Act} {w : World}

/-- **THE LAW**: every fork ends in M; M leads on. -/
theorem region_tree {id : Nat} {Q : Exit → Act → World → Prop} (T : Nat → Prop) (σ : Sg) (M : Act → World → Prop) (hm : P.follows .mixedOrders = true)
    (hB : (Region.noSelect l.toArray && (σ.size == l.length) && schedT l.toArray σ (Array.replicate l.toArray.size false)) = true)
    (h : ∀ w0, Fr No w w0 → wpSg P l M T σ a w0) (hM : ∀ a' w', M a' w' → Q .normal a' w') : (Code.region id l.toArray true).wp P Q a w := by
  simp only [Bool.and_eq_true, beq_iff_eq] at hB
  have h1 := anyT (M := M) hB.1.1 σ _ a w.drew hB.2 (h _ ((Fr.refl No w).drew))
  have h2 : l.toArray.size = σ.size := by simp [hB.1.2]
  rw [← h2] at h1
  refine wp_mono (wp_region_held (S := Fr T w.drew) hm h1) fun e a w h => ?_
  cases e <;> first | exact hM _ _ h | exact h.elim

theorem tree_end (h : M a w) : wpSg P l M T .fin a w := h

/-- An operation that computes or reads. -/
theorem tree_q {i : Nat} {o : Oper} (hn : nth l i = some o) (hv : valueOp o.op = true) (hw : Region.wanted o (yielded l.toArray a.tmps) = true)
    (h : ∀ K : Act → Prop, (∀ a', wpSg P l M T σ a' w → K a') → o.quiet P a (fun W => ∃ g : Gr T w, W = g.W) K) : wpSg P l M T (.q i σ) a w := by
  obtain ⟨v, h1, h2⟩ := h (fun a' => wpSg P l M T σ a' w) (fun _ h => h)
  simp only [wpSg, hn, hw, if_true]
  refine ⟨hv, v, fun W hW => ?_, h2⟩
  have h3 := h1 W hW
  unfold Oper.quietAt at h3
  cases hr : (execOp a.eval o).run P W with
  | halt x W' => rw [hr] at h3; exact h3.elim
  | ok n W' =>
    obtain ⟨u, rfl⟩ := valueOp_value a.eval o hv hr
    rw [hr] at h3
    obtain ⟨e1, e2⟩ := h3
    rw [e1, e2]

/-- An operation whose guard says no. -/
theorem tree_skip {i : Nat} {dst : Option Tmp} {op : Op} {type : TypeId} {pos : String} {after : Array Edge} {guard : Option (Nat × Bool)} (hn : nth l i = some ⟨dst, op, type, pos, after, guard⟩) (hv : valueOp op = true)
    (hw : Region.wanted ⟨dst, op, type, pos, after, guard⟩ (yielded l.toArray a.tmps) = false)
    (h : ∀ K : Act → Prop, (∀ a', wpSg P l M T σ a' w → K a') → (⟨dst, .assign (.const undef), type, pos, #[], none⟩ : Oper).quiet P a (fun W => ∃ g : Gr T w, W = g.W) K) : wpSg P l M T (.q i σ) a w := by
  obtain ⟨v, h1, h2⟩ := h (fun a' => wpSg P l M T σ a' w) (fun _ h => h)
  simp only [wpSg, hn, Bool.false_eq_true, if_false, hw]
  refine ⟨hv, ?_⟩
  have h3 := h1 w (cls_refl T w)
  obtain ⟨_, rfl⟩ := (h3 : w = w ∧ undef = v)
  exact h2

theorem mv_mk {i : Nat} {o : Oper} {K : Act → World → Prop} (hn : nth l i = some o) (h : wpList P l.toArray (OnlyN fun a' w' => Fr T w w' ∧ K a' w') [o] a w) : wpMv P l T i K a w := by
  unfold wpMv; rw [hn]; exact h
/-- An operation that may turn the world: alone, or at a fork. -/
theorem tree_m1 {i : Nat} {o : Oper} (hn : nth l i = some o) (h : wpList P l.toArray (OnlyN fun a' w' => Fr T w w' ∧ wpSg P l M T σ a' w') [o] a w) : wpSg P l M T (.m1 i σ) a w := mv_mk hn h
theorem tree_m2 {i j : Nat} {o o' : Oper} (hn : nth l i = some o) (hn' : nth l j = some o') (h : wpList P l.toArray (OnlyN fun a' w' => Fr T w w' ∧ wpSg P l M T σ a' w') [o] a w)
    (h' : wpList P l.toArray (OnlyN fun a' w' => Fr T w w' ∧ wpSg P l M T σ' a' w') [o'] a w) : wpSg P l M T (.m2 i σ j σ') a w := ⟨mv_mk hn h, mv_mk hn' h'⟩
theorem tree_m3 {i j k : Nat} {o o' o'' : Oper} (hn : nth l i = some o) (hn' : nth l j = some o') (hn'' : nth l k = some o'') (h : wpList P l.toArray (OnlyN fun a' w' => Fr T w w' ∧ wpSg P l M T σ a' w') [o] a w)
    (h' : wpList P l.toArray (OnlyN fun a' w' => Fr T w w' ∧ wpSg P l M T σ' a' w') [o'] a w) (h'' : wpList P l.toArray (OnlyN fun a' w' => Fr T w w' ∧ wpSg P l M T σ'' a' w') [o''] a w) : wpSg P l M T (.m3 i σ j σ' k σ'') a w := ⟨mv_mk hn h, mv_mk hn' h', mv_mk hn'' h''⟩
end
end Go.Proofs.YtcibciippghooaaGreatDoor
namespace Go.Proofs.YtcibciippghooaaGreatDoor
open Go.RowKit Go.Maps
set_option linter.unusedVariables false

theorem infoS : (Tryz.prog.info? 9).map (fun i => (i.zero, i.size, i.bytes)) = some (some (.string ByteArray.empty), 1, 16) := by kernel_rfl

theorem ownsRow_blk {w : World} {base : Nat} {e : TypeId} {size : Nat} {v : Value} {n : Nat} {xs : List Value} (h : w.ownsRow base e size v n xs) {b : Nat} (hb : v.ownBlock = some b) : From base b := by
  obtain ⟨_, ⟨rfl, _⟩ | ⟨g, cap, cur, rfl, hg, _⟩⟩ := h
  · cases hb
  · cases hb; exact hg
theorem ownsRow_slice {w : World} {base : Nat} {e : TypeId} {size : Nat} {v : Value} {n : Nat} {xs : List Value} (h : w.ownsRow base e size v n xs) : ∃ a c, v = .slice a n c := by
  obtain ⟨_, ⟨rfl, rfl⟩ | ⟨g, cap, cur, rfl, hg, _⟩⟩ := h
  · exact ⟨_, _, rfl⟩
  · exact ⟨_, _, rfl⟩
theorem ownsRow_base {w : World} {base base' : Nat} {e : TypeId} {size : Nat} {v : Value} {n : Nat} {xs : List Value} (h : w.ownsRow base e size v n xs) (hb : base' ≤ base) : w.ownsRow base' e size v n xs := by
  obtain ⟨h0, h | ⟨g, cap, cur, h, hg, r⟩⟩ := h
  · exact ⟨h0, .inl h⟩
  · exact ⟨h0, .inr ⟨g, cap, cur, h, Nat.le_trans hb hg, r⟩⟩
theorem ownsRow_lt {w : World} {base : Nat} {e : TypeId} {size : Nat} {v : Value} {n : Nat} {xs : List Value} (h : w.ownsRow base e size v n xs) {b : Nat} (hb : v.ownBlock = some b) : b < w.heap.size := by
  obtain ⟨_, ⟨rfl, _⟩ | ⟨g, cap, cur, rfl, hg, hbl, _⟩⟩ := h
  · cases hb
  · cases hb; exact lt_of_block hbl
theorem grown_fr {w w1 : World} {base : Nat} {e : TypeId} {size : Nat} {v : Value} {n : Nat} {xs : List Value} (h : w.ownsRow base e size v n xs) {o : Obj} (hg : (w.alloc o).grownBy w1 v.ownBlock) : Fr (From base) w w1 :=
  ((Fr.refl _ _).alloc o).step (Fr.of_grown hg) (fun b _ e => ownsRow_blk h e)
theorem ownsRow_fr {w w1 : World} {base : Nat} {e : TypeId} {size : Nat} {v : Value} {n : Nat} {xs : List Value} (h : w.ownsRow base e size v n xs) {S : Nat → Prop} (hf : Fr S w w1) (hS : ∀ b, base ≤ b → ¬ S b) : w1.ownsRow base e size v n xs := by
  obtain ⟨h0, ⟨rfl, h2⟩ | ⟨g, cap, cur, rfl, hg, hb, h1, h2, h3, h4⟩⟩ := h
  · exact ⟨h0, .inl ⟨rfl, h2⟩⟩
  · exact ⟨h0, .inr ⟨g, cap, cur, rfl, hg, hf.heap hb (hS g hg), h1, h2, h3, h4⟩⟩

theorem cells_new (w : World) (xs : Array Value) (t : TypeId) {b : Nat} (hb : w.heap.size = b) : ∀ j u, xs.toList[j]? = some u → (w.alloc (.cells xs t)).cell? ((⟨b, 0, none⟩ : Addr).add j) = some u := by
  intro j u hj
  subst hb
  rw [Addr.add_lit, cell_of_block (block_alloc w (.cells xs t))]
  simpa using hj

def flat (l : List Dev) : List Value := l.flatMap (fun d => d.vals.toList)
theorem flat_snoc (l : List Dev) (d : Dev) : flat (l ++ [d]) = flat l ++ d.vals.toList := by simp [flat]
theorem flat_len (l : List Dev) : (flat l).length = l.length * 10 := by
  induction l with
  | nil => rfl
  | cons d t ih =>
    have : flat (d :: t) = d.vals.toList ++ flat t := by simp [flat]
    rw [this, List.length_append, ih]
    simp [Dev.vals]; omega
theorem vals_at (d : Dev) (j : Nat) (hj : j < 10) : d.vals.toList[j]? = some (d.cell j) := by
  unfold Dev.vals
  match j, hj with
  | 0, _ => rfl
  | 1, _ => rfl
  | 2, _ => rfl
  | 3, _ => rfl
  | 4, _ => rfl
  | 5, _ => rfl
  | 6, _ => rfl
  | 7, _ => rfl
  | 8, _ => rfl
  | 9, _ => rfl
theorem flat_at : ∀ (l : List Dev) (i : Nat) (d : Dev), l[i]? = some d → ∀ j, j < 10 → (flat l)[i * 10 + j]? = some (d.cell j)
  | [], i, d, h, j, hj => by simp at h
  | x :: t, 0, d, h, j, hj => by
    simp at h; subst h
    have : flat (x :: t) = x.vals.toList ++ flat t := by simp [flat]
    rw [this, List.getElem?_append_left (by simp [Dev.vals]; omega)]
    simpa using vals_at x j hj
  | x :: t, i + 1, d, h, j, hj => by
    have : flat (x :: t) = x.vals.toList ++ flat t := by simp [flat]
    rw [this, List.getElem?_append_right (by simp [Dev.vals]; omega)]
    have h1 := flat_at t i d (by simpa using h) j hj
    rw [show (i + 1) * 10 + j - x.vals.toList.length = i * 10 + j from by simp [Dev.vals]; omega]
    exact h1
theorem vals_one (d : Dev) : ∀ u ∈ d.vals.toList, u.oneCell' = true := by
  intro u hu
  simp [Dev.vals] at hu
  rcases hu with rfl | rfl | rfl | rfl | rfl | rfl | rfl | rfl | rfl | rfl <;> rfl
theorem flat_one (l : List Dev) : ∀ u ∈ flat l, u.oneCell' = true := by
  intro u hu
  obtain ⟨d, hd, hu⟩ := List.mem_flatMap.1 hu
  exact vals_one d u hu

/-- A row of devices of the call's own, as a slice that is read. -/
theorem Devs.of_own {w : World} {base : Nat} {e : TypeId} {v : Value} {l : List Dev} (h : w.ownsRow base e 10 v l.length (flat l)) :
    ∃ a cap, v = .slice a l.length cap ∧ Devs w a cap l ∧ ∀ ad, a = some ad → base ≤ ad.block := by
  obtain ⟨_, ⟨rfl, h2⟩ | ⟨g, cap, cur, rfl, hg, hb, h1, h2, h3, h4⟩⟩ := h
  · have : l = [] := List.eq_nil_of_length_eq_zero h2
    subst this
    exact ⟨none, 0, rfl, Devs.nil w, fun _ e => by cases e⟩
  · refine ⟨some ⟨g, 0, none⟩, cap, rfl, ⟨h1, h2, (fun e => by cases e), ?_⟩, fun ad e => by cases e; exact hg⟩
    intro ad e hne
    cases e
    refine ⟨rfl, lt_of_block hb, fun i d hi j hj => ?_⟩
    rw [cell_of_block hb]
    simp only [Nat.zero_add]
    have hlt : i < l.length := (List.getElem?_eq_some_iff.1 hi).1
    have e1 : (cur.toList.take (l.length * 10))[i * 10 + j]? = (flat l)[i * 10 + j]? := by rw [h4]
    rw [List.getElem?_take_of_lt (by omega), flat_at l i d hi j hj] at e1
    rw [← Array.getElem?_toList, e1]

/-- A slice of strings: its elements are 'l'. -/
structure Strs (w : World) (a : Option Addr) (cap : Nat) (l : List ByteArray) : Prop where
  len : l.length ≤ cap
  max : cap ≤ maxLen
  isNil : a = none → l = [] ∧ cap = 0
  cell : ∀ ad, a = some ad → l ≠ [] → ad.spot = none ∧ ad.block < w.heap.size ∧ ∀ i x, l[i]? = some x → w.cell? ⟨ad.block, ad.off + i, none⟩ = some (.string x)
theorem Strs.at {w : World} {a : Option Addr} {cap : Nat} {l : List ByteArray} (h : Strs w a cap l) {k : Nat} (hk : k < l.length) :
    ∃ b off x, a = some ⟨b, off, none⟩ ∧ l[k]? = some x ∧ w.cell? ⟨b, off + k, none⟩ = some (.string x) := by
  cases a with
  | none => obtain ⟨rfl, _⟩ := h.isNil rfl; simp at hk
  | some ad =>
    obtain ⟨b, off, sp⟩ := ad
    obtain ⟨h1, h2, h3⟩ := h.cell _ rfl (by intro e; subst e; simp at hk)
    simp at h1; subst h1
    exact ⟨b, off, l[k], rfl, by simp [hk], h3 k _ (by simp [hk])⟩
theorem Strs.lenmax {w : World} {a : Option Addr} {cap : Nat} {l : List ByteArray} (h : Strs w a cap l) : l.length ≤ 9223372036854775807 := by
  have h1 := h.len; have h2 := h.max; unfold maxLen at h2; omega
theorem Strs.fr {S : Nat → Prop} {w w' : World} {a : Option Addr} {cap : Nat} {l : List ByteArray} (h : Strs w a cap l) (hf : Fr S w w') (hS : ∀ ad, a = some ad → l ≠ [] → ¬ S ad.block) : Strs w' a cap l :=
  ⟨h.len, h.max, h.isNil, fun ad e hne => by
    obtain ⟨h1, h2, h3⟩ := h.cell ad e hne
    exact ⟨h1, Nat.lt_of_lt_of_le h2 hf.size, fun i x hi => hf.cell (h3 i x hi) (hS ad e hne)⟩⟩
theorem Strs.no {S : Nat → Prop} {w w' : World} {a : Option Addr} {cap : Nat} {l : List ByteArray} (h : Strs w a cap l) (hf : Fr S w w') (hS : ∀ k, ¬ S k) : Strs w' a cap l := h.fr hf (fun _ _ _ => hS _)
theorem Strs.nil (w : World) : Strs w none 0 [] := ⟨by simp, by simp, fun _ => ⟨rfl, rfl⟩, fun _ e _ => by cases e⟩
theorem Strs.of_own {w : World} {base : Nat} {e : TypeId} {v : Value} {l : List ByteArray} (h : w.ownsRow base e 1 v l.length (l.map Value.string)) :
    ∃ a cap, v = .slice a l.length cap ∧ Strs w a cap l ∧ ∀ ad, a = some ad → base ≤ ad.block := by
  obtain ⟨_, ⟨rfl, h2⟩ | ⟨g, cap, cur, rfl, hg, hb, h1, h2, h3, h4⟩⟩ := h
  · have : l = [] := List.eq_nil_of_length_eq_zero h2
    subst this
    exact ⟨none, 0, rfl, Strs.nil w, fun _ e => by cases e⟩
  · refine ⟨some ⟨g, 0, none⟩, cap, rfl, ⟨h1, h2, (fun e => by cases e), ?_⟩, fun ad e => by cases e; exact hg⟩
    intro ad e hne
    cases e
    refine ⟨rfl, lt_of_block hb, fun i x hi => ?_⟩
    rw [cell_of_block hb]
    simp only [Nat.zero_add]
    have hlt : i < l.length := (List.getElem?_eq_some_iff.1 hi).1
    have e1 : (cur.toList.take (l.length * 1))[i]? = (l.map Value.string)[i]? := by rw [h4]
    rw [List.getElem?_take_of_lt (by omega)] at e1
    rw [← Array.getElem?_toList, e1]
    simp [hi]

theorem chainK_some {ds : List Dev} {n : Int} {d : Dev} (h : look ds n = some d) (k : Nat) : chainK ds (k + 1) n = d :: chainK ds k d.parent := by
  rw [chainK, h]

theorem strs_one (l : List ByteArray) : ∀ u ∈ l.map Value.string, u.oneCell' = true := by
  intro u hu
  obtain ⟨x, _, rfl⟩ := List.mem_map.1 hu
  rfl

end Go.Proofs.YtcibciippghooaaGreatDoor
