/- A law for a range over a function whose body writes fixed blocks and whose iterator writes memory of its own. -/
import Derived.Test.YtanaompgapiikaaGreatDoorR1
namespace Go.Proofs.YtanaompgapiikaaGreatDoor
open Go.RowKit
set_option linter.unusedVariables false

/-- The body of a round: it ends normally; it writes blocks of V alone. -/
def roundFix {α : Type} (I : List α → World → Prop) (pre : List α) (V : Nat → Prop) (W : World) : Exit → Act → World → Prop
  | .normal, _, W' => I pre W' ∧ Fr V W W'
  | _, _, _ => False

/-- What an iterator owes that writes only memory that it made: rounds write only V; what they keep abides stores elsewhere. -/
def GivesF {α : Type} (F : Fence) (n : Nat) (P : Program) (gf : Nat) (lb : Array Value) (encs : α → Array Value) (V : Nat → Prop) (xs : List α) (w : World) : Prop :=
  ∀ (l : Nat) (J : List α → World → Prop) (W : World), Fr No w W → w.heap.size ≤ l → l < W.heap.size →
    (∀ s A B S, J s A → Fr S A B → (∀ b, S b → ¬ V b ∧ W.heap.size ≤ b) → J s B) →
    (∀ pre x A, J pre A → pre ++ [x] <+: xs → W.heap.size ≤ A.heap.size → YieldAt F (n - 1) P l (encs x) A fun e B => e = .returned (.bool true) ∧ J (pre ++ [x]) B ∧ Fr (fun b => V b ∨ b = l) A B) →
    J [] W → CallsIn F n P gf (#[.func (.yield l) #[] #[]] ++ lb) W fun e W' => (∃ v, e = .returned v) ∧ J xs W'

theorem wpIn_range_fix {α : Type} {F : Fence} {n : Nat} {P : Program} {g : Operand} {ps : Array Tmp} {assign body : Code} {Q : Exit → Act → World → Prop} {a : Act} {w : World}
    (hro : F.round = none) (h1 : 1 ≤ n) {gf : Nat} {lb : Array Value} (hg : a.eval g = .func (.func gf) #[] lb) (hFg : F.fn gf) (eg : ∀ args w, (callFunc gf args).run P w = .ok (.enter gf args) w)
    {encs : α → Array Value} (hps : ∀ x, (encs x).size = ps.size) {V : Nat → Prop} (hV : ∀ b, V b → b < w.heap.size) {xs : List α}
    (hseq : GivesF F (n - 1) P gf lb encs V xs w)
    (I : List α → World → Prop) (hI : ∀ s A B S, I s A → Fr S A B → (∀ b, S b → ¬ V b ∧ w.heap.size ≤ b) → I s B) (h0 : I [] w)
    (Ax : α → Act → World → Prop) (hAx : ∀ x a' A B, Ax x a' A → Fr (Is (w.heap.size + 1)) A B → Ax x a' B)
    (hassign : ∀ (l : Nat) (pre : List α) (x : α) (W : World) (K : Act → World → Prop), I pre W → w.heap.size + 2 ≤ W.heap.size → (∀ a' W', Fr No W W' → Ax x a' W' → K a' W') →
      assign.wpIn (F.inRound l) (n - 1 - 1) P (Exit.then K (fun _ _ _ => False)) { tmps := (ps.zip (encs x)).foldl (fun t (p, v) => t.setIfInBounds p v) a.tmps, defers := [] } W)
    (hbody : ∀ (l : Nat) (pre : List α) (x : α) (a' : Act) (W : World), I pre W → Ax x a' W → pre ++ [x] <+: xs → w.heap.size + 2 ≤ W.heap.size → body.wpIn (F.inRound l) (n - 1 - 1) P (roundFix I (pre ++ [x]) V W) a' W)
    (hdone : ∀ (W : World), I xs W → W.heap[w.heap.size]? = some (.deferred (some [])) → Q .normal { a with defers := { target := .collected w.heap.size, args := #[] } :: a.defers } W) :
    (Code.rangeFunc g ps assign body).wpIn F n P Q a w := by
  refine wpIn_rangeFunc ?_
  intro fn hfn
  rw [hro]
  obtain ⟨rec, hrec⟩ : ∃ rec : LoopState → Option Code → Loop, rec = fun st pe => { state := st, pending := pe, fn, tmps := a.tmps, params := ps, assign, body, defers := w.heap.size } := ⟨_, rfl⟩
  obtain ⟨W1, hW1⟩ : ∃ W1, (w.alloc (.deferred (some []))).alloc (.loop (rec .ready none)) = W1 := ⟨_, rfl⟩
  have hsz : W1.heap.size = w.heap.size + 2 := by rw [← hW1]; simp
  have hL1 : W1.heap[w.heap.size + 1]? = some (.loop (rec .ready none)) := by
    rw [← hW1]; have := World.alloc_heap_new (w.alloc (.deferred (some []))) (.loop (rec .ready none)); rwa [World.size_alloc] at this
  have hK1 : W1.heap[w.heap.size]? = some (.deferred (some [])) := by
    rw [← hW1]; exact (Below.heap_alloc _ _ _ (by simp)).trans (World.alloc_heap_new w _)
  have hfr1 : Fr No w W1 := by rw [← hW1]; exact ((Fr.refl _ _).alloc _).alloc _
  have hI1 : I [] W1 := hI _ _ _ _ h0 hfr1 (fun _ h => h.elim)
  have hv1 : ¬ V w.heap.size := fun h => by have := hV _ h; omega
  have hv2 : ¬ V (w.heap.size + 1) := fun h => by have := hV _ h; omega
  refine ⟨w.heap.size + 1, [{ target := .collected w.heap.size, args := #[] }], W1, { target := .fn (.func gf) lb, args := #[.func (.yield (w.heap.size + 1)) #[] #[]] }, W1, gf,
    #[.func (.yield (w.heap.size + 1)) #[] #[]] ++ lb, W1, ?_, ?_, ?_, ?_, fun _ => h1, ?_⟩
  · rw [← hW1, hrec]; exact run_enterLoop_outer _ _ _ _ _
  · simp only [resolve, hg]
    simp [go_sem]
  · intro f' hf'; simp [Target.leads] at hf'; subst hf'; exact hFg
  · simp [invoke, go_sem, eg]
  · refine (hseq (w.heap.size + 1) (fun pre W => I pre W ∧ W.heap[w.heap.size + 1]? = some (.loop (rec .ready none)) ∧ W.heap[w.heap.size]? = some (.deferred (some [])))
      W1 hfr1 (by omega) (by omega) ?_ ?_ ⟨hI1, hL1, hK1⟩).mono ?_
    · rintro s A B S ⟨hi, hl, hk⟩ hf hS
      refine ⟨hI _ _ _ _ hi hf (fun b hb => ⟨(hS b hb).1, by have := (hS b hb).2; omega⟩), hf.heap hl (fun h => ?_), hf.heap hk (fun h => ?_)⟩
      · have := (hS _ h).2; omega
      · have := (hS _ h).2; omega
    · rintro pre x W ⟨hi, hl, hk⟩ hpre hWs
      have hlt : w.heap.size + 1 < W.heap.size := (Array.getElem?_eq_some_iff.1 hl).1
      have hy := run_yield (P := P) (args := encs x) hl (by rw [hrec]; exact hps x)
      rw [hrec] at hy
      refine ⟨fn, _, assign, body, hy, roundIn_of_wpIn hfn (hassign _ pre x W _ hi (by omega) ?_)⟩
      clear hy
      intro a' Wa hfa hax
      have hla := hfa.heap hl id
      have hka := hfa.heap hk id
      have hia := hI _ _ _ _ hi hfa (fun _ h => h.elim)
      have hlta : w.heap.size + 1 < Wa.heap.size := (Array.getElem?_eq_some_iff.1 hla).1
      have hsa := hfa.size
      refine ⟨_, run_beginRound hla (by rw [hrec]), ?_⟩
      have hl2 : (Wa.putObj (w.heap.size + 1) (.loop { rec .ready none with state := .busy })).heap[w.heap.size + 1]? = some (.loop { rec .ready none with state := .busy }) := World.putObj_heap_same hlta
      have hk2 : (Wa.putObj (w.heap.size + 1) (.loop { rec .ready none with state := .busy })).heap[w.heap.size]? = some (.deferred (some [])) := (World.putObj_heap_other (by omega)).trans hka
      have hp2 : Fr (Is (w.heap.size + 1)) Wa (Wa.putObj (w.heap.size + 1) (.loop { rec .ready none with state := .busy })) := Fr.putObj _ _ _ rfl
      have hi2 := hI _ _ _ _ hia hp2 (fun b hb => by unfold Is at hb; subst hb; exact ⟨hv2, by omega⟩)
      refine wpIn_mono (hbody _ pre x a' _ hi2 (hAx _ _ _ _ hax hp2) hpre (by simp; omega)) ?_
      rintro e a3 W3 hp
      cases e with
      | normal =>
        obtain ⟨hi3, hf3⟩ := hp
        have hl3 := hf3.heap hl2 hv2
        have hk3 := hf3.heap hk2 hv1
        have hend := run_endRound (P := P) none hl3
        rw [hrec] at hend
        refine ⟨_, _, hend, rfl, ⟨hI _ _ _ _ hi3 (Fr.putObj (S := Is (w.heap.size + 1)) _ _ _ rfl) (fun b hb => by unfold Is at hb; subst hb; exact ⟨hv2, by omega⟩), ?_, ?_⟩, ?_⟩
        · rw [hrec]; exact World.putObj_heap_same (Array.getElem?_eq_some_iff.1 hl3).1
        · exact (World.putObj_heap_other (by omega)).trans hk3
        · refine (((hfa.mono (fun _ _ h => h.elim)).step hp2 ?_).step hf3 ?_).step (Fr.putObj (S := Is (w.heap.size + 1)) _ _ _ rfl) ?_
          · rintro b _ h; exact .inr h
          · rintro b _ h; exact .inl h
          · rintro b _ h; exact .inr h
      | ret => exact hp.elim
      | exit id => exact hp.elim
      | goto t => exact hp.elim
      | panic ch => exact hp.elim
      | outgrown => exact hp.elim
    · rintro e W2 ⟨⟨v, rfl⟩, hi, hl, hk⟩
      refine ⟨none, _, by have := run_endLoop (P := P) hl (by rw [hrec]; simp); rw [hrec] at this; exact this, hdone _ (hI _ _ _ _ hi (Fr.putObj (S := Is (w.heap.size + 1)) _ _ _ rfl) (fun b hb => by unfold Is at hb; subst hb; exact ⟨hv2, by omega⟩)) ((World.putObj_heap_other (by omega)).trans hk)⟩
end Go.Proofs.YtanaompgapiikaaGreatDoor
