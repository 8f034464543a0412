/- A law for a range over a function whose body never leaves early and whose iterator writes boxes of its own: frames by Fr. -/
import Derived.Test.YtpnpjaemlflplaaGreatDoorFr
import Derived.RangeFuncNested
import Derived.RangeFuncBound
import Derived.RangeFuncCalls
import Derived.RangeFuncLeaves
namespace Go.Proofs.YtpnpjaemlflplaaGreatDoor
open Go.RowKit
set_option linter.unusedVariables false

/-- The body of a round: it ends normally; it writes blocks of V alone; what it owns then is of V or new. -/
def roundOk {α : Type} (N : Nat) (I : List α → (Nat → Prop) → World → Prop) (pre : List α) (V : Nat → Prop) (W : World) : Exit → Act → World → Prop
  | .normal, _, W' => ∃ V', (∀ b, V' b → V b ∨ N ≤ b) ∧ I pre V' W' ∧ Fr V W W'
  | _, _, _ => False

theorem Fr.putObj {S : Nat → Prop} (W : World) (r : Nat) (o : Obj) (hS : S r) : Fr S W (W.putObj r o) :=
  ⟨rfl, rfl, rfl, by simp, fun k _ hk => World.putObj_heap_other (fun e => hk (e ▸ hS))⟩

/-- What an iterator owes: for any J that abides its own stores (T), and rounds that write only what J owns (V), it hands out just xs. -/
def Gives {α : Type} (F : Fence) (n : Nat) (P : Program) (gf : Nat) (lb : Array Value) (encs : α → Array Value) (T V0 : Nat → Prop) (xs : List α) (w : World) : Prop :=
  ∀ (l : Nat) (J : List α → (Nat → Prop) → World → Prop) (W : World), Fr No w W → w.heap.size ≤ l → l < W.heap.size →
    (∀ s V A, J s V A → ∀ b, V b → b < A.heap.size) →
    (∀ s V A B, J s V A → Fr T A B → (∀ b, V b → ¬ T b) → J s V B) →
    (∀ pre V x A, J pre V A → pre ++ [x] <+: xs → YieldAt F (n - 1) P l (encs x) A fun e B => e = .returned (.bool true) ∧ ∃ V', (∀ b, V' b → V b ∨ w.heap.size + 2 ≤ b) ∧ J (pre ++ [x]) V' B ∧ Fr (fun b => V b ∨ b = l) A B) →
    J [] V0 W → CallsIn F n P gf (#[.func (.yield l) #[] #[]] ++ lb) W fun e W' => (∃ v, e = .returned v) ∧ ∃ V, J xs V W'

theorem wpIn_range_fr {α : Type} {F : Fence} {n : Nat} {P : Program} {g : Operand} {ps : Array Tmp} {assign body : Code} {Q : Exit → Act → World → Prop} {a : Act} {w : World}
    (hro : F.round = none) (h1 : 1 ≤ n) {gf : Nat} {lb : Array Value} (hg : a.eval g = .func (.func gf) #[] lb) (hFg : F.fn gf) (eg : ∀ args w, (callFunc gf args).run P w = .ok (.enter gf args) w)
    {encs : α → Array Value} (hps : ∀ x, (encs x).size = ps.size) {T V0 : Nat → Prop} (hT : ∀ b, T b → b < w.heap.size) (hV0 : ∀ b, V0 b → b < w.heap.size) {xs : List α}
    (hseq : Gives F (n - 1) P gf lb encs T V0 xs w)
    (I : List α → (Nat → Prop) → World → Prop) (hIlt : ∀ s V A, I s V A → ∀ b, V b → b < A.heap.size)
    (hI : ∀ s V A B S, I s V A → Fr S A B → (∀ b, S b → ¬ V b ∧ (T b ∨ w.heap.size ≤ b)) → I s V B) (h0 : I [] V0 w)
    (Ax : α → (Nat → Prop) → Act → World → Prop) (hAx : ∀ x V a' A B, Ax x V a' A → Fr (Is (w.heap.size + 1)) A B → Ax x V a' B)
    (hassign : ∀ (l : Nat) (pre : List α) (V : Nat → Prop) (x : α) (W : World) (K : Act → World → Prop), I pre V W → w.heap.size + 2 ≤ W.heap.size → (∀ a' W', Fr No W W' → Ax x V a' W' → K a' W') →
      assign.wpIn (F.inRound l) (n - 1 - 1) P (Exit.then K (fun _ _ _ => False)) { tmps := (ps.zip (encs x)).foldl (fun t (p, v) => t.setIfInBounds p v) a.tmps, defers := [] } W)
    (hbody : ∀ (l : Nat) (pre : List α) (V : Nat → Prop) (x : α) (a' : Act) (W : World), I pre V W → Ax x V a' W → pre ++ [x] <+: xs → w.heap.size + 2 ≤ W.heap.size → body.wpIn (F.inRound l) (n - 1 - 1) P (roundOk (w.heap.size + 2) I (pre ++ [x]) V W) a' W)
    (hdone : ∀ (V : Nat → Prop) (W : World), I xs V W → W.heap[w.heap.size]? = some (.deferred (some [])) → ¬ V w.heap.size → Q .normal { a with defers := { target := .collected w.heap.size, args := #[] } :: a.defers } W) :
    (Code.rangeFunc g ps assign body).wpIn F n P Q a w := by
  refine wpIn_rangeFunc ?_
  intro fn hfn
  rw [hro]
  obtain ⟨rec, hrec⟩ : ∃ rec : LoopState → Option Code → Loop, rec = fun st pe => { state := st, pending := pe, fn, tmps := a.tmps, params := ps, assign, body, defers := w.heap.size } := ⟨_, rfl⟩
  obtain ⟨W1, hW1⟩ : ∃ W1, (w.alloc (.deferred (some []))).alloc (.loop (rec .ready none)) = W1 := ⟨_, rfl⟩
  have hsz : W1.heap.size = w.heap.size + 2 := by rw [← hW1]; simp
  have hL1 : W1.heap[w.heap.size + 1]? = some (.loop (rec .ready none)) := by
    rw [← hW1]; have := World.alloc_heap_new (w.alloc (.deferred (some []))) (.loop (rec .ready none)); rwa [World.size_alloc] at this
  have hK1 : W1.heap[w.heap.size]? = some (.deferred (some [])) := by
    rw [← hW1]; exact (Below.heap_alloc _ _ _ (by simp)).trans (World.alloc_heap_new w _)
  have hfr1 : Fr No w W1 := by rw [← hW1]; exact ((Fr.refl _ _).alloc _).alloc _
  have hI1 : I [] V0 W1 := hI _ _ _ _ _ h0 hfr1 (fun _ h => h.elim)
  refine ⟨w.heap.size + 1, [{ target := .collected w.heap.size, args := #[] }], W1, { target := .fn (.func gf) lb, args := #[.func (.yield (w.heap.size + 1)) #[] #[]] }, W1, gf,
    #[.func (.yield (w.heap.size + 1)) #[] #[]] ++ lb, W1, ?_, ?_, ?_, ?_, fun _ => h1, ?_⟩
  · rw [← hW1, hrec]; exact run_enterLoop_outer _ _ _ _ _
  · simp only [resolve, hg]
    simp [go_sem]
  · intro f' hf'; simp [Target.leads] at hf'; subst hf'; exact hFg
  · simp [invoke, go_sem, eg]
  · refine (hseq (w.heap.size + 1) (fun pre V W => I pre V W ∧ ¬ V w.heap.size ∧ ¬ V (w.heap.size + 1) ∧ W.heap[w.heap.size + 1]? = some (.loop (rec .ready none)) ∧ W.heap[w.heap.size]? = some (.deferred (some [])))
      W1 hfr1 (by omega) (by omega) (fun s V A h => hIlt s V A h.1) ?_ ?_ ⟨hI1, fun h => by have := hV0 _ h; omega, fun h => by have := hV0 _ h; omega, hL1, hK1⟩).mono ?_
    · rintro s V A B ⟨hi, hv1, hv2, hl, hk⟩ hf hVT
      refine ⟨hI _ _ _ _ _ hi hf (fun b hb => ⟨fun h => hVT b h hb, .inl hb⟩), hv1, hv2, hf.heap hl (fun h => ?_), hf.heap hk (fun h => ?_)⟩
      · have := hT _ h; omega
      · have := hT _ h; omega
    · rintro pre V x W ⟨hi, hv1, hv2, hl, hk⟩ hpre
      have hlt : w.heap.size + 1 < W.heap.size := (Array.getElem?_eq_some_iff.1 hl).1
      have hy := run_yield (P := P) (args := encs x) hl (by rw [hrec]; exact hps x)
      rw [hrec] at hy
      refine ⟨fn, _, assign, body, hy, roundIn_of_wpIn hfn (hassign _ pre V x W _ hi (by omega) ?_)⟩
      clear hy
      intro a' Wa hfa hax
      have hla := hfa.heap hl id
      have hka := hfa.heap hk id
      have hia := hI _ _ _ _ _ hi hfa (fun _ h => h.elim)
      have hlta : w.heap.size + 1 < Wa.heap.size := (Array.getElem?_eq_some_iff.1 hla).1
      have hsa := hfa.size
      refine ⟨_, run_beginRound hla (by rw [hrec]), ?_⟩
      have hl2 : (Wa.putObj (w.heap.size + 1) (.loop { rec .ready none with state := .busy })).heap[w.heap.size + 1]? = some (.loop { rec .ready none with state := .busy }) := World.putObj_heap_same hlta
      have hk2 : (Wa.putObj (w.heap.size + 1) (.loop { rec .ready none with state := .busy })).heap[w.heap.size]? = some (.deferred (some [])) := (World.putObj_heap_other (by omega)).trans hka
      have hp2 : Fr (Is (w.heap.size + 1)) Wa (Wa.putObj (w.heap.size + 1) (.loop { rec .ready none with state := .busy })) := Fr.putObj _ _ _ rfl
      have hi2 := hI _ _ _ _ _ hia hp2 (fun b hb => by unfold Is at hb; subst hb; exact ⟨hv2, .inr (by omega)⟩)
      refine wpIn_mono (hbody _ pre V x a' _ hi2 (hAx _ _ _ _ _ hax hp2) hpre (by simp; omega)) ?_
      rintro e a3 W3 hp
      cases e with
      | normal =>
        obtain ⟨V', hV', hi3, hf3⟩ := hp
        have hl3 := hf3.heap hl2 hv2
        have hk3 := hf3.heap hk2 hv1
        have hv1' : ¬ V' w.heap.size := fun h => by rcases hV' _ h with h | h; · exact hv1 h
                                                    · omega
        have hv2' : ¬ V' (w.heap.size + 1) := fun h => by rcases hV' _ h with h | h; · exact hv2 h
                                                          · omega
        have hend := run_endRound (P := P) none hl3
        rw [hrec] at hend
        refine ⟨_, _, hend, rfl, V', hV', ⟨hI _ _ _ _ _ hi3 (Fr.putObj (S := Is (w.heap.size + 1)) _ _ _ rfl) (fun b hb => by unfold Is at hb; subst hb; exact ⟨hv2', .inr (by omega)⟩), hv1', hv2', ?_, ?_⟩, ?_⟩
        · rw [hrec]; exact World.putObj_heap_same (Array.getElem?_eq_some_iff.1 hl3).1
        · exact (World.putObj_heap_other (by omega)).trans hk3
        · refine (((hfa.mono (fun _ _ h => h.elim)).step hp2 ?_).step hf3 ?_).step (Fr.putObj (S := Is (w.heap.size + 1)) _ _ _ rfl) ?_
          · rintro b _ h; exact .inr h
          · rintro b _ h; exact .inl h
          · rintro b _ h; exact .inr h
      | ret => exact hp.elim
      | exit id => exact hp.elim
      | goto t => exact hp.elim
      | panic ch => exact hp.elim
      | outgrown => exact hp.elim
    · rintro e W2 ⟨⟨v, rfl⟩, V, hi, hv1, hv2, hl, hk⟩
      refine ⟨none, _, by have := run_endLoop (P := P) hl (by rw [hrec]; simp); rw [hrec] at this; exact this, hdone V _ (hI _ _ _ _ _ hi (Fr.putObj (S := Is (w.heap.size + 1)) _ _ _ rfl) (fun b hb => by unfold Is at hb; subst hb; exact ⟨hv2, .inr (by omega)⟩)) ((World.putObj_heap_other (by omega)).trans hk) hv1⟩
end Go.Proofs.YtpnpjaemlflplaaGreatDoor
