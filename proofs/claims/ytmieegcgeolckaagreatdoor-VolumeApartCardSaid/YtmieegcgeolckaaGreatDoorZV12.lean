/- The example of the chapter of layers. Plain. A law for a range over a function whose body never leaves early and whose iterator writes boxes of its own: frames by Fr. volume.empty: which slots of an array are free; Lacks. tree.Find. One, Contents. Tree: makes a tree of any numbers. tree.first, tree.Find; the closure of Gone. -/
import Derived.Test.YtmieegcgeolckaaGreatDoorZV11
import Derived.Test.YtmieegcgeolckaaGreatDoorZV1
import Derived.RangeFuncNested
import Derived.RangeFuncBound
import Derived.RangeFuncCalls
import Derived.RangeFuncLeaves
import Derived.Shelf.Abstract
import Derived.Shelf.RegionOpen
import Derived.OwnWalkIn
import Derived.TacticsInMore
import Derived.LoopNIn
import Derived.LoopIn
import Derived.Test.YtmieegcgeolckaaGreatDoorZV7
import Derived.Test.YtmieegcgeolckaaGreatDoorZV3
import Derived.Test.YtmieegcgeolckaaGreatDoorZV5
import Derived.Deep.DeepCutAuto
import Derived.Lib.SliceRun
import Derived.Test.YtmieegcgeolckaaGreatDoorZV2
namespace Go.Proofs.YtmieegcgeolckaaGreatDoor
open Go.RowKit
set_option linter.unusedVariables false

def kT1 : ByteArray := ⟨#[99, 114, 121, 112, 116, 58, 99, 40, 102, 115, 58, 120, 58, 41]⟩
def kT2 : ByteArray := ⟨#[99, 114, 121, 112, 116, 58, 99, 40, 102, 115, 58, 121, 58, 41]⟩
def kT3 : ByteArray := ⟨#[99, 114, 121, 112, 116, 58, 101, 40, 41]⟩
def kPa : ByteArray := ⟨#[47, 98]⟩
def kPb : ByteArray := ⟨#[47, 97]⟩
def kPd : ByteArray := ⟨#[47, 100]⟩
def kIc : ByteArray := ⟨#[99]⟩
def kIe : ByteArray := ⟨#[101]⟩
def kIx : ByteArray := ⟨#[120]⟩
def kFx : ByteArray := ⟨#[102, 115, 58, 120, 58]⟩
def kFy : ByteArray := ⟨#[102, 115, 58, 121, 58]⟩
def kOc : ByteArray := ⟨#[111, 112, 101, 110, 45, 99]⟩
def kC1 : Ct := .mk 3 kIc ⟨#[]⟩ 0 0 0 [.mk 1 kIx ⟨#[]⟩ 0 0 0 []]
def kC2 : Ct := .mk 3 kIc ⟨#[]⟩ 0 0 0 [.mk 1 ⟨#[121]⟩ ⟨#[]⟩ 0 0 0 []]
def kC3 : Ct := .mk 3 kIe ⟨#[]⟩ 0 0 0 [.mk 0 ⟨#[]⟩ ⟨#[]⟩ 0 0 0 []]
theorem kP1 : parseC kT1 = some kC1 := (parse_iff _ _).2 ⟨by decide, by decide, by rw [kC1, text3]; simp [text1, commas, kT1, kIc, kIx]; rfl⟩
theorem kP2 : parseC kT2 = some kC2 := (parse_iff _ _).2 ⟨by decide, by decide, by rw [kC2, text3]; simp [text1, commas, kT2, kIc]; rfl⟩
theorem kP3 : parseC kT3 = some kC3 := (parse_iff _ _).2 ⟨by decide, by decide, by rw [kC3, text3]; simp [text0, commas, kT3, kIe]; rfl⟩
theorem kX1 : kC1.inner.map Ct.txt = [kFx] := by simp [kC1, Ct.inner, txt1, kIx, kFx]; rfl
theorem kX2 : kC2.inner.map Ct.txt = [kFy] := by simp [kC2, Ct.inner, txt1, kFy]; rfl
theorem kX3 : kC3.inner.map Ct.txt = [⟨#[]⟩] := by simp [kC3, Ct.inner]; rfl

/-- The three layers of the example. -/
def kL (a1 a2 a3 : Option Addr) (c1 c2 c3 : Nat) : List Mem := [⟨kPa, kIc, 0, 0, 0, 0, a1, [kFx], c1⟩, ⟨kPb, kIc, 1, 0, 0, 0, a2, [kFy], c2⟩, ⟨kPd, kIe, 0, 0, 0, 0, a3, [⟨#[]⟩], c3⟩]
section
variable (a1 a2 a3 : Option Addr) (c1 c2 c3 : Nat)
theorem k_best_c : best (kL a1 a2 a3 c1 c2 c3) (kb kIc) = some ⟨kPa, kIc, 0, 0, 0, 0, a1, [kFx], c1⟩ := by
  have h2 : ahead ⟨kPb, kIc, 1, 0, 0, 0, a2, [kFy], c2⟩ ⟨kPa, kIc, 0, 0, 0, 0, a1, [kFx], c1⟩ = false := by
    unfold ahead aheadB orI cmpI
    simp
  have e : (kb kIc == kb kIe) = false := by decide
  unfold best kL
  simp only [List.foldl_cons, List.foldl_nil]
  simp [bestS, h2, e]
theorem k_best_e : best (kL a1 a2 a3 c1 c2 c3) (kb kIe) = some ⟨kPd, kIe, 0, 0, 0, 0, a3, [⟨#[]⟩], c3⟩ := by
  have e : (kb kIe == kb kIc) = false := by decide
  unfold best kL
  simp only [List.foldl_cons, List.foldl_nil]
  simp [bestS, e]
theorem k_ids : IsIds (kL a1 a2 a3 c1 c2 c3) [kIc, kIe] := by
  refine ⟨by unfold AscS; decide, fun x => ?_⟩
  rw [best_some_iff]
  constructor
  · intro h
    simp only [List.mem_cons, List.not_mem_nil, or_false] at h
    rcases h with rfl | rfl
    · exact ⟨⟨kPa, kIc, 0, 0, 0, 0, a1, [kFx], c1⟩, by simp [kL], rfl, rfl⟩
    · exact ⟨⟨kPd, kIe, 0, 0, 0, 0, a3, [⟨#[]⟩], c3⟩, by simp [kL], rfl, rfl⟩
  · rintro ⟨m, hm, _, h⟩
    rw [← kb_inj h]
    simp only [kL, List.mem_cons, List.not_mem_nil, or_false] at hm
    rcases hm with rfl | rfl | rfl <;> simp
theorem k_ids_is {ids : List ByteArray} (h : IsIds (kL a1 a2 a3 c1 c2 c3) ids) : ids = [kIc, kIe] := h.unique (k_ids a1 a2 a3 c1 c2 c3) (fun _ => rfl)
theorem k_opened : (opened [kIc, kIe] [kIc, kIx]).map (virOf (kL a1 a2 a3 c1 c2 c3) 2) = [⟨⟨#[]⟩, kOc, kFx, 2⟩] := by
  have h1 : opened [kIc, kIe] [kIc, kIx] = [kIc] := by simp [opened, hasS, ByteArray.toList_eq, kIc, kIe, kIx]
  rw [h1]
  simp only [List.map_cons, List.map_nil, virOf, inner0, k_best_c]
  rfl
theorem k_asked : asked [kIc, kIe] [kIc, kIx] = [kIe] := by simp [asked, hasS, ByteArray.toList_eq, kIc, kIe, kIx]
end
end Go.Proofs.YtmieegcgeolckaaGreatDoor
namespace Go.Proofs.YtmieegcgeolckaaGreatDoor
open Go.RowKit
set_option linter.unusedVariables false

/-- The body of a round: it ends normally; it writes blocks of V alone; what it owns then is of V or new. -/
def roundOk {α : Type} (N : Nat) (I : List α → (Nat → Prop) → World → Prop) (pre : List α) (V : Nat → Prop) (W : World) : Exit → Act → World → Prop
  | .normal, _, W' => ∃ V', (∀ b, V' b → V b ∨ N ≤ b) ∧ I pre V' W' ∧ Fr V W W'
  | _, _, _ => False

theorem Fr.putObj {S : Nat → Prop} (W : World) (r : Nat) (o : Obj) (hS : S r) : Fr S W (W.putObj r o) :=
  ⟨rfl, rfl, rfl, by simp, fun k _ hk => World.putObj_heap_other (fun e => hk (e ▸ hS))⟩

/-- What an iterator owes: for any J that abides its own stores (T), and rounds that write only what J owns (V), it hands out just xs. -/
def Gives {α : Type} (F : Fence) (n : Nat) (P : Program) (gf : Nat) (lb : Array Value) (encs : α → Array Value) (T V0 : Nat → Prop) (xs : List α) (w : World) : Prop :=
  ∀ (l : Nat) (J : List α → (Nat → Prop) → World → Prop) (W : World), Fr No w W → w.heap.size ≤ l → l < W.heap.size →
    (∀ s V A, J s V A → ∀ b, V b → b < A.heap.size) →
    (∀ s V A B, J s V A → Fr T A B → (∀ b, V b → ¬ T b) → J s V B) →
    (∀ pre V x A, J pre V A → pre ++ [x] <+: xs → YieldAt F (n - 1) P l (encs x) A fun e B => e = .returned (.bool true) ∧ ∃ V', (∀ b, V' b → V b ∨ w.heap.size + 2 ≤ b) ∧ J (pre ++ [x]) V' B ∧ Fr (fun b => V b ∨ b = l) A B) →
    J [] V0 W → CallsIn F n P gf (#[.func (.yield l) #[] #[]] ++ lb) W fun e W' => (∃ v, e = .returned v) ∧ ∃ V, J xs V W'

theorem wpIn_range_fr {α : Type} {F : Fence} {n : Nat} {P : Program} {g : Operand} {ps : Array Tmp} {assign body : Code} {Q : Exit → Act → World → Prop} {a : Act} {w : World}
    (hro : F.round = none) (h1 : 1 ≤ n) {gf : Nat} {lb : Array Value} (hg : a.eval g = .func (.func gf) #[] lb) (hFg : F.fn gf) (eg : ∀ args w, (callFunc gf args).run P w = .ok (.enter gf args) w)
    {encs : α → Array Value} (hps : ∀ x, (encs x).size = ps.size) {T V0 : Nat → Prop} (hT : ∀ b, T b → b < w.heap.size) (hV0 : ∀ b, V0 b → b < w.heap.size) {xs : List α}
    (hseq : Gives F (n - 1) P gf lb encs T V0 xs w)
    (I : List α → (Nat → Prop) → World → Prop) (hIlt : ∀ s V A, I s V A → ∀ b, V b → b < A.heap.size)
    (hI : ∀ s V A B S, I s V A → Fr S A B → (∀ b, S b → ¬ V b ∧ (T b ∨ w.heap.size ≤ b)) → I s V B) (h0 : I [] V0 w)
    (Ax : α → (Nat → Prop) → Act → World → Prop) (hAx : ∀ x V a' A B, Ax x V a' A → Fr (Is (w.heap.size + 1)) A B → Ax x V a' B)
    (hassign : ∀ (l : Nat) (pre : List α) (V : Nat → Prop) (x : α) (W : World) (K : Act → World → Prop), I pre V W → w.heap.size + 2 ≤ W.heap.size → (∀ a' W', Fr No W W' → Ax x V a' W' → K a' W') →
      assign.wpIn (F.inRound l) (n - 1 - 1) P (Exit.then K (fun _ _ _ => False)) { tmps := (ps.zip (encs x)).foldl (fun t (p, v) => t.setIfInBounds p v) a.tmps, defers := [] } W)
    (hbody : ∀ (l : Nat) (pre : List α) (V : Nat → Prop) (x : α) (a' : Act) (W : World), I pre V W → Ax x V a' W → pre ++ [x] <+: xs → w.heap.size + 2 ≤ W.heap.size → body.wpIn (F.inRound l) (n - 1 - 1) P (roundOk (w.heap.size + 2) I (pre ++ [x]) V W) a' W)
    (hdone : ∀ (V : Nat → Prop) (W : World), I xs V W → W.heap[w.heap.size]? = some (.deferred (some [])) → ¬ V w.heap.size → Q .normal { a with defers := { target := .collected w.heap.size, args := #[] } :: a.defers } W) :
    (Code.rangeFunc g ps assign body).wpIn F n P Q a w := by
  refine wpIn_rangeFunc ?_
  intro fn hfn
  rw [hro]
  obtain ⟨rec, hrec⟩ : ∃ rec : LoopState → Option Code → Loop, rec = fun st pe => { state := st, pending := pe, fn, tmps := a.tmps, params := ps, assign, body, defers := w.heap.size } := ⟨_, rfl⟩
  obtain ⟨W1, hW1⟩ : ∃ W1, (w.alloc (.deferred (some []))).alloc (.loop (rec .ready none)) = W1 := ⟨_, rfl⟩
  have hsz : W1.heap.size = w.heap.size + 2 := by rw [← hW1]; simp
  have hL1 : W1.heap[w.heap.size + 1]? = some (.loop (rec .ready none)) := by
    rw [← hW1]; have := World.alloc_heap_new (w.alloc (.deferred (some []))) (.loop (rec .ready none)); rwa [World.size_alloc] at this
  have hK1 : W1.heap[w.heap.size]? = some (.deferred (some [])) := by
    rw [← hW1]; exact (Below.heap_alloc _ _ _ (by simp)).trans (World.alloc_heap_new w _)
  have hfr1 : Fr No w W1 := by rw [← hW1]; exact ((Fr.refl _ _).alloc _).alloc _
  have hI1 : I [] V0 W1 := hI _ _ _ _ _ h0 hfr1 (fun _ h => h.elim)
  refine ⟨w.heap.size + 1, [{ target := .collected w.heap.size, args := #[] }], W1, { target := .fn (.func gf) lb, args := #[.func (.yield (w.heap.size + 1)) #[] #[]] }, W1, gf,
    #[.func (.yield (w.heap.size + 1)) #[] #[]] ++ lb, W1, ?_, ?_, ?_, ?_, fun _ => h1, ?_⟩
  · rw [← hW1, hrec]; exact run_enterLoop_outer _ _ _ _ _
  · simp only [resolve, hg]
    simp [go_sem]
  · intro f' hf'; simp [Target.leads] at hf'; subst hf'; exact hFg
  · simp [invoke, go_sem, eg]
  · refine (hseq (w.heap.size + 1) (fun pre V W => I pre V W ∧ ¬ V w.heap.size ∧ ¬ V (w.heap.size + 1) ∧ W.heap[w.heap.size + 1]? = some (.loop (rec .ready none)) ∧ W.heap[w.heap.size]? = some (.deferred (some [])))
      W1 hfr1 (by omega) (by omega) (fun s V A h => hIlt s V A h.1) ?_ ?_ ⟨hI1, fun h => by have := hV0 _ h; omega, fun h => by have := hV0 _ h; omega, hL1, hK1⟩).mono ?_
    · rintro s V A B ⟨hi, hv1, hv2, hl, hk⟩ hf hVT
      refine ⟨hI _ _ _ _ _ hi hf (fun b hb => ⟨fun h => hVT b h hb, .inl hb⟩), hv1, hv2, hf.heap hl (fun h => ?_), hf.heap hk (fun h => ?_)⟩
      · have := hT _ h; omega
      · have := hT _ h; omega
    · rintro pre V x W ⟨hi, hv1, hv2, hl, hk⟩ hpre
      have hlt : w.heap.size + 1 < W.heap.size := (Array.getElem?_eq_some_iff.1 hl).1
      have hy := run_yield (P := P) (args := encs x) hl (by rw [hrec]; exact hps x)
      rw [hrec] at hy
      refine ⟨fn, _, assign, body, hy, roundIn_of_wpIn hfn (hassign _ pre V x W _ hi (by omega) ?_)⟩
      clear hy
      intro a' Wa hfa hax
      have hla := hfa.heap hl id
      have hka := hfa.heap hk id
      have hia := hI _ _ _ _ _ hi hfa (fun _ h => h.elim)
      have hlta : w.heap.size + 1 < Wa.heap.size := (Array.getElem?_eq_some_iff.1 hla).1
      have hsa := hfa.size
      refine ⟨_, run_beginRound hla (by rw [hrec]), ?_⟩
      have hl2 : (Wa.putObj (w.heap.size + 1) (.loop { rec .ready none with state := .busy })).heap[w.heap.size + 1]? = some (.loop { rec .ready none with state := .busy }) := World.putObj_heap_same hlta
      have hk2 : (Wa.putObj (w.heap.size + 1) (.loop { rec .ready none with state := .busy })).heap[w.heap.size]? = some (.deferred (some [])) := (World.putObj_heap_other (by omega)).trans hka
      have hp2 : Fr (Is (w.heap.size + 1)) Wa (Wa.putObj (w.heap.size + 1) (.loop { rec .ready none with state := .busy })) := Fr.putObj _ _ _ rfl
      have hi2 := hI _ _ _ _ _ hia hp2 (fun b hb => by unfold Is at hb; subst hb; exact ⟨hv2, .inr (by omega)⟩)
      refine wpIn_mono (hbody _ pre V x a' _ hi2 (hAx _ _ _ _ _ hax hp2) hpre (by simp; omega)) ?_
      rintro e a3 W3 hp
      cases e with
      | normal =>
        obtain ⟨V', hV', hi3, hf3⟩ := hp
        have hl3 := hf3.heap hl2 hv2
        have hk3 := hf3.heap hk2 hv1
        have hv1' : ¬ V' w.heap.size := fun h => by rcases hV' _ h with h | h; · exact hv1 h
                                                    · omega
        have hv2' : ¬ V' (w.heap.size + 1) := fun h => by rcases hV' _ h with h | h; · exact hv2 h
                                                          · omega
        have hend := run_endRound (P := P) none hl3
        rw [hrec] at hend
        refine ⟨_, _, hend, rfl, V', hV', ⟨hI _ _ _ _ _ hi3 (Fr.putObj (S := Is (w.heap.size + 1)) _ _ _ rfl) (fun b hb => by unfold Is at hb; subst hb; exact ⟨hv2', .inr (by omega)⟩), hv1', hv2', ?_, ?_⟩, ?_⟩
        · rw [hrec]; exact World.putObj_heap_same (Array.getElem?_eq_some_iff.1 hl3).1
        · exact (World.putObj_heap_other (by omega)).trans hk3
        · refine (((hfa.mono (fun _ _ h => h.elim)).step hp2 ?_).step hf3 ?_).step (Fr.putObj (S := Is (w.heap.size + 1)) _ _ _ rfl) ?_
          · rintro b _ h; exact .inr h
          · rintro b _ h; exact .inl h
          · rintro b _ h; exact .inr h
      | ret => exact hp.elim
      | exit id => exact hp.elim
      | goto t => exact hp.elim
      | panic ch => exact hp.elim
      | outgrown => exact hp.elim
    · rintro e W2 ⟨⟨v, rfl⟩, V, hi, hv1, hv2, hl, hk⟩
      refine ⟨none, _, by have := run_endLoop (P := P) hl (by rw [hrec]; simp); rw [hrec] at this; exact this, hdone V _ (hI _ _ _ _ _ hi (Fr.putObj (S := Is (w.heap.size + 1)) _ _ _ rfl) (fun b hb => by unfold Is at hb; subst hb; exact ⟨hv2, .inr (by omega)⟩)) ((World.putObj_heap_other (by omega)).trans hk) hv1⟩
end Go.Proofs.YtmieegcgeolckaaGreatDoor
namespace Go.Proofs.YtmieegcgeolckaaGreatDoor
open Go.RowKit Go.Maps
set_option linter.unusedVariables false

def lackAt (ps : List ByteArray) (i : Nat) : Bool := match ps[i]? with | some x => x.toList.isEmpty | none => false
/-- The free ones among the first k slots. -/
def lacksF (ps : List ByteArray) (k : Nat) : List Int := ((List.range k).filter (lackAt ps)).map fun i : Nat => ((i : Nat) : Int) + 1
theorem lacksF_succ (ps : List ByteArray) (k : Nat) : lacksF ps (k + 1) = lacksF ps k ++ (if lackAt ps k = true then [(k : Int) + 1] else []) := by
  unfold lacksF
  rw [List.range_succ, List.filter_append, List.map_append]
  cases h : lackAt ps k <;> simp [h]
theorem lacksF_prefix (ps : List ByteArray) {k n : Nat} (h : k ≤ n) : lacksF ps k <+: lacksF ps n := by
  induction n with
  | zero => obtain rfl : k = 0 := by omega
            exact List.prefix_refl _
  | succ n ih =>
    by_cases e : k = n + 1
    · subst e; exact List.prefix_refl _
    · rw [lacksF_succ]
      exact (ih (by omega)).trans (List.prefix_append _ _)
theorem lacksF_len (ps : List ByteArray) (k : Nat) : (lacksF ps k).length ≤ k := by
  unfold lacksF
  rw [List.length_map]
  exact Nat.le_trans (List.length_filter_le _ _) (by simp)

set_option maxHeartbeats 1000000 in
theorem v_empty (a : Option Addr) (n c : Nat) (w : World) : Calls Tryz.prog 68 #[.slice a n c] w fun e w' => e = .returned (.func (.func 96) #[] #[.pointer (some ⟨w.heap.size, 0, none⟩)]) ∧ w' = w.alloc (.cells #[.slice a n c] 27) := by
  go_enter Tryz.func68, Tryz.ntmps68
  go_wp2_with fail
  go_ret
  exact ⟨rfl, rfl⟩

set_option maxRecDepth 100000 in
set_option maxHeartbeats 2000000 in
theorem empty_gives (n : Nat) (hn : 3 ≤ n) (Bx : Nat) (a : Option Addr) (cap : Nat) (ps : List ByteArray) (w : World) (V0 : Nat → Prop) (hbx : w.heap[Bx]? = some (.cells #[.slice a ps.length cap] 27)) (hS : Strs w a cap ps) (hps : ps.length ≤ 1000000)
    (hV : ∀ ad, a = some ad → ps ≠ [] → ¬ V0 ad.block) :
    Gives Fence.wide n Tryz.prog 96 #[.pointer (some ⟨Bx, 0, none⟩)] (fun i : Int => #[.int .i64 i]) (fun _ => False) V0 (lacksF ps ps.length) w := by
  intro l J W hfr hl1 hl2 hJlt hJ hY h0
  have hbW := hfr.heap hbx id
  have hSW := hS.no hfr (fun _ => id)
  have hsz := hfr.size
  have h1n : 1 ≤ n := by omega
  have hm := hS.lenmax
  have hbd : ∀ ad, a = some ad → ps ≠ [] → ad.block < w.heap.size := fun ad e hne => (hS.cell ad e hne).2.1
  show CallsIn Fence.wide n Tryz.prog 96 #[.func (.yield l) #[] #[], .pointer (some ⟨Bx, 0, none⟩)] W _
  have cv : W.cell? ⟨Bx, 0, none⟩ = some (.slice a ps.length cap) := cell_of_block hbW 0
  refine callsIn_of_wp Tryz.func96 rfl trivial ?_ rfl
  simp only [Tryz.ntmps96, List.size_toArray, List.length_cons, List.length_nil, Nat.reduceAdd, Nat.reduceSub, Array.replicate_succ, Array.replicate_zero, List.push_toArray, List.append_toArray, List.nil_append, List.cons_append]
  gi_wp2
  clear cv
  gi_loopw [7] (fun i wr => ∃ (k : Nat) (V : Nat → Prop), k ≤ ps.length ∧ i = .int .i64 (k : Int) ∧ Strs wr a cap ps ∧ J (lacksF ps k) V wr ∧ (∀ b, V b → V0 b ∨ w.heap.size ≤ b) ∧ W.heap.size ≤ wr.heap.size) (fun i _ => ps.length - (intOf i).toNat)
  case atStart => exact ⟨0, V0, by omega, rfl, hSW, h0, fun b hb => .inl hb, Nat.le_refl _⟩
  case round =>
    obtain ⟨k, V, hk, rfl, hSr, hJr, hVr, hsr⟩ := hrel
    by_cases hlt : k < ps.length
    · have hlt' : (k : Int) < ps.length := by omega
      obtain ⟨b, off, x, rfl, hx, hc⟩ := hSr.at hlt
      have hla : lackAt ps k = x.toList.isEmpty := by unfold lackAt; rw [hx]
      have Hx := Lib.hid hx
      clear hx
      rcases he : x.toList.isEmpty with _ | _
      · have hL : lacksF ps (k + 1) = lacksF ps k := by rw [lacksF_succ, hla, he]; simp
        have HL := Lib.hid hL
        clear hL hla
        gi_wp2
        refine ⟨fun _ h => (by cases h), ?_⟩
        gi_wp2
        go_roundw
        case rel => exact ⟨k + 1, V, by omega, by go_num, hSr, by rw [HL.out]; exact hJr, hVr, hsr⟩
        case measure => simp [intOf]; omega
      · have hL : lacksF ps (k + 1) = lacksF ps k ++ [(k : Int) + 1] := by rw [lacksF_succ, hla, he]; simp
        have HL := Lib.hid hL
        clear hL hla
        obtain ⟨fn, tmps, assign, body, hy, hR⟩ := hY (lacksF ps k) V ((k : Int) + 1) wr hJr (by rw [← HL.out]; exact lacksF_prefix ps (by omega))
        gi_wp2
        refine hR.mono ?_
        rintro e W3 ⟨rfl, V', hV', hJ3, hf3⟩
        have hVlt := hJlt _ _ _ hJr
        have hS3 := hSr.fr hf3 (fun ad e hne h => by
          have h1 := hbd ad e hne
          rcases h with h | h
          · rcases hVr _ h with h' | h'
            · exact hV ad e hne h'
            · omega
          · omega)
        have hs3 := hf3.size
        have HF := Lib.hid (And.intro hS3 hJ3)
        have HV : Hid (∀ b, V' b → V0 b ∨ w.heap.size ≤ b) := fun b h => (hV' b h).elim (hVr b) (fun h => .inr (by omega))
        clear hS3 hJ3 hV' hSr hJr hVr hc hR hy hf3
        gi_wp2
        go_roundw
        case rel => exact ⟨k + 1, V', by omega, by go_num, HF.out.1, by rw [HL.out]; exact HF.out.2, HV.out, by omega⟩
        case measure => simp [intOf]; omega
    · obtain rfl : k = ps.length := by omega
      gi_wp2
      go_end0
      exact ⟨⟨_, rfl⟩, V, hJr⟩
end Go.Proofs.YtmieegcgeolckaaGreatDoor
namespace Go.Proofs.YtmieegcgeolckaaGreatDoor
open Go.RowKit Go.Maps
set_option linter.unusedVariables false

def aflat (l : List (ByteArray × ByteArray)) : List Value := l.flatMap (fun x => [.string x.1, .string x.2])
theorem aflat_len (l : List (ByteArray × ByteArray)) : (aflat l).length = l.length * 2 := by
  induction l with
  | nil => rfl
  | cons d t ih =>
    have : aflat (d :: t) = [.string d.1, .string d.2] ++ aflat t := by simp [aflat]
    rw [this, List.length_append, ih]
    simp; omega
theorem aflat_at : ∀ (l : List (ByteArray × ByteArray)) (i : Nat) (x : ByteArray × ByteArray), l[i]? = some x → (aflat l)[i * 2]? = some (.string x.1) ∧ (aflat l)[i * 2 + 1]? = some (.string x.2)
  | [], i, d, h => by simp at h
  | y :: t, 0, x, h => by
    simp at h; subst h
    exact ⟨rfl, rfl⟩
  | y :: t, i + 1, x, h => by
    have e : aflat (y :: t) = .string y.1 :: .string y.2 :: aflat t := by simp [aflat]
    have h1 := aflat_at t i x (by simpa using h)
    rw [e, show (i + 1) * 2 = i * 2 + 1 + 1 from by omega]
    exact h1
theorem aflat_inv (l : List (ByteArray × ByteArray)) (j : Nat) (u : Value) (h : (aflat l)[j]? = some u) : ∃ i x, l[i]? = some x ∧ ((j = i * 2 ∧ u = .string x.1) ∨ (j = i * 2 + 1 ∧ u = .string x.2)) := by
  have hlt : j < (aflat l).length := (List.getElem?_eq_some_iff.1 h).1
  rw [aflat_len] at hlt
  have hi : j / 2 < l.length := by omega
  have h1 := aflat_at l (j / 2) l[j / 2] (List.getElem?_eq_getElem hi)
  refine ⟨j / 2, l[j / 2], List.getElem?_eq_getElem hi, ?_⟩
  rcases (by omega : j = j / 2 * 2 ∨ j = j / 2 * 2 + 1) with e | e
  · left; refine ⟨e, ?_⟩
    rw [e, h1.1] at h; exact (Option.some.inj h).symm
  · right; refine ⟨e, ?_⟩
    rw [e, h1.2] at h; exact (Option.some.inj h).symm
theorem aflat_one (l : List (ByteArray × ByteArray)) : ∀ u ∈ aflat l, u.oneCell' = true := by
  intro u hu
  obtain ⟨x, _, hu⟩ := List.mem_flatMap.1 hu
  simp at hu
  rcases hu with rfl | rfl <;> rfl
theorem Atts.src {W : World} {a : Option Addr} {cap : Nat} {l : List (ByteArray × ByteArray)} (h : Atts W a cap l) : ∀ ad, a = some ad → ∀ j u, (aflat l)[j]? = some u → W.cell? (ad.add j) = some u := by
  intro ad e j u hu
  obtain ⟨i, x, hx, hj⟩ := aflat_inv _ _ _ hu
  obtain ⟨h1, _, h3⟩ := h.cell ad e (by intro e; subst e; simp at hx)
  obtain ⟨b, o, sp⟩ := ad
  simp only at h1; subst h1
  have h4 := h3 i x hx
  rw [Addr.add_lit]
  rcases hj with ⟨rfl, rfl⟩ | ⟨rfl, rfl⟩
  · exact h4.1
  · exact h4.2
theorem Atts.of_own {w : World} {base : Nat} {e : TypeId} {v : Value} {l : List (ByteArray × ByteArray)} (h : w.ownsRow base e 2 v l.length (aflat l)) (hw : ∀ x ∈ l, x.1.size ≤ maxLen ∧ x.2.size ≤ maxLen) :
    ∃ a cap, v = .slice a l.length cap ∧ Atts w a cap l ∧ ∀ ad, a = some ad → base ≤ ad.block := by
  obtain ⟨_, ⟨rfl, h2⟩ | ⟨g, cap, cur, rfl, hg, hb, h1, h2, h3, h4⟩⟩ := h
  · have : l = [] := List.eq_nil_of_length_eq_zero h2
    subst this
    exact ⟨none, 0, rfl, Atts.nil w, fun _ e => by cases e⟩
  · refine ⟨some ⟨g, 0, none⟩, cap, rfl, ⟨h1, h2, (fun e => by cases e), hw, ?_⟩, fun ad e => by cases e; exact hg⟩
    intro ad e hne
    cases e
    refine ⟨rfl, lt_of_block hb, fun i x hi => ?_⟩
    have hlt : i < l.length := (List.getElem?_eq_some_iff.1 hi).1
    have h5 := aflat_at l i x hi
    rw [cell_of_block hb, cell_of_block hb]
    simp only [Nat.zero_add]
    rw [← Array.getElem?_toList, ← Array.getElem?_toList]
    have e1 : ∀ j, j < l.length * 2 → cur.toList[j]? = (aflat l)[j]? := fun j hj => by
      rw [← h4, List.getElem?_take_of_lt hj]
    rw [e1 _ (by omega), e1 _ (by omega)]
    exact h5

end Go.Proofs.YtmieegcgeolckaaGreatDoor
namespace Go.Proofs.YtmieegcgeolckaaGreatDoor
open Go.RowKit Go.Maps
set_option linter.unusedVariables false

/-- One text of a list is handed back. -/
def OneOf (l : List ByteArray) (e : Ending) : Prop := ∃ s, e = .returned (.string s) ∧ s ∈ l

set_option maxHeartbeats 1000000 in
theorem tape_one (B tb k : Nat) (a : Option Addr) (cap : Nat) (l : List ByteArray) (w : World) (ht : Tape w B tb k) (hk : k ≤ 1000000000000) (hl : Strs w a cap l) (h1 : 1 ≤ l.length) (h2 : l.length ≤ 4294967296) (htb : ∀ ad, a = some ad → ad.block ≠ tb) :
    Calls Tryz.prog 49 #[.pointer (some ⟨tb, 0, none⟩), .slice a l.length cap] w fun e w' => OneOf l e ∧ Tape w' B tb (k + 1) ∧ Fr (Is tb) w w' := by
  have hne : ((l.length : Int) == 0) = false := by simp; intro h; subst h; simp at h1
  go_enter Tryz.func49, Tryz.ntmps49
  go_wp2_with fail
  refine (tape_next B tb k l.length _ ht hk (by omega) (by omega)).mono ?_
  rintro e w1 ⟨r, rfl, hr1, hr2, ht1, hf1⟩
  obtain ⟨r, rfl⟩ := Int.eq_ofNat_of_zero_le hr1
  have hlt : r < l.length := by omega
  have hl1 := hl.fr hf1 (fun ad e _ h => htb ad e h)
  obtain ⟨b, off, x, rfl, hx, hc⟩ := hl1.at hlt
  have Hx := Lib.hid hx
  clear hx
  go_wp2_with fail
  go_ret
  exact ⟨⟨x, rfl, List.mem_of_getElem? Hx.out⟩, ht1, hf1⟩

/-- The contents that Contents hands back. -/
def contents : List ByteArray := [
  ⟨#[]⟩,
  ⟨#[102, 115, 58, 102, 58]⟩,
  ⟨#[102, 115, 58, 103, 58, 76]⟩,
  ⟨#[114, 97, 105, 100, 58, 114, 58, 49, 47, 50, 47, 49, 40, 102, 115, 58, 102, 58, 41]⟩,
  ⟨#[114, 97, 105, 100, 58, 114, 58, 50, 47, 50, 47, 49, 40, 102, 115, 58, 102, 58, 41]⟩,
  ⟨#[99, 114, 121, 112, 116, 58, 99, 40, 102, 115, 58, 103, 58, 41]⟩,
  ⟨#[112, 118, 58, 118, 58, 49, 47, 49, 40, 102, 115, 58, 102, 58, 44, 99, 114, 121, 112, 116, 58, 99, 40, 102, 115, 58, 104, 58, 41, 41]⟩,
  ⟨#[116, 97, 98, 108, 101, 58, 116, 40, 102, 115, 58, 102, 58, 44, 99, 114, 121, 112, 116, 58, 99, 40, 114, 97, 105, 100, 58, 114, 58, 49, 47, 50, 47, 49, 40, 102, 115, 58, 120, 58, 41, 41, 41]⟩,
  ⟨#[116, 97, 98, 108, 101, 58, 116, 40, 114, 97, 105, 100, 58, 114, 58, 49, 47, 50, 47, 49, 40, 116, 97, 98, 108, 101, 58, 117, 40, 102, 115, 58, 102, 58, 41, 41, 44, 114, 97, 105, 100, 58, 114, 58, 50, 47, 50, 47, 49, 40, 116, 97, 98, 108, 101, 58, 117, 40, 102, 115, 58, 102, 58, 41, 41, 41]⟩,
  ⟨#[114, 97, 105, 100, 58, 114, 58, 49, 47, 49, 47, 49, 40, 114, 97, 105, 100, 58, 114, 58, 49, 47, 49, 47, 49, 40, 102, 115, 58, 102, 58, 41, 41]⟩,
  ⟨#[112, 118, 58, 118, 58, 49, 47, 50, 40, 102, 115, 58, 102, 58, 41]⟩,
  ⟨#[112, 118, 58, 118, 58, 50, 47, 50, 40, 102, 115, 58, 102, 58, 41]⟩,
  ⟨#[99, 114, 121, 112, 116, 58, 100, 40, 112, 118, 58, 118, 58, 49, 47, 49, 40, 114, 97, 105, 100, 58, 115, 58, 49, 47, 51, 47, 50, 40, 102, 115, 58, 121, 58, 41, 41, 41]⟩,
  ⟨#[114, 97, 105, 100, 58, 115, 58, 50, 47, 51, 47, 50, 40, 102, 115, 58, 121, 58, 41]⟩,
  ⟨#[114, 97, 105, 100, 58, 115, 58, 51, 47, 51, 47, 50, 40, 102, 115, 58, 121, 58, 41]⟩,
  ⟨#[110, 111, 110, 115, 101, 110, 115, 101]⟩]
theorem contents_size : ∀ s ∈ contents, s.size ≤ 256 := by decide
theorem contents_len : contents.length = 16 := rfl

theorem Strs.of_block {w : World} {b : Nat} {l : List ByteArray} {T : TypeId} {fz : Nat × Nat} (h : w.heap[b]? = some (.cells (l.map Value.string).toArray T fz)) (hm : l.length ≤ maxLen) : Strs w (some ⟨b, 0, none⟩) l.length l := by
  refine ⟨Nat.le_refl _, hm, (fun e => by cases e), fun ad e hne => ?_⟩
  cases e
  refine ⟨rfl, lt_of_block h, fun i x hi => ?_⟩
  rw [cell_of_block h]
  simp [hi]

set_option maxRecDepth 100000 in
set_option maxHeartbeats 1000000 in
theorem made_contents (w : World) :
    Calls Tryz.prog 16 #[] w fun e w' => e = .returned (.slice (some ⟨w.heap.size, 0, none⟩) 16 16) ∧ Strs w' (some ⟨w.heap.size, 0, none⟩) 16 contents ∧ Fr No w w' := by
  have hb := block_alloc w (.cells (contents.map Value.string).toArray 9)
  have hs := Strs.of_block hb (by rw [contents_len]; unfold maxLen; omega)
  rw [contents_len] at hs
  have hf : Fr No w (w.alloc (.cells (contents.map Value.string).toArray 9)) := (Fr.refl _ _).alloc _
  have H := Lib.hid (And.intro hs hf)
  clear hb hs hf
  go_enter Tryz.func16, Tryz.ntmps16
  go_wp2_with fail
  go_ret
  exact ⟨rfl, H.out⟩
end Go.Proofs.YtmieegcgeolckaaGreatDoor
/- Device: makes a device of any numbers. -/
namespace Go.Proofs.YtmieegcgeolckaaGreatDoor
open Go.RowKit Go.Maps
set_option linter.unusedVariables false

section
variable {w W W' : World} {B tb : Nat} {a : Option Addr} {n cap Bd : Nat} {i : Int} {k : Nat} {d : Dev} {l : List (ByteArray × ByteArray)}
end

/-- The tape's block, and what is new. -/
def TB (tb B0 : Nat) : Nat → Prop := fun x => x = tb ∨ B0 ≤ x
theorem Fr.swap {T : Nat → Prop} (w : World) (o o' : Obj) (h : T w.heap.size) : Fr T (w.alloc o) (w.alloc o') := by
  have f1 : Fr No w (w.alloc o) := (Fr.refl _ _).alloc _
  have f2 : Fr No w (w.alloc o') := (Fr.refl _ _).alloc _
  refine ⟨rfl, rfl, rfl, by simp, fun k hk hn => ?_⟩
  have hlt : k < w.heap.size := by
    rw [World.size_alloc] at hk
    by_cases e : k = w.heap.size
    · subst e; exact absurd h hn
    · omega
  exact (f2.block k hlt id).trans (f1.block k hlt id).symm

/-- What Device hands back. -/
structure DevTo (w w' : World) (B tb k' : Nat) (i : Int) (d : Dev) (l : List (ByteArray × ByteArray)) : Prop where
  fr : Fr (Is tb) w w'
  tape : Tape w' B tb k'
  ix : d.index = i
  drv : d.drv = ⟨#[]⟩
  sz : Sized d
  att : Atts w' d.aa d.ac l
  an : d.an = l.length
  afr : ∀ ad, d.aa = some ad → w.heap.size ≤ ad.block
  lb : l.length ≤ 1
def DevRes (w w' : World) (B tb K : Nat) (i : Int) (e : Ending) : Prop := ∃ k' d l, k' ≤ K ∧ e = .returned (.agg d.vals) ∧ DevTo w w' B tb k' i d l

/-- One at a list that was just laid. -/
theorem one_lit (B tb k n : Nat) (l : List ByteArray) (W : World) (ht : Tape W B tb k) (hk : k ≤ 1000000000000) (vs : Array Value) (hv : vs = (l.map Value.string).toArray) (hn : n = l.length) (h1 : 1 ≤ l.length) (h2 : l.length ≤ 4294967296) :
    Calls Tryz.prog 49 #[.pointer (some ⟨tb, 0, none⟩), .slice (some ⟨W.heap.size, 0, none⟩) n n] (W.alloc (.cells vs 9)) fun e w' => OneOf l e ∧ Tape w' B tb (k + 1) ∧ Fr (Is tb) W w' := by
  subst hv hn
  have hx : Fr No W (W.alloc (.cells (l.map Value.string).toArray 9)) := (Fr.refl _ _).alloc _
  have hs := Strs.of_block (block_alloc W (.cells (l.map Value.string).toArray 9)) (by unfold maxLen; omega)
  have htl := ht.lt
  exact (tape_one B tb k _ _ l _ (ht.fr hx (fun _ _ => id) id) hk hs h1 h2 (fun ad e => by cases e; simp; omega)).mono fun e w' ⟨h1, h2, h3⟩ => ⟨h1, h2, (hx.mono (T := Is tb) (fun _ _ h => h.elim)).step h3 (fun _ _ h => h)⟩
/-- One of some texts, all short. -/
theorem OneOf.short {l : List ByteArray} {e : Ending} (h : OneOf l e) {N : Nat} (hl : (l.all fun s => decide (s.size ≤ N)) = true) : ∃ s, e = .returned (.string s) ∧ s.size ≤ N := by
  obtain ⟨s, h1, h2⟩ := h
  exact ⟨s, h1, by simpa using List.all_eq_true.1 hl s h2⟩

end Go.Proofs.YtmieegcgeolckaaGreatDoor
namespace Go.Proofs.YtmieegcgeolckaaGreatDoor
open Go.RowKit Go.Maps
set_option linter.unusedVariables false

/-- A device whose attributes lie in memory, in blocks from base on. -/
structure ElOk (W : World) (base : Nat) (d : Dev) : Prop where
  sz : Sized d
  drv : d.drv = ⟨#[]⟩
  att : ∃ l, Atts W d.aa d.ac l ∧ d.an = l.length ∧ l.length ≤ 24
  fresh : ∀ ad, d.aa = some ad → base ≤ ad.block
/-- A tree in memory, in blocks from base on. -/
structure Tr (W : World) (base : Nat) (a : Option Addr) (cap : Nat) (ds : List Dev) : Prop where
  dv : Devs W a cap ds
  wf : TreeWf ds
  fresh : ∀ ad, a = some ad → base ≤ ad.block
  el : ∀ d ∈ ds, ElOk W base d
theorem ElOk.fr {S : Nat → Prop} {W W' : World} {base : Nat} {d : Dev} (h : ElOk W base d) (hf : Fr S W W') (hS : ∀ b, base ≤ b → ¬ S b) : ElOk W' base d := by
  obtain ⟨l, h1, h2⟩ := h.att
  exact ⟨h.sz, h.drv, ⟨l, h1.fr hf (fun ad e _ => hS _ (h.fresh ad e)), h2⟩, h.fresh⟩
theorem Tr.fr {S : Nat → Prop} {W W' : World} {base : Nat} {a : Option Addr} {cap : Nat} {ds : List Dev} (h : Tr W base a cap ds) (hf : Fr S W W') (hS : ∀ b, base ≤ b → ¬ S b) : Tr W' base a cap ds :=
  ⟨h.dv.fr hf (fun ad e _ => hS _ (h.fresh ad e)), h.wf, h.fresh, fun d hd => (h.el d hd).fr hf hS⟩
theorem Tr.no {W W' : World} {base : Nat} {a : Option Addr} {cap : Nat} {ds : List Dev} (h : Tr W base a cap ds) (hf : Fr No W W') : Tr W' base a cap ds := h.fr hf (fun _ _ => id)
theorem Tr.nil (W : World) (base : Nat) : Tr W base none 0 [] := ⟨Devs.nil W, TreeWf.nil, (fun _ e => by cases e), (fun d h => by simp at h)⟩

section
variable {w W W' : World} {B tb k : Nat} {a : Option Addr} {cap : Nat} {ds : List Dev}
theorem Tr.store (h : Tr W (w.heap.size + 2) a cap ds) {b : Nat} {x : Option Addr} {y z : Nat} {T : TypeId} (hb : W.heap[b]? = some (.cells #[.slice x y z] T)) (v : Value) : Tr (W.setCell ⟨b, 0, none⟩ v) (w.heap.size + 2) a cap ds := by
  have hf : Fr (Is b) W (W.setCell ⟨b, 0, none⟩ v) := Fr.setAt (Fr.refl _ _) _
  have hc : ∀ (o : Nat) (u : Value), W.cell? ⟨b, o, none⟩ = some u → u = .slice x y z := fun o u hu => by
    rw [cell_of_block hb] at hu
    match o, hu with
    | 0, hu => simpa using hu.symm
  refine ⟨h.dv.fr hf (fun ad e hne hS => ?_), h.wf, h.fresh, fun d hd => ?_⟩
  · obtain ⟨h1, _, h3⟩ := h.dv.cell ad e hne
    cases ds with
    | nil => exact hne rfl
    | cons d t =>
      have h4 := h3 0 d rfl 0 (by omega)
      unfold Is at hS
      rw [hS] at h4
      have := hc _ _ h4
      cases this
  · have he := h.el d hd
    obtain ⟨l, h1, h2⟩ := he.att
    refine ⟨he.sz, he.drv, ⟨l, h1.fr hf (fun ad e hne hS => ?_), h2⟩, he.fresh⟩
    obtain ⟨_, _, h3⟩ := h1.cell ad e hne
    cases l with
    | nil => exact hne rfl
    | cons q t =>
      have h4 := (h3 0 q rfl).1
      unfold Is at hS
      rw [hS] at h4
      have := hc _ _ h4
      cases this
end

theorem DevTo.el {w w' : World} {B tb k' : Nat} {i : Int} {d : Dev} {l : List (ByteArray × ByteArray)} (h : DevTo w w' B tb k' i d l) {base : Nat} (hb : base ≤ w.heap.size) : ElOk w' base d :=
  ⟨h.sz, h.drv, ⟨l, h.att, h.an, by have := h.lb; omega⟩, fun ad e => Nat.le_trans hb (h.afr ad e)⟩

/-- What Tree hands back. -/
def TreeRes (w w' : World) (B tb K N : Nat) (e : Ending) : Prop := ∃ a cap ds k', k' ≤ K ∧ ds.length ≤ N ∧ e = .returned (.agg #[.slice a ds.length cap]) ∧ Tr w' (w.heap.size + 2) a cap ds ∧ Tape w' B tb k' ∧ Fr (Is tb) w w'

end Go.Proofs.YtmieegcgeolckaaGreatDoor
/- A tree in memory under frames; a new tape. -/
namespace Go.Proofs.YtmieegcgeolckaaGreatDoor
open Go.RowKit Go.Maps
set_option linter.unusedVariables false

theorem Tr.keep {X W : World} {base : Nat} {a : Option Addr} {cap : Nat} {ds : List Dev} {S : Nat → Prop} (h : Tr X base a cap ds) (hf : Fr S X W) (hS : ∀ b, b < X.heap.size → base ≤ b → ¬ S b) : Tr W base a cap ds := by
  refine ⟨h.dv.fr hf (fun ad e hne => hS _ (h.dv.cell ad e hne).2.1 (h.fresh ad e)), h.wf, h.fresh, fun d hd => ?_⟩
  have he := h.el d hd
  obtain ⟨l, h1, h2⟩ := he.att
  exact ⟨he.sz, he.drv, ⟨l, h1.fr hf (fun ad e hne => hS _ (h1.cell ad e hne).2.1 (he.fresh ad e)), h2⟩, he.fresh⟩
theorem Tape.make {w : World} {a : Option Addr} {cap : Nat} {l : List Int} (h : Ints w a cap l) (T : TypeId) :
    Tape (w.alloc (.cells #[.slice a l.length cap, .int .i64 0] T)) w.heap.size w.heap.size 0 :=
  ⟨a, cap, l, T, h.fr ((Fr.refl No _).alloc _) (fun _ _ _ h => h), fun ad e hne => (h.cell ad e hne).2.1, Nat.le_refl _, block_alloc _ _⟩
end Go.Proofs.YtmieegcgeolckaaGreatDoor
namespace Go.Proofs.YtmieegcgeolckaaGreatDoor
open Go.RowKit Go.Maps
set_option linter.unusedVariables false

/-- A device was found, or not. -/
def FoundD (w w' : World) (ds : List Dev) (n : Int) (e : Ending) : Prop :=
  (look ds n = none ∧ e = .returned (.tuple #[.agg Dev.zero.vals, .bool false])) ∨
  ∃ d a' c' l, look ds n = some d ∧ e = .returned (.tuple #[.agg ({ d with aa := a', ac := c' } : Dev).vals, .bool true]) ∧ Atts w' a' c' l ∧ d.an = l.length ∧ l.length ≤ 24 ∧ ∀ ad, a' = some ad → w.heap.size ≤ ad.block

end Go.Proofs.YtmieegcgeolckaaGreatDoor
