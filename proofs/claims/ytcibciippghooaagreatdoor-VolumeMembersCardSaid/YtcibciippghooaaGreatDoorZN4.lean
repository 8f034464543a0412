/- A law for a range over a function whose body never leaves early and whose iterator writes boxes of its own: frames by Fr. volume.empty: which slots of an array are free; Lacks. volume.Name, volume.Want. volume.Want. The example of the chapter of volumes. Plain. -/
import Derived.Test.YtcibciippghooaaGreatDoorZL2
import Derived.RangeFuncNested
import Derived.RangeFuncBound
import Derived.RangeFuncCalls
import Derived.RangeFuncLeaves
import Derived.Shelf.Abstract
import Derived.Shelf.RegionOpen
import Derived.OwnWalkIn
import Derived.TacticsInMore
import Derived.LoopNIn
import Derived.LoopIn
import Derived.Test.YtcibciippghooaaGreatDoorZN2
import Derived.Test.YtcibciippghooaaGreatDoorZL20
import Derived.Test.YtcibciippghooaaGreatDoorZL3
import Derived.Test.YtcibciippghooaaGreatDoorZL8
import Derived.Lib.ItoaNum
import Derived.Lib.ItoaLen
import Derived.Test.YtcibciippghooaaGreatDoorZN1
import Derived.Test.YtcibciippghooaaGreatDoorZL22
namespace Go.Proofs.YtcibciippghooaaGreatDoor
open Go.RowKit
set_option linter.unusedVariables false

/-- The body of a round: it ends normally; it writes blocks of V alone; what it owns then is of V or new. -/
def roundOk {α : Type} (N : Nat) (I : List α → (Nat → Prop) → World → Prop) (pre : List α) (V : Nat → Prop) (W : World) : Exit → Act → World → Prop
  | .normal, _, W' => ∃ V', (∀ b, V' b → V b ∨ N ≤ b) ∧ I pre V' W' ∧ Fr V W W'
  | _, _, _ => False

theorem Fr.putObj {S : Nat → Prop} (W : World) (r : Nat) (o : Obj) (hS : S r) : Fr S W (W.putObj r o) :=
  ⟨rfl, rfl, rfl, by simp, fun k _ hk => World.putObj_heap_other (fun e => hk (e ▸ hS))⟩

/-- What an iterator owes: for any J that abides its own stores (T), and rounds that write only what J owns (V), it hands out just xs. -/
def Gives {α : Type} (F : Fence) (n : Nat) (P : Program) (gf : Nat) (lb : Array Value) (encs : α → Array Value) (T V0 : Nat → Prop) (xs : List α) (w : World) : Prop :=
  ∀ (l : Nat) (J : List α → (Nat → Prop) → World → Prop) (W : World), Fr No w W → w.heap.size ≤ l → l < W.heap.size →
    (∀ s V A, J s V A → ∀ b, V b → b < A.heap.size) →
    (∀ s V A B, J s V A → Fr T A B → (∀ b, V b → ¬ T b) → J s V B) →
    (∀ pre V x A, J pre V A → pre ++ [x] <+: xs → YieldAt F (n - 1) P l (encs x) A fun e B => e = .returned (.bool true) ∧ ∃ V', (∀ b, V' b → V b ∨ w.heap.size + 2 ≤ b) ∧ J (pre ++ [x]) V' B ∧ Fr (fun b => V b ∨ b = l) A B) →
    J [] V0 W → CallsIn F n P gf (#[.func (.yield l) #[] #[]] ++ lb) W fun e W' => (∃ v, e = .returned v) ∧ ∃ V, J xs V W'

theorem wpIn_range_fr {α : Type} {F : Fence} {n : Nat} {P : Program} {g : Operand} {ps : Array Tmp} {assign body : Code} {Q : Exit → Act → World → Prop} {a : Act} {w : World}
    (hro : F.round = none) (h1 : 1 ≤ n) {gf : Nat} {lb : Array Value} (hg : a.eval g = .func (.func gf) #[] lb) (hFg : F.fn gf) (eg : ∀ args w, (callFunc gf args).run P w = .ok (.enter gf args) w)
    {encs : α → Array Value} (hps : ∀ x, (encs x).size = ps.size) {T V0 : Nat → Prop} (hT : ∀ b, T b → b < w.heap.size) (hV0 : ∀ b, V0 b → b < w.heap.size) {xs : List α}
    (hseq : Gives F (n - 1) P gf lb encs T V0 xs w)
    (I : List α → (Nat → Prop) → World → Prop) (hIlt : ∀ s V A, I s V A → ∀ b, V b → b < A.heap.size)
    (hI : ∀ s V A B S, I s V A → Fr S A B → (∀ b, S b → ¬ V b ∧ (T b ∨ w.heap.size ≤ b)) → I s V B) (h0 : I [] V0 w)
    (Ax : α → (Nat → Prop) → Act → World → Prop) (hAx : ∀ x V a' A B, Ax x V a' A → Fr (Is (w.heap.size + 1)) A B → Ax x V a' B)
    (hassign : ∀ (l : Nat) (pre : List α) (V : Nat → Prop) (x : α) (W : World) (K : Act → World → Prop), I pre V W → w.heap.size + 2 ≤ W.heap.size → (∀ a' W', Fr No W W' → Ax x V a' W' → K a' W') →
      assign.wpIn (F.inRound l) (n - 1 - 1) P (Exit.then K (fun _ _ _ => False)) { tmps := (ps.zip (encs x)).foldl (fun t (p, v) => t.setIfInBounds p v) a.tmps, defers := [] } W)
    (hbody : ∀ (l : Nat) (pre : List α) (V : Nat → Prop) (x : α) (a' : Act) (W : World), I pre V W → Ax x V a' W → pre ++ [x] <+: xs → w.heap.size + 2 ≤ W.heap.size → body.wpIn (F.inRound l) (n - 1 - 1) P (roundOk (w.heap.size + 2) I (pre ++ [x]) V W) a' W)
    (hdone : ∀ (V : Nat → Prop) (W : World), I xs V W → W.heap[w.heap.size]? = some (.deferred (some [])) → ¬ V w.heap.size → Q .normal { a with defers := { target := .collected w.heap.size, args := #[] } :: a.defers } W) :
    (Code.rangeFunc g ps assign body).wpIn F n P Q a w := by
  refine wpIn_rangeFunc ?_
  intro fn hfn
  rw [hro]
  obtain ⟨rec, hrec⟩ : ∃ rec : LoopState → Option Code → Loop, rec = fun st pe => { state := st, pending := pe, fn, tmps := a.tmps, params := ps, assign, body, defers := w.heap.size } := ⟨_, rfl⟩
  obtain ⟨W1, hW1⟩ : ∃ W1, (w.alloc (.deferred (some []))).alloc (.loop (rec .ready none)) = W1 := ⟨_, rfl⟩
  have hsz : W1.heap.size = w.heap.size + 2 := by rw [← hW1]; simp
  have hL1 : W1.heap[w.heap.size + 1]? = some (.loop (rec .ready none)) := by
    rw [← hW1]; have := World.alloc_heap_new (w.alloc (.deferred (some []))) (.loop (rec .ready none)); rwa [World.size_alloc] at this
  have hK1 : W1.heap[w.heap.size]? = some (.deferred (some [])) := by
    rw [← hW1]; exact (Below.heap_alloc _ _ _ (by simp)).trans (World.alloc_heap_new w _)
  have hfr1 : Fr No w W1 := by rw [← hW1]; exact ((Fr.refl _ _).alloc _).alloc _
  have hI1 : I [] V0 W1 := hI _ _ _ _ _ h0 hfr1 (fun _ h => h.elim)
  refine ⟨w.heap.size + 1, [{ target := .collected w.heap.size, args := #[] }], W1, { target := .fn (.func gf) lb, args := #[.func (.yield (w.heap.size + 1)) #[] #[]] }, W1, gf,
    #[.func (.yield (w.heap.size + 1)) #[] #[]] ++ lb, W1, ?_, ?_, ?_, ?_, fun _ => h1, ?_⟩
  · rw [← hW1, hrec]; exact run_enterLoop_outer _ _ _ _ _
  · simp only [resolve, hg]
    simp [go_sem]
  · intro f' hf'; simp [Target.leads] at hf'; subst hf'; exact hFg
  · simp [invoke, go_sem, eg]
  · refine (hseq (w.heap.size + 1) (fun pre V W => I pre V W ∧ ¬ V w.heap.size ∧ ¬ V (w.heap.size + 1) ∧ W.heap[w.heap.size + 1]? = some (.loop (rec .ready none)) ∧ W.heap[w.heap.size]? = some (.deferred (some [])))
      W1 hfr1 (by omega) (by omega) (fun s V A h => hIlt s V A h.1) ?_ ?_ ⟨hI1, fun h => by have := hV0 _ h; omega, fun h => by have := hV0 _ h; omega, hL1, hK1⟩).mono ?_
    · rintro s V A B ⟨hi, hv1, hv2, hl, hk⟩ hf hVT
      refine ⟨hI _ _ _ _ _ hi hf (fun b hb => ⟨fun h => hVT b h hb, .inl hb⟩), hv1, hv2, hf.heap hl (fun h => ?_), hf.heap hk (fun h => ?_)⟩
      · have := hT _ h; omega
      · have := hT _ h; omega
    · rintro pre V x W ⟨hi, hv1, hv2, hl, hk⟩ hpre
      have hlt : w.heap.size + 1 < W.heap.size := (Array.getElem?_eq_some_iff.1 hl).1
      have hy := run_yield (P := P) (args := encs x) hl (by rw [hrec]; exact hps x)
      rw [hrec] at hy
      refine ⟨fn, _, assign, body, hy, roundIn_of_wpIn hfn (hassign _ pre V x W _ hi (by omega) ?_)⟩
      clear hy
      intro a' Wa hfa hax
      have hla := hfa.heap hl id
      have hka := hfa.heap hk id
      have hia := hI _ _ _ _ _ hi hfa (fun _ h => h.elim)
      have hlta : w.heap.size + 1 < Wa.heap.size := (Array.getElem?_eq_some_iff.1 hla).1
      have hsa := hfa.size
      refine ⟨_, run_beginRound hla (by rw [hrec]), ?_⟩
      have hl2 : (Wa.putObj (w.heap.size + 1) (.loop { rec .ready none with state := .busy })).heap[w.heap.size + 1]? = some (.loop { rec .ready none with state := .busy }) := World.putObj_heap_same hlta
      have hk2 : (Wa.putObj (w.heap.size + 1) (.loop { rec .ready none with state := .busy })).heap[w.heap.size]? = some (.deferred (some [])) := (World.putObj_heap_other (by omega)).trans hka
      have hp2 : Fr (Is (w.heap.size + 1)) Wa (Wa.putObj (w.heap.size + 1) (.loop { rec .ready none with state := .busy })) := Fr.putObj _ _ _ rfl
      have hi2 := hI _ _ _ _ _ hia hp2 (fun b hb => by unfold Is at hb; subst hb; exact ⟨hv2, .inr (by omega)⟩)
      refine wpIn_mono (hbody _ pre V x a' _ hi2 (hAx _ _ _ _ _ hax hp2) hpre (by simp; omega)) ?_
      rintro e a3 W3 hp
      cases e with
      | normal =>
        obtain ⟨V', hV', hi3, hf3⟩ := hp
        have hl3 := hf3.heap hl2 hv2
        have hk3 := hf3.heap hk2 hv1
        have hv1' : ¬ V' w.heap.size := fun h => by rcases hV' _ h with h | h; · exact hv1 h
                                                    · omega
        have hv2' : ¬ V' (w.heap.size + 1) := fun h => by rcases hV' _ h with h | h; · exact hv2 h
                                                          · omega
        have hend := run_endRound (P := P) none hl3
        rw [hrec] at hend
        refine ⟨_, _, hend, rfl, V', hV', ⟨hI _ _ _ _ _ hi3 (Fr.putObj (S := Is (w.heap.size + 1)) _ _ _ rfl) (fun b hb => by unfold Is at hb; subst hb; exact ⟨hv2', .inr (by omega)⟩), hv1', hv2', ?_, ?_⟩, ?_⟩
        · rw [hrec]; exact World.putObj_heap_same (Array.getElem?_eq_some_iff.1 hl3).1
        · exact (World.putObj_heap_other (by omega)).trans hk3
        · refine (((hfa.mono (fun _ _ h => h.elim)).step hp2 ?_).step hf3 ?_).step (Fr.putObj (S := Is (w.heap.size + 1)) _ _ _ rfl) ?_
          · rintro b _ h; exact .inr h
          · rintro b _ h; exact .inl h
          · rintro b _ h; exact .inr h
      | ret => exact hp.elim
      | exit id => exact hp.elim
      | goto t => exact hp.elim
      | panic ch => exact hp.elim
      | outgrown => exact hp.elim
    · rintro e W2 ⟨⟨v, rfl⟩, V, hi, hv1, hv2, hl, hk⟩
      refine ⟨none, _, by have := run_endLoop (P := P) hl (by rw [hrec]; simp); rw [hrec] at this; exact this, hdone V _ (hI _ _ _ _ _ hi (Fr.putObj (S := Is (w.heap.size + 1)) _ _ _ rfl) (fun b hb => by unfold Is at hb; subst hb; exact ⟨hv2, .inr (by omega)⟩)) ((World.putObj_heap_other (by omega)).trans hk) hv1⟩
end Go.Proofs.YtcibciippghooaaGreatDoor
namespace Go.Proofs.YtcibciippghooaaGreatDoor
open Go.RowKit Go.Maps
set_option linter.unusedVariables false

def lackAt (ps : List ByteArray) (i : Nat) : Bool := match ps[i]? with | some x => x.toList.isEmpty | none => false
/-- The free ones among the first k slots. -/
def lacksF (ps : List ByteArray) (k : Nat) : List Int := ((List.range k).filter (lackAt ps)).map fun i : Nat => ((i : Nat) : Int) + 1
theorem lacksF_succ (ps : List ByteArray) (k : Nat) : lacksF ps (k + 1) = lacksF ps k ++ (if lackAt ps k = true then [(k : Int) + 1] else []) := by
  unfold lacksF
  rw [List.range_succ, List.filter_append, List.map_append]
  cases h : lackAt ps k <;> simp [h]
theorem lacksF_prefix (ps : List ByteArray) {k n : Nat} (h : k ≤ n) : lacksF ps k <+: lacksF ps n := by
  induction n with
  | zero => obtain rfl : k = 0 := by omega
            exact List.prefix_refl _
  | succ n ih =>
    by_cases e : k = n + 1
    · subst e; exact List.prefix_refl _
    · rw [lacksF_succ]
      exact (ih (by omega)).trans (List.prefix_append _ _)
theorem lacksF_len (ps : List ByteArray) (k : Nat) : (lacksF ps k).length ≤ k := by
  unfold lacksF
  rw [List.length_map]
  exact Nat.le_trans (List.length_filter_le _ _) (by simp)

set_option maxHeartbeats 1000000 in
theorem v_empty (a : Option Addr) (n c : Nat) (w : World) : Calls Tryz.prog 51 #[.slice a n c] w fun e w' => e = .returned (.func (.func 76) #[] #[.pointer (some ⟨w.heap.size, 0, none⟩)]) ∧ w' = w.alloc (.cells #[.slice a n c] 27) := by
  go_enter Tryz.func51, Tryz.ntmps51
  go_wp2_with fail
  go_ret
  exact ⟨rfl, rfl⟩

set_option maxRecDepth 100000 in
set_option maxHeartbeats 2000000 in
theorem empty_gives (n : Nat) (hn : 3 ≤ n) (Bx : Nat) (a : Option Addr) (cap : Nat) (ps : List ByteArray) (w : World) (V0 : Nat → Prop) (hbx : w.heap[Bx]? = some (.cells #[.slice a ps.length cap] 27)) (hS : Strs w a cap ps) (hps : ps.length ≤ 1000000)
    (hV : ∀ ad, a = some ad → ps ≠ [] → ¬ V0 ad.block) :
    Gives Fence.wide n Tryz.prog 76 #[.pointer (some ⟨Bx, 0, none⟩)] (fun i : Int => #[.int .i64 i]) (fun _ => False) V0 (lacksF ps ps.length) w := by
  intro l J W hfr hl1 hl2 hJlt hJ hY h0
  have hbW := hfr.heap hbx id
  have hSW := hS.no hfr (fun _ => id)
  have hsz := hfr.size
  have h1n : 1 ≤ n := by omega
  have hm := hS.lenmax
  have hbd : ∀ ad, a = some ad → ps ≠ [] → ad.block < w.heap.size := fun ad e hne => (hS.cell ad e hne).2.1
  show CallsIn Fence.wide n Tryz.prog 76 #[.func (.yield l) #[] #[], .pointer (some ⟨Bx, 0, none⟩)] W _
  have cv : W.cell? ⟨Bx, 0, none⟩ = some (.slice a ps.length cap) := cell_of_block hbW 0
  refine callsIn_of_wp Tryz.func76 rfl trivial ?_ rfl
  simp only [Tryz.ntmps76, List.size_toArray, List.length_cons, List.length_nil, Nat.reduceAdd, Nat.reduceSub, Array.replicate_succ, Array.replicate_zero, List.push_toArray, List.append_toArray, List.nil_append, List.cons_append]
  gi_wp2
  clear cv
  gi_loopw [7] (fun i wr => ∃ (k : Nat) (V : Nat → Prop), k ≤ ps.length ∧ i = .int .i64 (k : Int) ∧ Strs wr a cap ps ∧ J (lacksF ps k) V wr ∧ (∀ b, V b → V0 b ∨ w.heap.size ≤ b) ∧ W.heap.size ≤ wr.heap.size) (fun i _ => ps.length - (intOf i).toNat)
  case atStart => exact ⟨0, V0, by omega, rfl, hSW, h0, fun b hb => .inl hb, Nat.le_refl _⟩
  case round =>
    obtain ⟨k, V, hk, rfl, hSr, hJr, hVr, hsr⟩ := hrel
    by_cases hlt : k < ps.length
    · have hlt' : (k : Int) < ps.length := by omega
      obtain ⟨b, off, x, rfl, hx, hc⟩ := hSr.at hlt
      have hla : lackAt ps k = x.toList.isEmpty := by unfold lackAt; rw [hx]
      have Hx := Lib.hid hx
      clear hx
      rcases he : x.toList.isEmpty with _ | _
      · have hL : lacksF ps (k + 1) = lacksF ps k := by rw [lacksF_succ, hla, he]; simp
        have HL := Lib.hid hL
        clear hL hla
        gi_wp2
        refine ⟨fun _ h => (by cases h), ?_⟩
        gi_wp2
        go_roundw
        case rel => exact ⟨k + 1, V, by omega, by go_num, hSr, by rw [HL.out]; exact hJr, hVr, hsr⟩
        case measure => simp [intOf]; omega
      · have hL : lacksF ps (k + 1) = lacksF ps k ++ [(k : Int) + 1] := by rw [lacksF_succ, hla, he]; simp
        have HL := Lib.hid hL
        clear hL hla
        obtain ⟨fn, tmps, assign, body, hy, hR⟩ := hY (lacksF ps k) V ((k : Int) + 1) wr hJr (by rw [← HL.out]; exact lacksF_prefix ps (by omega))
        gi_wp2
        refine hR.mono ?_
        rintro e W3 ⟨rfl, V', hV', hJ3, hf3⟩
        have hVlt := hJlt _ _ _ hJr
        have hS3 := hSr.fr hf3 (fun ad e hne h => by
          have h1 := hbd ad e hne
          rcases h with h | h
          · rcases hVr _ h with h' | h'
            · exact hV ad e hne h'
            · omega
          · omega)
        have hs3 := hf3.size
        have HF := Lib.hid (And.intro hS3 hJ3)
        have HV : Hid (∀ b, V' b → V0 b ∨ w.heap.size ≤ b) := fun b h => (hV' b h).elim (hVr b) (fun h => .inr (by omega))
        clear hS3 hJ3 hV' hSr hJr hVr hc hR hy hf3
        gi_wp2
        go_roundw
        case rel => exact ⟨k + 1, V', by omega, by go_num, HF.out.1, by rw [HL.out]; exact HF.out.2, HV.out, by omega⟩
        case measure => simp [intOf]; omega
    · obtain rfl : k = ps.length := by omega
      gi_wp2
      go_end0
      exact ⟨⟨_, rfl⟩, V, hJr⟩
end Go.Proofs.YtcibciippghooaaGreatDoor
namespace Go.Proofs.YtcibciippghooaaGreatDoor
open Go.RowKit Go.Maps
set_option linter.unusedVariables false

/-- The text of a logical volume's name. -/
def lvT (id : ByteArray) (k : Int) : ByteArray := (⟨#[108, 118, 45]⟩ : ByteArray) ++ id ++ (⟨#[45]⟩ : ByteArray) ++ (⟨(Lib.itoa k).toArray⟩ : ByteArray)
def lvOk (id : ByteArray) (k : Int) : Bool := decide (1 ≤ k) && decide (k ≤ 16) && isName (lvT id k)
theorem lvT_size (id : ByteArray) (k : Int) : (lvT id k).size = id.size + 4 + (Lib.itoa k).length := by
  unfold lvT
  rw [ByteArray.size_append, ByteArray.size_append, ByteArray.size_append]
  show 3 + id.size + 1 + (Lib.itoa k).toArray.size = _
  simp; omega

set_option maxRecDepth 100000 in
set_option maxHeartbeats 2000000 in
theorem v_name (id : ByteArray) (k : Int) (w : World) (hE : Env w) (hid : id.size ≤ 1000000) (hk : (Lit.int .i64 k).wf = true) :
    Calls Tryz.prog 50 #[.string id, .int .i64 k] w fun e w' => e = .returned (.tuple #[.string (if lvOk id k = true then lvT id k else ⟨#[]⟩), .int .i64 (if lvOk id k = true then 0 else 340)]) ∧ Fr No w w' := by
  have hkb : -9223372036854775808 ≤ k ∧ k ≤ 9223372036854775807 := by simp [Lit.wf, IntKind.min, IntKind.max, IntKind.signed, IntKind.bits] at hk; omega
  have hil := Lib.itoa_length_le k hkb.1 hkb.2
  have hsz := lvT_size id k
  have h1 : ((⟨#[108, 118, 45]⟩ : ByteArray) ++ id).size ≤ 9223372036854775807 := by rw [ByteArray.size_append]; show 3 + id.size ≤ _; omega
  have h2 : ((⟨#[108, 118, 45]⟩ : ByteArray) ++ id ++ (⟨#[45]⟩ : ByteArray)).size ≤ 9223372036854775807 := by rw [ByteArray.size_append, ByteArray.size_append]; show 3 + id.size + 1 ≤ _; omega
  obtain ⟨it, hit⟩ : ∃ it, it = (⟨(Lib.itoa k).toArray⟩ : ByteArray) := ⟨_, rfl⟩
  have hL : lvT id k = (⟨#[108, 118, 45]⟩ : ByteArray) ++ id ++ (⟨#[45]⟩ : ByteArray) ++ it := by rw [hit]; rfl
  have h3 : ((⟨#[108, 118, 45]⟩ : ByteArray) ++ id ++ (⟨#[45]⟩ : ByteArray) ++ it).size ≤ 9223372036854775807 := by rw [← hL, hsz]; omega
  have h4 : ((⟨#[108, 118, 45]⟩ : ByteArray) ++ id ++ (⟨#[45]⟩ : ByteArray) ++ it).size ≤ maxLen := by unfold maxLen; rw [← hL, hsz]; omega
  have hits : it.size ≤ 21 := by rw [hit]; simpa [ByteArray.size] using hil
  have hz3 : ¬ 9223372036854775807 < 3 + id.size + 1 + it.size := by omega
  have hz4 : ¬ 9223372036854775807 < ((⟨#[108, 118, 45]⟩ : ByteArray) ++ id ++ (⟨#[45]⟩ : ByteArray)).size + it.size := by rw [← ByteArray.size_append]; omega
  have hz5 : ((⟨#[108, 118, 45]⟩ : ByteArray) ++ id ++ (⟨#[45]⟩ : ByteArray)).size + it.size ≤ 9223372036854775807 := by omega
  obtain ⟨bo, hbo⟩ : ∃ bo, bo = lvOk id k := ⟨_, rfl⟩
  rw [← hbo, hL]
  have Hbo := Lib.hid hbo
  have HL := Lib.hid hL
  have hit2 : (⟨(Lib.itoa k).toArray⟩ : ByteArray) = it := hit.symm
  clear hbo hL hsz hil hit
  go_enter Tryz.func50, Tryz.ntmps50
  go_wp2_with fail
  refine (Tryz.strconv_Itoa k hkb.1 hkb.2 _ hE.tab).mono ?_
  rintro e w1 ⟨rfl, kk, os, rfl⟩
  have hf1 : Fr No w (Go.Sort.grow (w.drewN kk) os) := Fr.of_below_size (Lib.below_grow _ w (Nat.le_refl _) kk os)
  generalize Go.Sort.grow (w.drewN kk) os = w1 at *
  rw [hit2]
  by_cases hk1 : 1 ≤ k
  · by_cases hk2 : k ≤ 16
    · go_wp2_with fail
      refine (name_valid _ _ h4).mono ?_
      rintro e w2 ⟨rfl, hf2⟩
      have hf12 := hf1.step hf2 (fun _ _ h => h)
      have hb : bo = isName ((⟨#[108, 118, 45]⟩ : ByteArray) ++ id ++ (⟨#[45]⟩ : ByteArray) ++ it) := by rw [Hbo.out, ← HL.out]; unfold lvOk; simp [hk1, hk2]
      rw [← hb]
      have Hf := Lib.hid hf12
      clear hf1 hf2 hf12 hb
      cases bo
      · go_wp2_with fail
        refine bodyPost_ret (v := .tuple #[.string ⟨#[]⟩, .int .i64 340]) (by simp [results, Tryz.results50, go_sem]) rfl ?_
        exact ⟨by simp, Hf.out⟩
      · go_wp2_with fail
        refine bodyPost_ret (v := .tuple #[.string ((⟨#[108, 118, 45]⟩ : ByteArray) ++ id ++ (⟨#[45]⟩ : ByteArray) ++ it), .int .i64 0]) (by simp [results, Tryz.results50, go_sem]) rfl ?_
        exact ⟨by simp, Hf.out⟩
    · have hb : bo = false := by rw [Hbo.out]; unfold lvOk; simp [hk2]
      subst hb
      have Hf := Lib.hid hf1
      clear hf1
      go_wp2_with fail
      refine bodyPost_ret (v := .tuple #[.string ⟨#[]⟩, .int .i64 340]) (by simp [results, Tryz.results50, go_sem]) rfl ?_
      exact ⟨by simp, Hf.out⟩
  · have hb : bo = false := by rw [Hbo.out]; unfold lvOk; simp [hk1]
    subst hb
    have Hf := Lib.hid hf1
    clear hf1
    go_wp2_with fail
    refine bodyPost_ret (v := .tuple #[.string ⟨#[]⟩, .int .i64 340]) (by simp [results, Tryz.results50, go_sem]) rfl ?_
    exact ⟨by simp, Hf.out⟩
end Go.Proofs.YtcibciippghooaaGreatDoor
namespace Go.Proofs.YtcibciippghooaaGreatDoor
open Go.RowKit Go.Maps
set_option linter.unusedVariables false

def wantAt (gi : ByteArray) (ins : List ByteArray) (r : Int) (i : Nat) : Vir := ⟨⟨#[]⟩, lvT gi ((i : Int) + 1), ins[i]?.getD ⟨#[]⟩, r⟩
/-- The logical volumes of the first k inner ones. -/
def wantF (gi : ByteArray) (ins : List ByteArray) (r : Int) (k : Nat) : List Vir := ((List.range k).filter fun i : Nat => lvOk gi ((i : Int) + 1)).map (wantAt gi ins r)
theorem wantF_succ (gi : ByteArray) (ins : List ByteArray) (r : Int) (k : Nat) : wantF gi ins r (k + 1) = wantF gi ins r k ++ (if lvOk gi ((k : Int) + 1) = true then [wantAt gi ins r k] else []) := by
  unfold wantF
  rw [List.range_succ, List.filter_append, List.map_append]
  cases h : lvOk gi ((k : Int) + 1) <;> simp [h]
theorem wantF_len (gi : ByteArray) (ins : List ByteArray) (r : Int) (k : Nat) : (wantF gi ins r k).length ≤ k := by
  unfold wantF
  rw [List.length_map]
  exact Nat.le_trans (List.length_filter_le _ _) (by simp)
def wantL (gi : ByteArray) (t n : Int) (ins : List ByteArray) (r : Int) : List Vir := if n = t then wantF gi ins r ins.length else []

set_option maxRecDepth 100000 in
set_option maxHeartbeats 4000000 in
theorem v_want (gi : ByteArray) (t e n rd : Int) (pa : Option Addr) (pn pc : Nat) (la : Option Addr) (lc : Nat) (ins : List ByteArray) (w : World) (hE : Env w) (hid : gi.size ≤ 1000000) (hS : Strs w la lc ins) (hil : ins.length ≤ 1000000) :
    Calls Tryz.prog 28 #[.agg #[.string gi, .slice pa pn pc, .int .i64 t, .int .i64 e, .int .i64 n, .slice la ins.length lc], .int .i64 rd] w fun en w' => (∃ a' c' V, en = .returned (.slice a' (V : List Vir).length c') ∧ Virs w' a' c' V ∧ V = wantL gi t n ins rd) ∧ Fr No w w' := by
  obtain ⟨i0, hi0, hz0, hz1, hz2⟩ := info_parts infoV
  have hx : Fr No w (w.alloc (.cells #[.string gi, .slice pa pn pc, .int .i64 t, .int .i64 e, .int .i64 n, .slice la ins.length lc] 58)) := (Fr.refl _ _).alloc _
  have q0 := block_alloc w (.cells #[.string gi, .slice pa pn pc, .int .i64 t, .int .i64 e, .int .i64 n, .slice la ins.length lc] 58)
  have hm := hS.lenmax
  have hS0 := hS.no hx (fun _ => id)
  have hE0 := hE.no hx
  have hl0 := lt_of_block q0
  obtain ⟨W0, hW0⟩ : ∃ W0, W0 = w.alloc (.cells #[.string gi, .slice pa pn pc, .int .i64 t, .int .i64 e, .int .i64 n, .slice la ins.length lc] 58) := ⟨_, rfl⟩
  rw [← hW0] at hx q0 hS0 hE0 hl0
  have x0 : W0.cell? ⟨w.heap.size, 0, none⟩ = some (.string gi) := cell_of_block q0 0
  have x2 : W0.cell? ⟨w.heap.size, 2, none⟩ = some (.int .i64 t) := cell_of_block q0 2
  have x4 : W0.cell? ⟨w.heap.size, 4, none⟩ = some (.int .i64 n) := cell_of_block q0 4
  have x5 : W0.cell? ⟨w.heap.size, 5, none⟩ = some (.slice la ins.length lc) := cell_of_block q0 5
  have Hx := Lib.hid hx
  clear hx hS hE
  go_enter Tryz.func28, Tryz.ntmps28
  go_upto_region 1 with (fail)
  rw [← hW0]
  clear hW0
  by_cases hnt : n = t
  · subst hnt
    go_wp2_with fail
    go_loopw [5, 18] (fun u i wr => ∃ (j : Nat) (V : List Vir) (av : Option Addr) (cv : Nat), j ≤ ins.length ∧ V.length ≤ j ∧ u = .slice av V.length cv ∧ i = .int .i64 (j : Int) ∧ wr.ownsRow W0.heap.size 42 4 (.slice av V.length cv) V.length (vflat V) ∧ Hid (V = wantF gi ins rd j) ∧ Fr (From W0.heap.size) W0 wr) (fun _ i _ => ins.length - (intOf i).toNat)
    case atStart => exact ⟨0, [], none, 0, by omega, by simp, rfl, rfl, World.ownsRow_nil _ _ _ _, by unfold Hid wantF; simp, Fr.refl _ _⟩
    case round =>
      obtain ⟨j, V, av, cv, hj, hVl, rfl, rfl, hown, HV, hf⟩ := hrel
      have hVle : V.length ≤ 1000000 := by omega
      by_cases hlt : j < ins.length
      · have hlt' : (j : Int) < ins.length := by omega
        obtain ⟨b, off, x, rfl, hxj, hc⟩ := (hS0.fr hf (fun ad e hne => by have := (hS0.cell ad e hne).2.1; unfold From; omega)).at hlt
        have y0 : wr.cell? ⟨w.heap.size, 0, none⟩ = some (.string gi) := hf.cell x0 (by show ¬ From W0.heap.size w.heap.size; unfold From; omega)
        have hnm := v_name gi ((j : Int) + 1) wr (hE0.no (hf.mono (fun b hb h => by unfold From at h; omega))) hid (WalkArith.wf_i64 (by omega))
        have Hxj := Lib.hid hxj
        have hsr := hf.size
        clear hxj
        rcases hok : lvOk gi ((j : Int) + 1) with _ | _
        · rw [hok] at hnm
          simp only [Bool.false_eq_true, if_false] at hnm
          have HV2 : Hid (V = wantF gi ins rd (j + 1)) := by unfold Hid; rw [wantF_succ, hok]; simpa using HV.out
          clear hok
          go_wp2_with fail
          refine hnm.mono ?_
          rintro en w1 ⟨rfl, hf1⟩
          have H := Lib.hid (And.intro (ownsRow_at hown hf1 (fun _ _ h => h)) (hf.step hf1 (fun _ _ h => h.elim)))
          clear hown hf hf1 hnm HV
          go_wp2_with fail
          go_roundw
          case rel => exact ⟨j + 1, V, av, cv, by omega, by omega, rfl, by go_num, H.out.1, HV2, H.out.2⟩
          case measure => simp [intOf]; omega
        · rw [hok] at hnm
          simp only [if_true] at hnm
          have HV2 : Hid (wantF gi ins rd (j + 1) = V ++ [⟨⟨#[]⟩, lvT gi ((j : Int) + 1), x, rd⟩]) := by
            unfold Hid; rw [wantF_succ, hok, ← HV.out, if_pos rfl]
            unfold wantAt; rw [Hxj.out]; rfl
          clear hok
          go_wp2_with fail
          refine hnm.mono ?_
          rintro en w1 ⟨rfl, hf1⟩
          have hown1 := ownsRow_at hown hf1 (fun _ _ h => h)
          have hf01 := hf.step hf1 (fun _ _ h => h.elim)
          have hs1 := hf1.size
          have Hown1 := Lib.hid hown1
          have Hf01 := Lib.hid hf01
          obtain ⟨nm, hnm2⟩ : ∃ nm, nm = lvT gi ((j : Int) + 1) := ⟨_, rfl⟩
          rw [← hnm2] at HV2 ⊢
          clear hown hf hf1 hnm HV hf01 hnm2
          go_wp2_with (at_builtin; refine wpList_append_own _ rfl _ _ 38 rfl W0.heap.size 42 i0 (.agg #[.string ByteArray.empty, .string ByteArray.empty, .string ByteArray.empty, .int .i64 0]) 4 56 Tryz.underlying38 hi0 hz0 hz1 hz2 rfl (by decide) _ _ _ rfl (hown1.alloc _) ⟨w1.heap.size, 0, none⟩ 1 1 (Vir.vals ⟨⟨#[]⟩, nm, x, rd⟩).toList rfl rfl (cells_new _ (Vir.vals ⟨⟨#[]⟩, nm, x, rd⟩) _ rfl) (vvals_one _) (by unfold maxLen; omega) (by omega) (by first | omega | (simp; done) | (simp; omega)) ?_; intro v' w6 hown6 hgrow6 _; obtain ⟨av', cv', rfl⟩ := ownsRow_slice hown6)
          have hgf : Fr (fun b => (Value.slice av V.length cv).ownBlock = some b) (w1.alloc (.cells (Vir.vals ⟨⟨#[]⟩, nm, x, rd⟩) 42)) w6 := Fr.of_grown hgrow6
          have hal : Fr No w1 (w1.alloc (.cells (Vir.vals ⟨⟨#[]⟩, nm, x, rd⟩) 42)) := (Fr.refl _ _).alloc _
          have HF := Lib.hid (And.intro hown6 ((Hf01.out.step hal (fun _ _ h => h.elim)).step hgf (fun b _ h => ownsRow_blk Hown1.out h)))
          clear hown6 hgf hal hgrow6 hown1
          go_roundw
          case rel => exact ⟨j + 1, V ++ [⟨⟨#[]⟩, nm, x, rd⟩], av', cv', by omega, by simp; omega, by simp, by go_num, by rw [List.length_append, vflat_snoc]; exact HF.out.1, Lib.hid HV2.out.symm, HF.out.2⟩
          case measure => simp [intOf]; omega
      · obtain rfl : j = ins.length := by omega
        obtain ⟨a', c', hv, hR, hfresh⟩ := Virs.of_own hown
        cases hv
        have H := Lib.hid (And.intro hR (Hx.out.step (hf.mono (T := No) (fun b hb h => by unfold From at h; omega)) (fun _ _ h => h)))
        clear hown hf hR hfresh
        go_wp2_with fail
        go_ret
        exact ⟨⟨_, _, V, rfl, H.out.1, by unfold wantL; rw [if_pos rfl]; exact HV.out⟩, H.out.2⟩
  · have hb : (n != t) = true := by simpa using hnt
    have Hnt := Lib.hid hnt
    clear hnt
    go_wp2_with fail
    go_ret
    exact ⟨⟨none, 0, [], rfl, Virs.nil _, by unfold wantL; rw [if_neg Hnt.out]⟩, Hx.out⟩
end Go.Proofs.YtcibciippghooaaGreatDoor
namespace Go.Proofs.YtcibciippghooaaGreatDoor
open Go.RowKit
set_option linter.unusedVariables false

def vT1 : ByteArray := ⟨#[112, 118, 58, 118, 58, 49, 47, 50, 40, 102, 115, 58, 120, 58, 44, 99, 114, 121, 112, 116, 58, 99, 40, 41, 41]⟩
def vT2 : ByteArray := ⟨#[112, 118, 58, 118, 58, 50, 47, 50, 40, 41]⟩
def vId : ByteArray := ⟨#[118]⟩
def vCc : ByteArray := ⟨#[99, 114, 121, 112, 116, 58, 99, 40, 41]⟩
def vC1 : Ct := .mk 4 vId ⟨#[]⟩ 1 2 0 [.mk 1 kIx ⟨#[]⟩ 0 0 0 [], .mk 3 kIc ⟨#[]⟩ 0 0 0 [.mk 0 ⟨#[]⟩ ⟨#[]⟩ 0 0 0 []]]
def vC2 : Ct := .mk 4 vId ⟨#[]⟩ 2 2 0 [.mk 0 ⟨#[]⟩ ⟨#[]⟩ 0 0 0 []]
theorem v_it1 : Lib.itoa 1 = [49] := by kernel_rfl
theorem v_it2 : Lib.itoa 2 = [50] := by kernel_rfl
theorem vP1 : parseC vT1 = some vC1 := (parse_iff _ _).2 ⟨by decide, by decide, by rw [vC1, text4]; simp [text0, text1, text3, commas, vT1, vId, kIx, kIc, v_it1, v_it2]; rfl⟩
theorem vP2 : parseC vT2 = some vC2 := (parse_iff _ _).2 ⟨by decide, by decide, by rw [vC2, text4]; simp [text0, commas, vT2, vId, v_it2]; rfl⟩
theorem vX1 : vC1.inner.map Ct.txt = [kFx, vCc] := by simp [vC1, Ct.inner, txt1, txt3, kIx, kIc, kFx, vCc, boxed]; exact ⟨rfl, rfl⟩
theorem vX2 : vC2.inner.map Ct.txt = [⟨#[]⟩] := by simp [vC2, Ct.inner]; rfl
theorem vA1 : Ascii vT1 := fun j b h => (by decide : ∀ b ∈ vT1.data.toList, b.toNat < 128) b (List.mem_of_getElem? h)
theorem vA2 : Ascii vT2 := fun j b h => (by decide : ∀ b ∈ vT2.data.toList, b.toNat < 128) b (List.mem_of_getElem? h)
def vMa (a : Option Addr) (c : Nat) : Mem := ⟨kPb, vId, 0, 1, 2, 2, a, [kFx, vCc], c⟩
def vMb (a : Option Addr) (c : Nat) : Mem := ⟨kPa, vId, 0, 2, 2, 2, a, [⟨#[]⟩], c⟩
section
variable (a1 a2 : Option Addr) (c1 c2 : Nat)
def vG1 : ByteArray × Int → Option Mem := fun x => if x = (vId, 2) then some (vMb a2 c2) else none
def vG2 : ByteArray × Int → Option Mem := fun x => if x = (vId, 1) then some (vMa a1 c1) else vG1 a2 c2 x
theorem v_sa : soundB (vMa a1 c1) = true := by simp [soundB, vMa, ByteArray.toList_eq, kPb]
theorem v_sb : soundB (vMb a2 c2) = true := by simp [soundB, vMb, ByteArray.toList_eq, kPa]
theorem v_b1 : best2 soundB [vMb a2 c2] = vG1 a2 c2 := by
  show best2S soundB (fun _ => none) (vMb a2 c2) = _
  rw [best2S_take (v_sb a2 c2) (fun o h => by cases h)]
  rfl
theorem v_b2 : best2 soundB [vMb a2 c2, vMa a1 c1] = vG2 a1 a2 c1 c2 := by
  have h : best2 soundB [vMb a2 c2, vMa a1 c1] = best2S soundB (best2 soundB [vMb a2 c2]) (vMa a1 c1) := rfl
  rw [h, v_b1, best2S_take (v_sa a1 c1) (fun o h => ?_)]
  · rfl
  · have : vG1 a2 c2 (vId, 1) = none := by unfold vG1; rw [if_neg (by simp)]
    rw [show ((vMa a1 c1).i, (vMa a1 c1).s) = (vId, (1 : Int)) from rfl, this] at h
    cases h
theorem v_ids1 : IsIds2 (vG1 a2 c2) [vId] := by
  refine ⟨by unfold AscS; decide, fun x => ⟨fun h => ?_, fun ⟨s, h⟩ => ?_⟩⟩
  · obtain rfl : x = vId := by simpa using h
    exact ⟨2, by unfold vG1; rw [if_pos rfl]; rfl⟩
  · unfold vG1 at h
    split at h
    · rename_i e; simp at e; simp [e.1]
    · cases h
theorem v_ids2 : IsIds2 (vG2 a1 a2 c1 c2) [vId] := by
  refine ⟨by unfold AscS; decide, fun x => ⟨fun h => ?_, fun ⟨s, h⟩ => ?_⟩⟩
  · obtain rfl : x = vId := by simpa using h
    exact ⟨1, by unfold vG2; rw [if_pos rfl]; rfl⟩
  · unfold vG2 at h
    split at h
    · rename_i e; simp at e; simp [e.1]
    · exact ((v_ids1 a2 c2).mem x).2 ⟨s, h⟩
theorem v_arr1 : buildA (vG1 a2 c2) vId = ⟨vId, [⟨#[]⟩, kPa], 2, 2, 1, [⟨#[]⟩]⟩ := by
  have h1 : vG1 a2 c2 (vId, 1) = none := by unfold vG1; rw [if_neg (by simp)]
  have h2 : vG1 a2 c2 (vId, 2) = some (vMb a2 c2) := by unfold vG1; rw [if_pos rfl]
  have hl : leastSlot (vG1 a2 c2) vId = 2 := by unfold leastSlot; simp [List.range_succ_eq_map, h1, h2]
  have hf : firstOf (vG1 a2 c2) vId = vMb a2 c2 := by unfold firstOf; rw [hl, h2]; rfl
  unfold buildA
  rw [hf]
  simp [vMb, List.range_succ_eq_map, pathAt, h1, h2]
theorem v_arr2 : buildA (vG2 a1 a2 c1 c2) vId = ⟨vId, [kPb, kPa], 2, 2, 2, [kFx, vCc]⟩ := by
  have h1 : vG2 a1 a2 c1 c2 (vId, 1) = some (vMa a1 c1) := by unfold vG2; rw [if_pos rfl]
  have h2 : vG2 a1 a2 c1 c2 (vId, 2) = some (vMb a2 c2) := by unfold vG2 vG1; rw [if_neg (by simp), if_pos rfl]
  have hl : leastSlot (vG2 a1 a2 c1 c2) vId = 1 := by unfold leastSlot; simp [List.range_succ_eq_map, h1]
  have hf : firstOf (vG2 a1 a2 c1 c2) vId = vMa a1 c1 := by unfold firstOf; rw [hl, h1]; rfl
  unfold buildA
  rw [hf]
  simp [vMa, List.range_succ_eq_map, pathAt, h1, h2, vMb]
end
def vO1 : ByteArray := ⟨#[108, 118, 45, 118, 45, 49]⟩
def vO2 : ByteArray := ⟨#[108, 118, 45, 118, 45, 50]⟩
theorem v_lv1 : lvT vId 1 = vO1 := by unfold lvT; rw [v_it1]; rfl
theorem v_lv2 : lvT vId 2 = vO2 := by unfold lvT; rw [v_it2]; rfl
theorem v_want2 : wantL vId 2 2 [kFx, vCc] 1 = [⟨⟨#[]⟩, vO1, kFx, 1⟩, ⟨⟨#[]⟩, vO2, vCc, 1⟩] := by
  have h1 : lvOk vId 1 = true := by unfold lvOk; rw [v_lv1]; simp [isName, ByteArray.toList_eq, vO1, inSet, nameBA]; decide
  have h2 : lvOk vId 2 = true := by unfold lvOk; rw [v_lv2]; simp [isName, ByteArray.toList_eq, vO2, inSet, nameBA]; decide
  unfold wantL
  rw [if_pos rfl]
  simp [wantF, List.range_succ_eq_map, h1, h2, wantAt, v_lv1, v_lv2]
theorem v_want1 : wantL vId 2 1 [⟨#[]⟩] 1 = [] := by unfold wantL; rw [if_neg (by decide)]
theorem v_lack1 : lacksF [⟨#[]⟩, kPa] 2 = [1] := by
  simp [lacksF, lackAt, List.range_succ_eq_map, ByteArray.toList_eq, kPa]
end Go.Proofs.YtcibciippghooaaGreatDoor
