/- The closure of Gone; IndexFunc, DeleteFunc over it. -/
import Derived.Test.YtpigghenmagghaaGreatDoorG3
import Derived.Test.YtpigghenmagghaaGreatDoorI1
import Derived.Lib.SliceRun
namespace Go.Proofs.YtpigghenmagghaaGreatDoor
open Go.RowKit Go.Maps
set_option linter.unusedVariables false

/-- Is there a device with this Index? -/
def hasD (ds : List Dev) (n : Int) : Bool := (look ds n).isSome

set_option maxRecDepth 100000 in
set_option maxHeartbeats 1000000 in
theorem gone_has (a : Option Addr) (cap : Nat) (ds : List Dev) (bt base : Nat) (n : Int) (w : World) (hl : Tr w base a cap ds) (hb : w.cell? ⟨bt, 0, none⟩ = some (.slice a ds.length cap)) :
    Calls Tryz.prog 41 #[.int .i64 n, .pointer (some ⟨bt, 0, none⟩)] w fun e w' => e = .returned (.bool (hasD ds n)) ∧ Fr No w w' := by
  go_enter Tryz.func41, Tryz.ntmps41
  go_wp2_with fail
  refine (tree_find a cap ds base n _ hl).mono ?_
  rintro e w1 ⟨⟨hlk, rfl⟩ | ⟨d, a', c', l, hlk, rfl, -, -, -, -⟩, hf1⟩
  · have H : Hid (hasD ds n = false) := by unfold Hid hasD; rw [hlk]; rfl
    clear hlk
    unfold Dev.vals Dev.zero
    go_wp2_with fail
    go_ret
    exact ⟨ret_bool H.out.symm, hf1.alloc _⟩
  · have H : Hid (hasD ds n = true) := by unfold Hid hasD; rw [hlk]; rfl
    clear hlk
    unfold Dev.vals
    go_wp2_with fail
    go_ret
    exact ⟨ret_bool H.out.symm, hf1.alloc _⟩

/-- Where the first number stands of which p holds, or -1. -/
def fidx (p : Int → Bool) : List Int → Int
  | [] => -1
  | x :: t => if p x then 0 else if fidx p t < 0 then -1 else fidx p t + 1
theorem fidx_lo (p : Int → Bool) : ∀ l, -1 ≤ fidx p l ∧ fidx p l < l.length
  | [] => by simp [fidx]
  | x :: t => by
    have := fidx_lo p t
    unfold fidx
    split
    · simp only [List.length_cons]; omega
    · split <;> simp only [List.length_cons] <;> omega
theorem fidx_at (p : Int → Bool) : ∀ (l : List Int) (k : Nat) (x : Int), l[k]? = some x → p x = true → (∀ y ∈ l.take k, p y = false) → fidx p l = k
  | [], k, x, h, _, _ => by simp at h
  | y :: t, 0, x, h, e, _ => by simp at h; subst h; simp [fidx, e]
  | y :: t, k + 1, x, h, e, hn => by
    have h1 : p y = false := hn y (by simp)
    have h2 := fidx_at p t k x (by simpa using h) e (fun z hz => hn z (by simp [hz]))
    unfold fidx
    rw [h1, h2]
    simp; omega
theorem fidx_none (p : Int → Bool) : ∀ l : List Int, (∀ y ∈ l, p y = false) → fidx p l = -1
  | [], _ => rfl
  | y :: t, h => by
    unfold fidx
    rw [h y (by simp), fidx_none p t (fun z hz => h z (by simp [hz]))]
    simp

set_option maxHeartbeats 1000000 in
theorem gone_index (a : Option Addr) (cap : Nat) (ds : List Dev) (bt base : Nat) (la : Option Addr) (lc : Nat) (l : List Int) (w : World) (hl : Tr w base a cap ds) (hb : w.cell? ⟨bt, 0, none⟩ = some (.slice a ds.length cap)) (hi : Ints w la lc l) :
    Calls Tryz.prog 68 #[.slice la l.length lc, .func (.func 41) #[] #[.pointer (some ⟨bt, 0, none⟩)]] w fun e w' => e = .returned (.int .i64 (fidx (hasD ds) l)) ∧ Fr No w w' := by
  have hm := hi.lenmax
  go_enter Tryz.func68, Tryz.ntmps68
  go_wp2_with fail
  go_loopw [8] (fun i wr => ∃ k : Nat, k ≤ l.length ∧ i = .int .i64 k ∧ Hid (∀ x ∈ l.take k, hasD ds x = false) ∧ Fr No w wr) (fun i _ => l.length - (intOf i).toNat)
  case atStart => exact ⟨0, by omega, rfl, by unfold Hid; simp, Fr.refl _ _⟩
  case round =>
    obtain ⟨k, hk, rfl, hno, hfr⟩ := hrel
    by_cases hlt : k < l.length
    · have hlt' : (k : Int) < l.length := by omega
      obtain ⟨bb, off, x, rfl, hx, hc⟩ := (hi.no hfr (fun _ => id)).at hlt
      have Hx := Lib.hid hx
      clear hx
      go_wp2_with fail
      refine (gone_has a cap ds bt base x _ (hl.no hfr) (hfr.cell hb id)).mono ?_
      rintro e w1 ⟨rfl, hf1⟩
      have hfr1 := hfr.step hf1 (fun _ _ h => h)
      clear hc
      cases hp : hasD ds x
      · have Hp := Lib.hid hp
        clear hp
        go_wp2_with fail
        go_roundw
        case rel =>
          refine ⟨k + 1, by omega, by go_num, ?_, hfr1⟩
          unfold Hid
          intro y hy
          rw [take_succ_mem Hx.out] at hy
          rcases List.mem_append.1 hy with h | h
          · exact hno.out y h
          · simp at h; subst h; exact Hp.out
        case measure => simp [intOf]; omega
      · have Hp := Lib.hid hp
        clear hp
        go_wp2_with fail
        go_ret
        exact ⟨ret_int (fidx_at _ l k x Hx.out Hp.out hno.out).symm, hfr1⟩
    · have h := hno.out
      rw [List.take_of_length_le (by omega)] at h
      have Hp : Hid (fidx (hasD ds) l = -1) := fidx_none _ _ h
      clear h
      go_wp2_with fail
      go_ret
      exact ⟨ret_int Hp.out.symm, hfr⟩

/-- What is no device of the tree. -/
def keepN (ds : List Dev) (l : List Int) : List Int := l.filter fun x => !hasD ds x
theorem keepN_snoc {ds : List Dev} {l : List Int} {k : Nat} {x : Int} (h : l[k]? = some x) : keepN ds (l.take (k + 1)) = keepN ds (l.take k) ++ (if hasD ds x then [] else [x]) := by
  unfold keepN
  rw [take_succ_mem h, List.filter_append]
  cases hp : hasD ds x <;> simp [hp]
theorem keepN_len (ds : List Dev) (l : List Int) (k : Nat) : (keepN ds (l.take k)).length ≤ k := Nat.le_trans (List.length_filter_le _ _) (List.length_take_le _ _)
theorem keepN_all {ds : List Dev} {l : List Int} (h : ∀ y ∈ l, hasD ds y = false) : keepN ds l = l := by
  unfold keepN; rw [List.filter_eq_self]; intro y hy; simp [h y hy]

/-- A store into a row of ints of the call's own. -/
theorem own_set {w : World} {base : Nat} {e : TypeId} {g n c i : Nat} {m : List Int} (h : w.ownsRow base e 1 (.slice (some ⟨g, 0, none⟩) n c) n (m.map (Value.int .i64))) (x : Int) :
    (w.setCell ⟨g, i, none⟩ (.int .i64 x)).ownsRow base e 1 (.slice (some ⟨g, 0, none⟩) n c) n (if i < n then (m.set i x).map (Value.int .i64) else m.map (Value.int .i64)) := by
  obtain ⟨h0, ⟨h1, _⟩ | ⟨g', cap, cur, h1, hg, hb, h2, h3, h4, h5⟩⟩ := h
  · cases h1
  · cases h1
    simp only [Nat.mul_one] at *
    have hl : m.length = n := by simpa using h0
    refine ⟨by split <;> simp [hl], .inr ⟨g, c, cur.setIfInBounds i (.int .i64 x), rfl, hg, block_setCell hb i _, h2, h3, by simpa using h4, ?_⟩⟩
    rw [Array.toList_setIfInBounds, Nat.mul_one]
    split
    · rename_i hi
      rw [List.map_set, ← h5, List.take_set]
    · rename_i hi
      rw [List.take_set_of_le (by omega), h5]
end Go.Proofs.YtpigghenmagghaaGreatDoor
