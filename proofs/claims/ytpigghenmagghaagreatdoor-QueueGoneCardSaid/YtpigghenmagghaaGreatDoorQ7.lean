/- The reference of layer 28: With, Without. -/
import Derived.Test.YtpigghenmagghaaGreatDoorQ5
import Derived.Test.YtpigghenmagghaaGreatDoorReg
import Derived.Maps.AppendAt
namespace Go.Proofs.YtpigghenmagghaaGreatDoor
open Go.RowKit Go.Maps Go.Sort Go.Shelf
set_option linter.unusedVariables false

theorem infoI : (Tryz.prog.info? 3).map (fun i => (i.zero, i.size, i.bytes)) = some (some (.int .i64 0), 1, 8) := by kernel_rfl

theorem ownsRow_block {w : World} {base : Nat} {e : TypeId} {size : Nat} {v : Value} {n : Nat} {xs : List Value} (h : w.ownsRow base e size v n xs) {b : Nat} (hb : v.ownBlock = some b) : From base b := by
  obtain ⟨_, ⟨rfl, _⟩ | ⟨g, cap, cur, rfl, hg, _⟩⟩ := h
  · cases hb
  · cases hb; exact hg

theorem grow_fr {w w1 : World} {base : Nat} {e : TypeId} {size : Nat} {v : Value} {n : Nat} {xs : List Value} (h : w.ownsRow base e size v n xs) {o : Obj} (hg : (w.alloc o).grownBy w1 v.ownBlock) : Fr (From base) w w1 :=
  ((Fr.refl _ _).alloc o).step (Fr.of_grown hg) (fun _ _ e => ownsRow_block h e)

/-- A list of ints without a number. -/
def wout (l : List Int) (n : Int) : List Int := l.filter (fun x => x != n)

theorem wout_snoc {l : List Int} {k : Nat} {x : Int} (h : l[k]? = some x) (n : Int) : wout (l.take (k + 1)) n = if x = n then wout (l.take k) n else wout (l.take k) n ++ [x] := by
  unfold wout
  rw [take_succ_mem h, List.filter_append]
  by_cases hx : x = n <;> simp [hx]
theorem wout_len (l : List Int) (k : Nat) (n : Int) : (wout (l.take k) n).length ≤ k := by
  unfold wout
  exact Nat.le_trans (List.length_filter_le _ _) (List.length_take_le _ _)

set_option maxHeartbeats 1000000 in
theorem r_without (a : Option Addr) (cap : Nat) (l : List Int) (n : Int) (w : World) (hl : Ints w a cap l) (hb : l.length ≤ 1000000) :
    Calls Tryz.prog 66 #[.slice a l.length cap, .int .i64 n] w fun e w' => ∃ a' cap', e = .returned (.slice a' (wout l n).length cap') ∧ Ints w' a' cap' (wout l n) ∧ (∀ ad, a' = some ad → w.heap.size ≤ ad.block) ∧ Fr No w w' := by
  obtain ⟨i0, hi, hz0, hz1, hz2⟩ := info_parts infoI
  go_enter Tryz.func66, Tryz.ntmps66
  go_wp2
  go_loopw [5, 6] (fun v i wr => ∃ k : Nat, k ≤ l.length ∧ i = .int .i64 k ∧ wr.ownsRow w.heap.size 3 1 v (wout (l.take k) n).length ((wout (l.take k) n).map (Value.int .i64)) ∧ Fr (From w.heap.size) w wr) (fun _ i _ => l.length - (intOf i).toNat)
  case atStart => exact ⟨0, by omega, rfl, World.ownsRow_nil _ _ _ _, Fr.refl _ _⟩
  case round =>
    obtain ⟨k, hk, rfl, hown, hfr⟩ := hrel
    have hsz := hfr.size
    have hwl := wout_len l k n
    by_cases hlt : k < l.length
    · obtain ⟨b, off, x, rfl, hx, hc⟩ := (hl.from hfr).at hlt
      have Hx := Lib.hid hx
      clear hx
      by_cases hxn : x = n
      · have hb : (x != n) = false := by simpa using hxn
        have Hn := Lib.hid hxn
        clear hxn
        go_wp2
        go_roundw
        case rel => exact ⟨k + 1, by omega, by go_num, by rw [wout_snoc Hx.out, if_pos Hn.out]; exact hown, hfr⟩
        case measure => simp [intOf]; omega
      · have hb : (x != n) = true := by simpa using hxn
        have Hn := Lib.hid hxn
        clear hxn
        go_wp2_with (at_builtin; refine wpList_append_own _ rfl _ _ 22 rfl w.heap.size 3 i0 (.int .i64 0) 1 8 Tryz.underlying22 hi hz0 hz1 hz2 rfl (by decide) _ _ _ rfl (hown.alloc _) ⟨wr.heap.size, 0, none⟩ 1 1 [.int .i64 x] rfl rfl (cell_one_new _ _ _) (ints_oneCell _ [x]) (by unfold maxLen; omega) (by omega) (by simp; omega) ?_; intro v' w1 hown1 hgrow1 _)
        go_roundw
        case rel =>
          refine ⟨k + 1, by omega, by go_num, ?_, ?_⟩
          · rw [wout_snoc Hx.out, if_neg Hn.out]; simpa using hown1
          · refine (hfr.alloc _).step (Fr.of_grown hgrow1) (fun b hb' e => ?_)
            exact ownsRow_block hown e
        case measure => simp [intOf]; omega
    · go_wp2
      go_ret
      rw [List.take_of_length_le (by omega)] at hown
      obtain ⟨a', cap', hv, hI, hfresh⟩ := Ints.of_own hown (fun x hx => hl.wf x (List.mem_filter.1 hx).1)
      exact ⟨a', cap', by rw [← hv]; rfl, hI, hfresh, hfr.mono (fun b hb h => by unfold From at h; omega)⟩

/-- What the loop of With has made of the front p of an ascending list. -/
structure WInv (p : List Int) (n : Int) (m : List Int) (d : Bool) : Prop where
  asc : Asc m
  done : d = true ↔ ∃ x ∈ p, n ≤ x
  mem : ∀ y, y ∈ m ↔ (y ∈ p ∧ y ≠ n) ∨ (y = n ∧ d = true)
  len : m.length ≤ 2 * p.length

theorem WInv.nil (n : Int) : WInv [] n [] false := ⟨List.Pairwise.nil, by simp, by simp, by simp⟩

theorem asc_snoc {m : List Int} {x : Int} (h : Asc m) (hx : ∀ y ∈ m, y < x) : Asc (m ++ [x]) := by
  unfold Asc
  rw [List.pairwise_append]
  refine ⟨h, by simp, fun a ha b hb => ?_⟩
  simp at hb; subst hb; exact hx a ha

theorem Asc.front {l : List Int} {k : Nat} {x : Int} (h : Asc l) (hk : l[k]? = some x) : ∀ y ∈ l.take k, y < x := by
  intro y hy
  have h2 : Asc (l.take (k + 1)) := List.Pairwise.sublist (List.take_sublist _ _) h
  rw [take_succ_mem hk] at h2
  exact (List.pairwise_append.1 h2).2.2 y hy x (by simp)

/-- n comes ahead of x. -/
theorem WInv.ins {p : List Int} {n : Int} {m : List Int} {x : Int} (h : WInv p n m false) (hp : ∀ y ∈ p, y < x) (hx : n < x) : WInv (p ++ [x]) n (m ++ [n] ++ [x]) true := by
  have hno : ∀ y ∈ p, y < n := fun y hy => by
    have := h.done
    by_cases hyn : n ≤ y
    · exact absurd (this.2 ⟨y, hy, hyn⟩) (by simp)
    · omega
  have hm : ∀ y ∈ m, y < n := fun y hy => by
    rcases (h.mem y).1 hy with ⟨h1, _⟩ | ⟨_, h2⟩
    · exact hno y h1
    · cases h2
  refine ⟨asc_snoc (asc_snoc h.asc hm) ?_, ?_, ?_, ?_⟩
  · intro y hy; simp at hy; rcases hy with hy | rfl
    · have := hm y hy; omega
    · exact hx
  · simp; exact .inr (by omega)
  · intro y
    simp only [List.mem_append, List.mem_singleton, h.mem]
    constructor
    · rintro ((⟨h1, h2⟩ | h1) | rfl) <;> simp_all
      omega
    · rintro (⟨h1 | rfl, h2⟩ | ⟨rfl, _⟩) <;> simp_all
  · have := h.len; simp; omega
theorem WInv.here {p : List Int} {n : Int} {m : List Int} (h : WInv p n m false) (hp : ∀ y ∈ p, y < n) : WInv (p ++ [n]) n (m ++ [n]) true := by
  refine ⟨asc_snoc h.asc ?_, by simp, ?_, ?_⟩
  · intro y hy
    rcases (h.mem y).1 hy with ⟨h1, _⟩ | ⟨_, h2⟩
    · exact hp y h1
    · cases h2
  · intro y
    simp only [List.mem_append, List.mem_singleton, h.mem]
    constructor
    · rintro (⟨h1, h2⟩ | rfl) <;> simp_all
    · rintro (⟨h1 | rfl, h2⟩ | ⟨rfl, _⟩) <;> simp_all
  · have := h.len; simp; omega
theorem WInv.low {p : List Int} {n : Int} {m : List Int} {x : Int} {d : Bool} (h : WInv p n m d) (hp : ∀ y ∈ p, y < x) (hx : x < n) : WInv (p ++ [x]) n (m ++ [x]) d := by
  have hd : d = false := by
    cases d with
    | false => rfl
    | true => obtain ⟨y, hy, hny⟩ := h.done.1 rfl; have := hp y hy; omega
  subst hd
  refine ⟨asc_snoc h.asc ?_, ?_, ?_, ?_⟩
  · intro y hy
    rcases (h.mem y).1 hy with ⟨h1, _⟩ | ⟨_, h2⟩
    · exact hp y h1
    · cases h2
  · rw [h.done]
    constructor
    · rintro ⟨y, hy, h1⟩; exact ⟨y, by simp [hy], h1⟩
    · rintro ⟨y, hy, h1⟩
      simp at hy
      rcases hy with hy | rfl
      · exact ⟨y, hy, h1⟩
      · omega
  · intro y
    simp only [List.mem_append, List.mem_singleton, h.mem]
    constructor
    · rintro ((⟨h1, h2⟩ | ⟨_, h2⟩) | rfl)
      · exact .inl ⟨.inl h1, h2⟩
      · cases h2
      · exact .inl ⟨.inr rfl, by omega⟩
    · rintro (⟨h1 | rfl, h2⟩ | ⟨rfl, h2⟩)
      · exact .inl (.inl ⟨h1, h2⟩)
      · exact .inr rfl
      · cases h2
  · have := h.len; simp; omega
theorem WInv.past {p : List Int} {n : Int} {m : List Int} {x : Int} (h : WInv p n m true) (hp : ∀ y ∈ p, y < x) : n < x ∧ WInv (p ++ [x]) n (m ++ [x]) true := by
  obtain ⟨z, hz, hnz⟩ := h.done.1 rfl
  have hzx := hp z hz
  have hnx : n < x := by omega
  refine ⟨hnx, asc_snoc h.asc ?_, ?_, ?_, ?_⟩
  · intro y hy
    rcases (h.mem y).1 hy with ⟨h1, _⟩ | ⟨rfl, _⟩
    · exact hp y h1
    · exact hnx
  · simp only [true_iff]; exact ⟨z, by simp [hz], hnz⟩
  · intro y
    simp only [List.mem_append, List.mem_singleton, h.mem]
    constructor
    · rintro ((⟨h1, h2⟩ | ⟨rfl, _⟩) | rfl)
      · exact .inl ⟨.inl h1, h2⟩
      · exact .inr ⟨rfl, trivial⟩
      · exact .inl ⟨.inr rfl, by omega⟩
    · rintro (⟨h1 | rfl, h2⟩ | ⟨rfl, h2⟩)
      · exact .inl (.inl ⟨h1, h2⟩)
      · exact .inr rfl
      · exact .inl (.inr ⟨rfl, trivial⟩)
  · have := h.len; simp; omega

/-- At the end: the list with n. -/
theorem WInv.out {l : List Int} {n : Int} {m : List Int} {d : Bool} (h : WInv l n m d) : Asc (if d then m else m ++ [n]) ∧ (∀ y, y ∈ (if d then m else m ++ [n]) ↔ y ∈ l ∨ y = n) := by
  cases d with
  | true =>
    refine ⟨h.asc, fun y => ?_⟩
    simp only [if_true, h.mem]
    by_cases hy : y = n <;> simp [hy]
  | false =>
    have hno : ∀ y ∈ l, y < n := fun y hy => by
      by_cases hyn : n ≤ y
      · exact absurd (h.done.2 ⟨y, hy, hyn⟩) (by simp)
      · omega
    simp only [Bool.false_eq_true, if_false]
    refine ⟨asc_snoc h.asc ?_, fun y => ?_⟩
    · intro y hy
      rcases (h.mem y).1 hy with ⟨h1, _⟩ | ⟨_, h2⟩
      · exact hno y h1
      · cases h2
    · simp only [List.mem_append, List.mem_singleton, h.mem]
      by_cases hy : y = n <;> simp [hy]

set_option maxHeartbeats 4000000 in
theorem r_with (a : Option Addr) (cap : Nat) (l : List Int) (n : Int) (w : World) (hl : Ints w a cap l) (hasc : Asc l) (hb : l.length ≤ 1000000) (hn : (Lit.int .i64 n).wf = true) :
    Calls Tryz.prog 57 #[.slice a l.length cap, .int .i64 n] w fun e w' => ∃ a' cap' m, e = .returned (.slice a' m.length cap') ∧ Ints w' a' cap' m ∧ Asc m ∧ (∀ y, y ∈ m ↔ y ∈ l ∨ y = n) ∧ (∀ ad, a' = some ad → w.heap.size ≤ ad.block) ∧ Fr No w w' := by
  obtain ⟨i0, hi, hz0, hz1, hz2⟩ := info_parts infoI
  go_enter Tryz.func57, Tryz.ntmps57
  go_wp2
  go_loopw [5, 6, 7] (fun v dn i wr => ∃ (k : Nat) (m : List Int) (d : Bool), k ≤ l.length ∧ i = .int .i64 k ∧ dn = .bool d ∧ Hid (WInv (l.take k) n m d) ∧ wr.ownsRow w.heap.size 3 1 v m.length (m.map (Value.int .i64)) ∧ Fr (From w.heap.size) w wr) (fun _ _ i _ => l.length - (intOf i).toNat)
  case atStart => exact ⟨0, [], false, by omega, rfl, rfl, by unfold Hid; simpa using WInv.nil n, World.ownsRow_nil _ _ _ _, Fr.refl _ _⟩
  case round =>
    obtain ⟨k, m, d, hk, rfl, rfl, HW, hown, hfr⟩ := hrel
    have hsz := hfr.size
    have hml : m.length ≤ 2000000 := by have := HW.out.len; simp at this; omega
    by_cases hlt : k < l.length
    · obtain ⟨b, off, x, rfl, hx, hc, hbB⟩ := hl.from_at hfr hlt
      have hfront := hasc.front hx
      have htk := take_succ_mem hx
      have Hf := Lib.hid hfront
      have Ht := Lib.hid htk
      clear hx hfront htk
      cases d with
      | true =>
        have hp := HW.out.past Hf.out
        have hb : (x != n) = true := by have := hp.1; simp; omega
        have HW' : Hid (WInv (l.take (k + 1)) n (m ++ [x]) true) := by unfold Hid; rw [Ht.out]; exact hp.2
        clear hp
        go_wp2_with (at_builtin; refine wpList_append_own _ rfl (.tmp 34) (.tmp 39) 22 rfl w.heap.size 3 i0 (.int .i64 0) 1 8 Tryz.underlying22 hi hz0 hz1 hz2 rfl (by decide) _ _ _ rfl (hown.alloc _) ⟨wr.heap.size, 0, none⟩ 1 1 [.int .i64 x] rfl rfl (cell_one_new _ _ _) (ints_oneCell _ [x]) (by unfold maxLen; omega) (by omega) (by simp; omega) ?_; intro v' w1 hown1 hgrow1 _)
        go_roundw
        case rel => exact ⟨k + 1, m ++ [x], true, by omega, by go_num, rfl, HW', by simpa using hown1, hfr.step (grow_fr hown hgrow1) (fun _ _ h => h)⟩
        case measure => simp [intOf]; omega
      | false =>
        rcases Int.lt_trichotomy x n with hxn | hxn | hxn
        · have hb : (x != n) = true := by simp; omega
          have hb2 : decide (n ≤ x) = false := by simp; omega
          have HW' : Hid (WInv (l.take (k + 1)) n (m ++ [x]) false) := by unfold Hid; rw [Ht.out]; exact HW.out.low Hf.out hxn
          go_wp2_with (at_builtin; refine wpList_append_own _ rfl (.tmp 34) (.tmp 39) 22 rfl w.heap.size 3 i0 (.int .i64 0) 1 8 Tryz.underlying22 hi hz0 hz1 hz2 rfl (by decide) _ _ _ rfl (hown.alloc _) ⟨wr.heap.size, 0, none⟩ 1 1 [.int .i64 x] rfl rfl (cell_one_new _ _ _) (ints_oneCell _ [x]) (by unfold maxLen; omega) (by omega) (by simp; omega) ?_; intro v' w1 hown1 hgrow1 _)
          go_roundw
          case rel => exact ⟨k + 1, m ++ [x], false, by omega, by go_num, rfl, HW', by simpa using hown1, hfr.step (grow_fr hown hgrow1) (fun _ _ h => h)⟩
          case measure => simp [intOf]; omega
        · subst hxn
          have hb : (x != x) = false := by simp
          have hb2 : decide (x ≤ x) = true := by simp
          have HW' : Hid (WInv (l.take (k + 1)) x (m ++ [x]) true) := by unfold Hid; rw [Ht.out]; exact HW.out.here Hf.out
          go_wp2_with (at_builtin; refine wpList_append_own _ rfl (.tmp 24) (.tmp 26) 22 rfl w.heap.size 3 i0 (.int .i64 0) 1 8 Tryz.underlying22 hi hz0 hz1 hz2 rfl (by decide) _ _ _ rfl (hown.alloc _) ⟨wr.heap.size, 0, none⟩ 1 1 [.int .i64 x] rfl rfl (cell_one_new _ _ _) (ints_oneCell _ [x]) (by unfold maxLen; omega) (by omega) (by simp; omega) ?_; intro v' w1 hown1 hgrow1 _; have hc1 := (grow_fr hown hgrow1).cell hc hbB)
          go_roundw
          case rel => exact ⟨k + 1, m ++ [x], true, by omega, by go_num, rfl, HW', by simpa using hown1, hfr.step (grow_fr hown hgrow1) (fun _ _ h => h)⟩
          case measure => simp [intOf]; omega
        · have hb : (x != n) = true := by simp; omega
          have hb2 : decide (n ≤ x) = true := by simp; omega
          have HW' : Hid (WInv (l.take (k + 1)) n (m ++ [n] ++ [x]) true) := by unfold Hid; rw [Ht.out]; exact HW.out.ins Hf.out hxn
          go_wp2_with (first
            | (at_builtin; refine wpList_append_own _ rfl (.tmp 24) (.tmp 26) 22 rfl w.heap.size 3 i0 (.int .i64 0) 1 8 Tryz.underlying22 hi hz0 hz1 hz2 rfl (by decide) _ _ _ rfl (hown.alloc _) ⟨wr.heap.size, 0, none⟩ 1 1 [.int .i64 n] rfl rfl (cell_one_new _ _ _) (ints_oneCell _ [n]) (by unfold maxLen; omega) (by omega) (by simp; omega) ?_; intro v' w1 hown1 hgrow1 _; have hc1 := (grow_fr hown hgrow1).cell hc hbB; have hsz1 := hgrow1.size; rw [World.size_alloc] at hsz1)
            | (at_builtin; refine wpList_append_own _ rfl (.tmp 34) (.tmp 39) 22 rfl w.heap.size 3 i0 (.int .i64 0) 1 8 Tryz.underlying22 hi hz0 hz1 hz2 rfl (by decide) _ _ _ rfl (hown1.alloc _) ⟨w1.heap.size, 0, none⟩ 1 1 [.int .i64 x] rfl rfl (cell_one_new _ _ _) (ints_oneCell _ [x]) (by unfold maxLen; omega) (by omega) (by simp; omega) ?_; intro v'' w2 hown2 hgrow2 _))
          go_roundw
          case rel => exact ⟨k + 1, m ++ [n] ++ [x], true, by omega, by go_num, rfl, HW', by simpa using hown2, (hfr.step (grow_fr hown hgrow1) (fun _ _ h => h)).step (grow_fr hown1 hgrow2) (fun _ _ h => h)⟩
          case measure => simp [intOf]; omega
    · have hout := HW.out
      rw [List.take_of_length_le (by omega)] at hout
      have Hout := Lib.hid hout.out
      clear hout
      cases d with
      | true =>
        go_wp2
        go_ret
        have h1 := Hout.out
        simp only [if_true] at h1
        obtain ⟨a', cap', hv, hI, hfresh⟩ := Ints.of_own hown (fun y hy => by
          rcases (h1.2 y).1 hy with h | rfl
          · exact hl.wf y h
          · exact hn)
        exact ⟨a', cap', m, by rw [← hv]; rfl, hI, h1.1, h1.2, hfresh, hfr.mono (fun b hb h => by unfold From at h; omega)⟩
      | false =>
        go_wp2_with (at_builtin; refine wpList_append_own _ rfl (.tmp 43) (.tmp 45) 22 rfl w.heap.size 3 i0 (.int .i64 0) 1 8 Tryz.underlying22 hi hz0 hz1 hz2 rfl (by decide) _ _ _ rfl (hown.alloc _) ⟨wr.heap.size, 0, none⟩ 1 1 [.int .i64 n] rfl rfl (cell_one_new _ _ _) (ints_oneCell _ [n]) (by unfold maxLen; omega) (by omega) (by simp; omega) ?_; intro v' w1 hown1 hgrow1 _)
        go_ret
        have h1 := Hout.out
        simp only [Bool.false_eq_true, if_false] at h1
        have hown2 : w1.ownsRow w.heap.size 3 1 v' (m ++ [n]).length ((m ++ [n]).map (Value.int .i64)) := by simpa using hown1
        obtain ⟨a', cap', hv, hI, hfresh⟩ := Ints.of_own hown2 (fun y hy => by
          rcases (h1.2 y).1 hy with h | rfl
          · exact hl.wf y h
          · exact hn)
        exact ⟨a', cap', m ++ [n], by rw [← hv]; rfl, hI, h1.1, h1.2, hfresh, (hfr.step (grow_fr hown hgrow1) (fun _ _ h => h)).mono (fun b hb h => by unfold From at h; omega)⟩
end Go.Proofs.YtpigghenmagghaaGreatDoor
