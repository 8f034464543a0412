/- The reference of layer 28: With, Without. -/
import Derived.Test.YtanaompgapiikaaGreatDoorQ5
import Derived.Test.YtanaompgapiikaaGreatDoorReg
import Derived.Maps.AppendAt
import Derived.Deep.DeepCutAuto
namespace Go.Proofs.YtanaompgapiikaaGreatDoor
open Go.RowKit Go.Maps Go.Sort Go.Shelf
set_option linter.unusedVariables false

theorem infoI : (Tryz.prog.info? 3).map (fun i => (i.zero, i.size, i.bytes)) = some (some (.int .i64 0), 1, 8) := by kernel_rfl

theorem ownsRow_block {w : World} {base : Nat} {e : TypeId} {size : Nat} {v : Value} {n : Nat} {xs : List Value} (h : w.ownsRow base e size v n xs) {b : Nat} (hb : v.ownBlock = some b) : From base b := by
  obtain ⟨_, ⟨rfl, _⟩ | ⟨g, cap, cur, rfl, hg, _⟩⟩ := h
  · cases hb
  · cases hb; exact hg

theorem grow_fr {w w1 : World} {base : Nat} {e : TypeId} {size : Nat} {v : Value} {n : Nat} {xs : List Value} (h : w.ownsRow base e size v n xs) {o : Obj} (hg : (w.alloc o).grownBy w1 v.ownBlock) : Fr (From base) w w1 :=
  ((Fr.refl _ _).alloc o).step (Fr.of_grown hg) (fun _ _ e => ownsRow_block h e)

/-- A list of ints without a number. -/
def wout (l : List Int) (n : Int) : List Int := l.filter (fun x => x != n)

theorem wout_snoc {l : List Int} {k : Nat} {x : Int} (h : l[k]? = some x) (n : Int) : wout (l.take (k + 1)) n = if x = n then wout (l.take k) n else wout (l.take k) n ++ [x] := by
  unfold wout
  rw [take_succ_mem h, List.filter_append]
  by_cases hx : x = n <;> simp [hx]
theorem wout_len (l : List Int) (k : Nat) (n : Int) : (wout (l.take k) n).length ≤ k := by
  unfold wout
  exact Nat.le_trans (List.length_filter_le _ _) (List.length_take_le _ _)

set_option maxHeartbeats 1000000 in
theorem r_without (a : Option Addr) (cap : Nat) (l : List Int) (n : Int) (w : World) (hl : Ints w a cap l) (hb : l.length ≤ 1000000) :
    Calls Tryz.prog 120 #[.slice a l.length cap, .int .i64 n] w fun e w' => ∃ a' cap', e = .returned (.slice a' (wout l n).length cap') ∧ Ints w' a' cap' (wout l n) ∧ (∀ ad, a' = some ad → w.heap.size ≤ ad.block) ∧ Fr No w w' := by
  obtain ⟨i0, hi, hz0, hz1, hz2⟩ := info_parts infoI
  go_enter Tryz.func120, Tryz.ntmps120
  go_wp2
  go_loopw [5, 6] (fun v i wr => ∃ k : Nat, k ≤ l.length ∧ i = .int .i64 k ∧ wr.ownsRow w.heap.size 3 1 v (wout (l.take k) n).length ((wout (l.take k) n).map (Value.int .i64)) ∧ Fr (From w.heap.size) w wr) (fun _ i _ => l.length - (intOf i).toNat)
  case atStart => exact ⟨0, by omega, rfl, World.ownsRow_nil _ _ _ _, Fr.refl _ _⟩
  case round =>
    obtain ⟨k, hk, rfl, hown, hfr⟩ := hrel
    have hsz := hfr.size
    have hwl := wout_len l k n
    by_cases hlt : k < l.length
    · obtain ⟨b, off, x, rfl, hx, hc⟩ := (hl.from hfr).at hlt
      have Hx := Lib.hid hx
      clear hx
      by_cases hxn : x = n
      · have hb : (x != n) = false := by simpa using hxn
        have Hn := Lib.hid hxn
        clear hxn
        go_wp2
        go_roundw
        case rel => exact ⟨k + 1, by omega, by go_num, by rw [wout_snoc Hx.out, if_pos Hn.out]; exact hown, hfr⟩
        case measure => simp [intOf]; omega
      · have hb : (x != n) = true := by simpa using hxn
        have Hn := Lib.hid hxn
        clear hxn
        go_wp2_with (at_builtin; refine wpList_append_own _ rfl _ _ 22 rfl w.heap.size 3 i0 (.int .i64 0) 1 8 Tryz.underlying22 hi hz0 hz1 hz2 rfl (by decide) _ _ _ rfl (hown.alloc _) ⟨wr.heap.size, 0, none⟩ 1 1 [.int .i64 x] rfl rfl (cell_one_new _ _ _) (ints_oneCell _ [x]) (by unfold maxLen; omega) (by omega) (by simp; omega) ?_; intro v' w1 hown1 hgrow1 _)
        go_roundw
        case rel =>
          refine ⟨k + 1, by omega, by go_num, ?_, ?_⟩
          · rw [wout_snoc Hx.out, if_neg Hn.out]; simpa using hown1
          · refine (hfr.alloc _).step (Fr.of_grown hgrow1) (fun b hb' e => ?_)
            exact ownsRow_block hown e
        case measure => simp [intOf]; omega
    · go_wp2
      go_ret
      rw [List.take_of_length_le (by omega)] at hown
      obtain ⟨a', cap', hv, hI, hfresh⟩ := Ints.of_own hown (fun x hx => hl.wf x (List.mem_filter.1 hx).1)
      exact ⟨a', cap', by rw [← hv]; rfl, hI, hfresh, hfr.mono (fun b hb h => by unfold From at h; omega)⟩

/-- What the loop of With has made of the front p of an ascending list. -/
structure WInv (p : List Int) (n : Int) (m : List Int) (d : Bool) : Prop where
  asc : Asc m
  done : d = true ↔ ∃ x ∈ p, n ≤ x
  mem : ∀ y, y ∈ m ↔ (y ∈ p ∧ y ≠ n) ∨ (y = n ∧ d = true)
  len : m.length ≤ 2 * p.length

theorem WInv.nil (n : Int) : WInv [] n [] false := ⟨List.Pairwise.nil, by simp, by simp, by simp⟩

theorem asc_snoc {m : List Int} {x : Int} (h : Asc m) (hx : ∀ y ∈ m, y < x) : Asc (m ++ [x]) := by
  unfold Asc
  rw [List.pairwise_append]
  refine ⟨h, by simp, fun a ha b hb => ?_⟩
  simp at hb; subst hb; exact hx a ha

theorem Asc.front {l : List Int} {k : Nat} {x : Int} (h : Asc l) (hk : l[k]? = some x) : ∀ y ∈ l.take k, y < x := by
  intro y hy
  have h2 : Asc (l.take (k + 1)) := List.Pairwise.sublist (List.take_sublist _ _) h
  rw [take_succ_mem hk] at h2
  exact (List.pairwise_append.1 h2).2.2 y hy x (by simp)

/-- n comes ahead of x. -/
theorem WInv.ins {p : List Int} {n : Int} {m : List Int} {x : Int} (h : WInv p n m false) (hp : ∀ y ∈ p, y < x) (hx : n < x) : WInv (p ++ [x]) n (m ++ [n] ++ [x]) true := by
  have hno : ∀ y ∈ p, y < n := fun y hy => by
    have := h.done
    by_cases hyn : n ≤ y
    · exact absurd (this.2 ⟨y, hy, hyn⟩) (by simp)
    · omega
  have hm : ∀ y ∈ m, y < n := fun y hy => by
    rcases (h.mem y).1 hy with ⟨h1, _⟩ | ⟨_, h2⟩
    · exact hno y h1
    · cases h2
  refine ⟨asc_snoc (asc_snoc h.asc hm) ?_, ?_, ?_, ?_⟩
  · intro y hy; simp at hy; rcases hy with hy | rfl
    · have := hm y hy; omega
    · exact hx
  · simp; exact .inr (by omega)
  · intro y
    simp only [List.mem_append, List.mem_singleton, h.mem]
    constructor
    · rintro ((⟨h1, h2⟩ | h1) | rfl) <;> simp_all
      omega
    · rintro (⟨h1 | rfl, h2⟩ | ⟨rfl, _⟩) <;> simp_all
  · have := h.len; simp; omega
theorem WInv.here {p : List Int} {n : Int} {m : List Int} (h : WInv p n m false) (hp : ∀ y ∈ p, y < n) : WInv (p ++ [n]) n (m ++ [n]) true := by
  refine ⟨asc_snoc h.asc ?_, by simp, ?_, ?_⟩
  · intro y hy
    rcases (h.mem y).1 hy with ⟨h1, _⟩ | ⟨_, h2⟩
    · exact hp y h1
    · cases h2
  · intro y
    simp only [List.mem_append, List.mem_singleton, h.mem]
    constructor
    · rintro (⟨h1, h2⟩ | rfl) <;> simp_all
    · rintro (⟨h1 | rfl, h2⟩ | ⟨rfl, _⟩) <;> simp_all
  · have := h.len; simp; omega
theorem WInv.low {p : List Int} {n : Int} {m : List Int} {x : Int} {d : Bool} (h : WInv p n m d) (hp : ∀ y ∈ p, y < x) (hx : x < n) : WInv (p ++ [x]) n (m ++ [x]) d := by
  have hd : d = false := by
    cases d with
    | false => rfl
    | true => obtain ⟨y, hy, hny⟩ := h.done.1 rfl; have := hp y hy; omega
  subst hd
  refine ⟨asc_snoc h.asc ?_, ?_, ?_, ?_⟩
  · intro y hy
    rcases (h.mem y).1 hy with ⟨h1, _⟩ | ⟨_, h2⟩
    · exact hp y h1
    · cases h2
  · rw [h.done]
    constructor
    · rintro ⟨y, hy, h1⟩; exact ⟨y, by simp [hy], h1⟩
    · rintro ⟨y, hy, h1⟩
      simp at hy
      rcases hy with hy | rfl
      · exact ⟨y, hy, h1⟩
      · omega
  · intro y
    simp only [List.mem_append, List.mem_singleton, h.mem]
    constructor
    · rintro ((⟨h1, h2⟩ | ⟨_, h2⟩) | rfl)
      · exact .inl ⟨.inl h1, h2⟩
      · cases h2
      · exact .inl ⟨.inr rfl, by omega⟩
    · rintro (⟨h1 | rfl, h2⟩ | ⟨rfl, h2⟩)
      · exact .inl (.inl ⟨h1, h2⟩)
      · exact .inr rfl
      · cases h2
  · have := h.len; simp; omega
theorem WInv.past {p : List Int} {n : Int} {m : List Int} {x : Int} (h : WInv p n m true) (hp : ∀ y ∈ p, y < x) : n < x ∧ WInv (p ++ [x]) n (m ++ [x]) true := by
  obtain ⟨z, hz, hnz⟩ := h.done.1 rfl
  have hzx := hp z hz
  have hnx : n < x := by omega
  refine ⟨hnx, asc_snoc h.asc ?_, ?_, ?_, ?_⟩
  · intro y hy
    rcases (h.mem y).1 hy with ⟨h1, _⟩ | ⟨rfl, _⟩
    · exact hp y h1
    · exact hnx
  · simp only [true_iff]; exact ⟨z, by simp [hz], hnz⟩
  · intro y
    simp only [List.mem_append, List.mem_singleton, h.mem]
    constructor
    · rintro ((⟨h1, h2⟩ | ⟨rfl, _⟩) | rfl)
      · exact .inl ⟨.inl h1, h2⟩
      · exact .inr ⟨rfl, trivial⟩
      · exact .inl ⟨.inr rfl, by omega⟩
    · rintro (⟨h1 | rfl, h2⟩ | ⟨rfl, h2⟩)
      · exact .inl (.inl ⟨h1, h2⟩)
      · exact .inr rfl
      · exact .inl (.inr ⟨rfl, trivial⟩)
  · have := h.len; simp; omega

/-- At the end: the list with n. -/
theorem WInv.out {l : List Int} {n : Int} {m : List Int} {d : Bool} (h : WInv l n m d) : Asc (if d then m else m ++ [n]) ∧ (∀ y, y ∈ (if d then m else m ++ [n]) ↔ y ∈ l ∨ y = n) := by
  cases d with
  | true =>
    refine ⟨h.asc, fun y => ?_⟩
    simp only [if_true, h.mem]
    by_cases hy : y = n <;> simp [hy]
  | false =>
    have hno : ∀ y ∈ l, y < n := fun y hy => by
      by_cases hyn : n ≤ y
      · exact absurd (h.done.2 ⟨y, hy, hyn⟩) (by simp)
      · omega
    simp only [Bool.false_eq_true, if_false]
    refine ⟨asc_snoc h.asc ?_, fun y => ?_⟩
    · intro y hy
      rcases (h.mem y).1 hy with ⟨h1, _⟩ | ⟨_, h2⟩
      · exact hno y h1
      · cases h2
    · simp only [List.mem_append, List.mem_singleton, h.mem]
      by_cases hy : y = n <;> simp [hy]

set_option maxHeartbeats 4000000 in
theorem r_with (a : Option Addr) (cap : Nat) (l : List Int) (n : Int) (w : World) (hl : Ints w a cap l) (hasc : Asc l) (hb : l.length ≤ 1000000) (hn : (Lit.int .i64 n).wf = true) :
    Calls Tryz.prog 83 #[.slice a l.length cap, .int .i64 n] w fun e w' => ∃ a' cap' m, e = .returned (.slice a' m.length cap') ∧ Ints w' a' cap' m ∧ Asc m ∧ (∀ y, y ∈ m ↔ y ∈ l ∨ y = n) ∧ (∀ ad, a' = some ad → w.heap.size ≤ ad.block) ∧ Fr No w w' := by
  obtain ⟨i0, hi, hz0, hz1, hz2⟩ := info_parts infoI
  go_enter Tryz.func83, Tryz.ntmps83
  go_wp2
  go_loopw [5, 6, 7] (fun v dn i wr => ∃ (k : Nat) (m : List Int) (d : Bool), k ≤ l.length ∧ i = .int .i64 k ∧ dn = .bool d ∧ Hid (WInv (l.take k) n m d) ∧ wr.ownsRow w.heap.size 3 1 v m.length (m.map (Value.int .i64)) ∧ Fr (From w.heap.size) w wr) (fun _ _ i _ => l.length - (intOf i).toNat)
  case atStart => exact ⟨0, [], false, by omega, rfl, rfl, by unfold Hid; simpa using WInv.nil n, World.ownsRow_nil _ _ _ _, Fr.refl _ _⟩
  case round =>
    obtain ⟨k, m, d, hk, rfl, rfl, HW, hown, hfr⟩ := hrel
    have hsz := hfr.size
    have hml : m.length ≤ 2000000 := by have := HW.out.len; simp at this; omega
    by_cases hlt : k < l.length
    · obtain ⟨b, off, x, rfl, hx, hc, hbB⟩ := hl.from_at hfr hlt
      have hfront := hasc.front hx
      have htk := take_succ_mem hx
      have Hf := Lib.hid hfront
      have Ht := Lib.hid htk
      clear hx hfront htk
      cases d with
      | true =>
        have hp := HW.out.past Hf.out
        have hb : (x != n) = true := by have := hp.1; simp; omega
        have HW' : Hid (WInv (l.take (k + 1)) n (m ++ [x]) true) := by unfold Hid; rw [Ht.out]; exact hp.2
        clear hp
        go_wp2_with (at_builtin; refine wpList_append_own _ rfl (.tmp 34) (.tmp 39) 22 rfl w.heap.size 3 i0 (.int .i64 0) 1 8 Tryz.underlying22 hi hz0 hz1 hz2 rfl (by decide) _ _ _ rfl (hown.alloc _) ⟨wr.heap.size, 0, none⟩ 1 1 [.int .i64 x] rfl rfl (cell_one_new _ _ _) (ints_oneCell _ [x]) (by unfold maxLen; omega) (by omega) (by simp; omega) ?_; intro v' w1 hown1 hgrow1 _)
        go_roundw
        case rel => exact ⟨k + 1, m ++ [x], true, by omega, by go_num, rfl, HW', by simpa using hown1, hfr.step (grow_fr hown hgrow1) (fun _ _ h => h)⟩
        case measure => simp [intOf]; omega
      | false =>
        rcases Int.lt_trichotomy x n with hxn | hxn | hxn
        · have hb : (x != n) = true := by simp; omega
          have hb2 : decide (n ≤ x) = false := by simp; omega
          have HW' : Hid (WInv (l.take (k + 1)) n (m ++ [x]) false) := by unfold Hid; rw [Ht.out]; exact HW.out.low Hf.out hxn
          go_wp2_with (at_builtin; refine wpList_append_own _ rfl (.tmp 34) (.tmp 39) 22 rfl w.heap.size 3 i0 (.int .i64 0) 1 8 Tryz.underlying22 hi hz0 hz1 hz2 rfl (by decide) _ _ _ rfl (hown.alloc _) ⟨wr.heap.size, 0, none⟩ 1 1 [.int .i64 x] rfl rfl (cell_one_new _ _ _) (ints_oneCell _ [x]) (by unfold maxLen; omega) (by omega) (by simp; omega) ?_; intro v' w1 hown1 hgrow1 _)
          go_roundw
          case rel => exact ⟨k + 1, m ++ [x], false, by omega, by go_num, rfl, HW', by simpa using hown1, hfr.step (grow_fr hown hgrow1) (fun _ _ h => h)⟩
          case measure => simp [intOf]; omega
        · subst hxn
          have hb : (x != x) = false := by simp
          have hb2 : decide (x ≤ x) = true := by simp
          have HW' : Hid (WInv (l.take (k + 1)) x (m ++ [x]) true) := by unfold Hid; rw [Ht.out]; exact HW.out.here Hf.out
          go_wp2_with (at_builtin; refine wpList_append_own _ rfl (.tmp 24) (.tmp 26) 22 rfl w.heap.size 3 i0 (.int .i64 0) 1 8 Tryz.underlying22 hi hz0 hz1 hz2 rfl (by decide) _ _ _ rfl (hown.alloc _) ⟨wr.heap.size, 0, none⟩ 1 1 [.int .i64 x] rfl rfl (cell_one_new _ _ _) (ints_oneCell _ [x]) (by unfold maxLen; omega) (by omega) (by simp; omega) ?_; intro v' w1 hown1 hgrow1 _; have hc1 := (grow_fr hown hgrow1).cell hc hbB)
          go_roundw
          case rel => exact ⟨k + 1, m ++ [x], true, by omega, by go_num, rfl, HW', by simpa using hown1, hfr.step (grow_fr hown hgrow1) (fun _ _ h => h)⟩
          case measure => simp [intOf]; omega
        · have hb : (x != n) = true := by simp; omega
          have hb2 : decide (n ≤ x) = true := by simp; omega
          have HW' : Hid (WInv (l.take (k + 1)) n (m ++ [n] ++ [x]) true) := by unfold Hid; rw [Ht.out]; exact HW.out.ins Hf.out hxn
          go_wp2_with (first
            | (at_builtin; refine wpList_append_own _ rfl (.tmp 24) (.tmp 26) 22 rfl w.heap.size 3 i0 (.int .i64 0) 1 8 Tryz.underlying22 hi hz0 hz1 hz2 rfl (by decide) _ _ _ rfl (hown.alloc _) ⟨wr.heap.size, 0, none⟩ 1 1 [.int .i64 n] rfl rfl (cell_one_new _ _ _) (ints_oneCell _ [n]) (by unfold maxLen; omega) (by omega) (by simp; omega) ?_; intro v' w1 hown1 hgrow1 _; have hc1 := (grow_fr hown hgrow1).cell hc hbB; have hsz1 := hgrow1.size; rw [World.size_alloc] at hsz1)
            | (at_builtin; refine wpList_append_own _ rfl (.tmp 34) (.tmp 39) 22 rfl w.heap.size 3 i0 (.int .i64 0) 1 8 Tryz.underlying22 hi hz0 hz1 hz2 rfl (by decide) _ _ _ rfl (hown1.alloc _) ⟨w1.heap.size, 0, none⟩ 1 1 [.int .i64 x] rfl rfl (cell_one_new _ _ _) (ints_oneCell _ [x]) (by unfold maxLen; omega) (by omega) (by simp; omega) ?_; intro v'' w2 hown2 hgrow2 _))
          go_roundw
          case rel => exact ⟨k + 1, m ++ [n] ++ [x], true, by omega, by go_num, rfl, HW', by simpa using hown2, (hfr.step (grow_fr hown hgrow1) (fun _ _ h => h)).step (grow_fr hown1 hgrow2) (fun _ _ h => h)⟩
          case measure => simp [intOf]; omega
    · have hout := HW.out
      rw [List.take_of_length_le (by omega)] at hout
      have Hout := Lib.hid hout.out
      clear hout
      cases d with
      | true =>
        go_wp2
        go_ret
        have h1 := Hout.out
        simp only [if_true] at h1
        obtain ⟨a', cap', hv, hI, hfresh⟩ := Ints.of_own hown (fun y hy => by
          rcases (h1.2 y).1 hy with h | rfl
          · exact hl.wf y h
          · exact hn)
        exact ⟨a', cap', m, by rw [← hv]; rfl, hI, h1.1, h1.2, hfresh, hfr.mono (fun b hb h => by unfold From at h; omega)⟩
      | false =>
        go_wp2_with (at_builtin; refine wpList_append_own _ rfl (.tmp 43) (.tmp 45) 22 rfl w.heap.size 3 i0 (.int .i64 0) 1 8 Tryz.underlying22 hi hz0 hz1 hz2 rfl (by decide) _ _ _ rfl (hown.alloc _) ⟨wr.heap.size, 0, none⟩ 1 1 [.int .i64 n] rfl rfl (cell_one_new _ _ _) (ints_oneCell _ [n]) (by unfold maxLen; omega) (by omega) (by simp; omega) ?_; intro v' w1 hown1 hgrow1 _)
        go_ret
        have h1 := Hout.out
        simp only [Bool.false_eq_true, if_false] at h1
        have hown2 : w1.ownsRow w.heap.size 3 1 v' (m ++ [n]).length ((m ++ [n]).map (Value.int .i64)) := by simpa using hown1
        obtain ⟨a', cap', hv, hI, hfresh⟩ := Ints.of_own hown2 (fun y hy => by
          rcases (h1.2 y).1 hy with h | rfl
          · exact hl.wf y h
          · exact hn)
        exact ⟨a', cap', m ++ [n], by rw [← hv]; rfl, hI, h1.1, h1.2, hfresh, (hfr.step (grow_fr hown hgrow1) (fun _ _ h => h)).mono (fun b hb h => by unfold From at h; omega)⟩
end Go.Proofs.YtanaompgapiikaaGreatDoor
/- The reference of layer 28: Mark, Take, Done, Forget. -/
namespace Go.Proofs.YtanaompgapiikaaGreatDoor
open Go.RowKit Go.Maps Go.Sort Go.Shelf
set_option linter.unusedVariables false

theorem Fr.setIs {b i : Nat} {a w : World} (h : Fr (Is b) a w) (v : Value) : Fr (Is b) a (w.setCell ⟨b, i, none⟩ v) := h.setCell (p := ⟨b, i, none⟩) (fun _ => rfl) v

/-- The slice (a', l') is the slice (a, l), or new since w. -/
def SON (w : World) (a : Option Addr) (l : List Int) (a' : Option Addr) (l' : List Int) : Prop := (a' = a ∧ l' = l) ∨ ∀ ad, a' = some ad → w.heap.size ≤ ad.block
/-- The slice lies in no block of S. -/
def Av (S : Nat → Prop) (a : Option Addr) (l : List Int) : Prop := ∀ ad, a = some ad → l ≠ [] → ¬ S ad.block
theorem Av.son {S : Nat → Prop} {w : World} {a : Option Addr} {l : List Int} {a' : Option Addr} {l' : List Int} (h : Av S a l) (hs : SON w a l a' l') (hS : ∀ b, S b → b < w.heap.size) : Av S a' l' := by
  rcases hs with ⟨rfl, rfl⟩ | hs
  · exact h
  · intro ad e _ hb
    have := hs ad e; have := hS _ hb; omega

theorem nodup_len : ∀ (m l : List Int), m.Nodup → (∀ x ∈ m, x ∈ l) → m.length ≤ l.length
  | [], _, _, _ => by simp
  | x :: m, l, hm, h => by
    have hm' := List.nodup_cons.1 hm
    have hx := h x (by simp)
    have h1 := nodup_len m (l.erase x) hm'.2 (fun y hy => (List.mem_erase_of_ne (by rintro rfl; exact hm'.1 hy)).2 (h y (by simp [hy])))
    rw [List.length_erase_of_mem hx] at h1
    have : 0 < l.length := List.length_pos_of_mem hx
    simp; omega

theorem Asc.nodup {l : List Int} (h : Asc l) : l.Nodup := List.Pairwise.imp (fun h => by omega) h

theorem with_len {m l : List Int} {n : Int} (h : Asc m) (hm : ∀ y, y ∈ m ↔ y ∈ l ∨ y = n) : m.length ≤ l.length + 1 := by
  have := nodup_len m (l ++ [n]) h.nodup (fun x hx => by rcases (hm x).1 hx with h | rfl <;> simp_all)
  simpa using this

/-- A queue of the reference, as a value: the lists l1, l2 ascend and hold the numbers of f, g. -/
structure RQ (w : World) (a1 : Option Addr) (c1 : Nat) (l1 : List Int) (a2 : Option Addr) (c2 : Nat) (l2 : List Int) (f g : Int → Bool) : Prop where
  d : Ints w a1 c1 l1
  b : Ints w a2 c2 l2
  ad : Asc l1
  ab : Asc l2
  md : ∀ x, x ∈ l1 ↔ f x = true
  mb : ∀ x, x ∈ l2 ↔ g x = true

theorem RQ.no {S : Nat → Prop} {w w' : World} {a1 : Option Addr} {c1 : Nat} {l1 : List Int} {a2 : Option Addr} {c2 : Nat} {l2 : List Int} {f g : Int → Bool} (h : RQ w a1 c1 l1 a2 c2 l2 f g) (hf : Fr S w w')
    (h1 : ∀ ad, a1 = some ad → l1 ≠ [] → ¬ S ad.block) (h2 : ∀ ad, a2 = some ad → l2 ≠ [] → ¬ S ad.block) : RQ w' a1 c1 l1 a2 c2 l2 f g :=
  ⟨h.d.fr hf h1, h.b.fr hf h2, h.ad, h.ab, h.md, h.mb⟩
theorem RQ.fr {w w' : World} {a1 : Option Addr} {c1 : Nat} {l1 : List Int} {a2 : Option Addr} {c2 : Nat} {l2 : List Int} {f g : Int → Bool} (h : RQ w a1 c1 l1 a2 c2 l2 f g) (hf : Fr No w w') : RQ w' a1 c1 l1 a2 c2 l2 f g :=
  h.no hf (fun _ _ _ => id) (fun _ _ _ => id)

theorem RQ.dec {w : World} {a1 : Option Addr} {c1 : Nat} {l1 : List Int} {a2 : Option Addr} {c2 : Nat} {l2 : List Int} {f g : Int → Bool} (h : RQ w a1 c1 l1 a2 c2 l2 f g) (x : Int) : decide (x ∈ l1) = f x := by
  rw [Bool.eq_iff_iff, decide_eq_true_iff]; exact h.md x
theorem RQ.dec2 {w : World} {a1 : Option Addr} {c1 : Nat} {l1 : List Int} {a2 : Option Addr} {c2 : Nat} {l2 : List Int} {f g : Int → Bool} (h : RQ w a1 c1 l1 a2 c2 l2 f g) (x : Int) : decide (x ∈ l2) = g x := by
  rw [Bool.eq_iff_iff, decide_eq_true_iff]; exact h.mb x

theorem wout_asc {l : List Int} (h : Asc l) (n : Int) : Asc (wout l n) := List.Pairwise.sublist List.filter_sublist h
theorem wout_mem {l : List Int} {f : Int → Bool} (h : ∀ x, x ∈ l ↔ f x = true) (n : Int) : ∀ x, x ∈ wout l n ↔ upd f n false x = true := by
  intro x
  unfold wout upd
  rw [List.mem_filter, h]
  by_cases hx : x = n <;> simp [hx]
theorem with_mem {l m : List Int} {f : Int → Bool} {n : Int} (h : ∀ x, x ∈ l ↔ f x = true) (hm : ∀ y, y ∈ m ↔ y ∈ l ∨ y = n) : ∀ x, x ∈ m ↔ upd f n true x = true := by
  intro x
  unfold upd
  rw [hm, h]
  by_cases hx : x = n <;> simp [hx]
theorem wout_le (l : List Int) (n : Int) : (wout l n).length ≤ l.length := List.length_filter_le _ _

set_option maxHeartbeats 1000000 in
theorem r_mark (a1 : Option Addr) (c1 : Nat) (l1 : List Int) (a2 : Option Addr) (c2 : Nat) (l2 : List Int) (f g : Int → Bool) (n : Int) (w : World) (h : RQ w a1 c1 l1 a2 c2 l2 f g) (hb : l1.length ≤ 1000000) (hn : (Lit.int .i64 n).wf = true) :
    Calls Tryz.prog 73 #[.agg #[.slice a1 l1.length c1, .slice a2 l2.length c2], .int .i64 n] w fun e w' => ∃ er a1' c1' l1' f',
      e = .returned (.tuple #[.agg #[.slice a1' l1'.length c1', .slice a2 l2.length c2], .int .i64 er]) ∧ MarkTo f n er f' ∧ RQ w' a1' c1' l1' a2 c2 l2 f' g ∧ l1'.length ≤ l1.length + 1 ∧
      SON w a1 l1 a1' l1' ∧ Fr No w w' := by
  rcases (by omega : n < 1 ∨ 1073741824 < n ∨ (1 ≤ n ∧ n ≤ 1073741824)) with hlo | hhi | ⟨h1, h2⟩
  · go_enter Tryz.func73, Tryz.ntmps73
    go_wp2
    refine bodyPost_ret (v := .tuple #[.agg #[.slice a1 l1.length c1, .slice a2 l2.length c2], .int .i64 280]) (by simp [results, Tryz.results73, go_sem]) rfl ?_
    refine (fun (hfr : Fr No w _) => ⟨280, a1, c1, l1, f, rfl, .inr ⟨rfl, .inl hlo, rfl⟩, h.fr hfr, by omega, (.inl ⟨rfl, rfl⟩), hfr⟩) ?_
    repeat (first | exact Fr.refl _ _ | refine Fr.alloc ?_ _ | refine Fr.setNew ?_ (by simp) _)
  · go_enter Tryz.func73, Tryz.ntmps73
    go_wp2
    refine bodyPost_ret (v := .tuple #[.agg #[.slice a1 l1.length c1, .slice a2 l2.length c2], .int .i64 280]) (by simp [results, Tryz.results73, go_sem]) rfl ?_
    refine (fun (hfr : Fr No w _) => ⟨280, a1, c1, l1, f, rfl, .inr ⟨rfl, .inr hhi, rfl⟩, h.fr hfr, by omega, (.inl ⟨rfl, rfl⟩), hfr⟩) ?_
    repeat (first | exact Fr.refl _ _ | refine Fr.alloc ?_ _ | refine Fr.setNew ?_ (by simp) _)
  · go_enter Tryz.func73, Tryz.ntmps73
    go_wp2_with fail
    have hf0 := ((Fr.refl No w).alloc (.cells #[.slice a1 l1.length c1, .slice a2 l2.length c2] 52)).alloc (.cells #[.slice none 0 0, .slice none 0 0] 52)
    have hA := block_alloc1 w (.cells #[.slice a1 l1.length c1, .slice a2 l2.length c2] 52) (.cells #[.slice none 0 0, .slice none 0 0] 52)
    have hB := block_alloc2 w (.cells #[.slice a1 l1.length c1, .slice a2 l2.length c2] 52) (.cells #[.slice none 0 0, .slice none 0 0] 52)
    refine (r_with a1 c1 l1 n _ (h.d.no hf0 (fun _ => id)) h.ad hb hn).mono ?_
    rintro e w1 ⟨a', c', m, rfl, hm, asc', mem', fre', hf1⟩
    have hA1 := hf1.heap hA id
    have hB1 := hf1.heap hB id
    have d0 : w1.cell? ⟨w.heap.size, 0, none⟩ = some (.slice a1 l1.length c1) := cell_of_block hA1 0
    have d1 : w1.cell? ⟨w.heap.size, 1, none⟩ = some (.slice a2 l2.length c2) := cell_of_block hA1 1
    have d2 : w1.cell? ⟨w.heap.size + 1, 0, none⟩ = some (.slice none 0 0) := cell_of_block hB1 0
    have d3 : w1.cell? ⟨w.heap.size + 1, 1, none⟩ = some (.slice none 0 0) := cell_of_block hB1 1
    have e0 : w1.frozen? ⟨w.heap.size, 0, none⟩ = false := free_of_block hA1 0
    have e2 : w1.frozen? ⟨w.heap.size + 1, 0, none⟩ = false := free_of_block hB1 0
    have e3 : w1.frozen? ⟨w.heap.size + 1, 1, none⟩ = false := free_of_block hB1 1
    go_wp2_with fail
    refine bodyPost_ret (v := .tuple #[.agg #[.slice a' m.length c', .slice a2 l2.length c2], .int .i64 0]) (by simp [results, Tryz.results73, go_sem, d2, d3]) rfl ?_
    have hf2 := hf0.step hf1 (fun _ _ h => h)
    have hfresh : ∀ ad, a' = some ad → w.heap.size + 2 ≤ ad.block := fun ad e => by have := fre' ad e; simp at this; omega
    have key : ∀ W, Fr (Two w.heap.size (w.heap.size + 1)) w1 W → RQ W a' c' m a2 c2 l2 (upd f n true) g ∧ Fr No w W := fun W hx => by
      have ht : Fr No w W := hf2.step hx (fun b hb h => by unfold Two at h; omega)
      exact ⟨⟨hm.fr hx (fun ad e _ hS => by have := hfresh ad e; unfold Two at hS; omega), h.b.no ht (fun _ => id), asc', h.ab, with_mem h.md mem', h.mb⟩, ht⟩
    refine (fun hx => ⟨0, a', c', m, _, rfl, .inl ⟨rfl, h1, h2, rfl⟩, (key _ hx).1, with_len asc' mem', (.inr fun ad e => by have := hfresh ad e; omega), (key _ hx).2⟩) ?_
    repeat (first | exact Fr.refl _ _ | refine Fr.setCell ?_ (fun _ => by simp [Two]) _)

/-- The two blocks that a function of the reference makes: its parameter and its result. -/
theorem two_boxes (w : World) (a1 : Option Addr) (n1 c1 : Nat) (a2 : Option Addr) (n2 c2 : Nat) :
    ∃ W, W = (w.alloc (.cells #[.slice a1 n1 c1, .slice a2 n2 c2] 52)).alloc (.cells #[.slice none 0 0, .slice none 0 0] 52) ∧ Fr No w W ∧ W.heap.size = w.heap.size + 2 ∧
      W.heap[w.heap.size]? = some (.cells #[.slice a1 n1 c1, .slice a2 n2 c2] 52) ∧ W.heap[w.heap.size + 1]? = some (.cells #[.slice none 0 0, .slice none 0 0] 52) :=
  ⟨_, rfl, ((Fr.refl No w).alloc _).alloc _, by simp, block_alloc1 _ _ _, block_alloc2 _ _ _⟩

structure Boxes (w W : World) (a1 : Option Addr) (n1 c1 : Nat) (a2 : Option Addr) (n2 c2 : Nat) : Prop where
  fr : Fr No w W
  size : w.heap.size + 2 ≤ W.heap.size
  p : W.heap[w.heap.size]? = some (.cells #[.slice a1 n1 c1, .slice a2 n2 c2] 52)
  r : W.heap[w.heap.size + 1]? = some (.cells #[.slice none 0 0, .slice none 0 0] 52)
theorem Boxes.mk' (w : World) (a1 : Option Addr) (n1 c1 : Nat) (a2 : Option Addr) (n2 c2 : Nat) : Boxes w ((w.alloc (.cells #[.slice a1 n1 c1, .slice a2 n2 c2] 52)).alloc (.cells #[.slice none 0 0, .slice none 0 0] 52)) a1 n1 c1 a2 n2 c2 :=
  ⟨((Fr.refl No w).alloc _).alloc _, by simp, block_alloc1 _ _ _, block_alloc2 _ _ _⟩
theorem Boxes.step {w W W' : World} {a1 : Option Addr} {n1 c1 : Nat} {a2 : Option Addr} {n2 c2 : Nat} (h : Boxes w W a1 n1 c1 a2 n2 c2) (hf : Fr No W W') : Boxes w W' a1 n1 c1 a2 n2 c2 :=
  ⟨h.fr.step hf (fun _ _ h => h), Nat.le_trans h.size hf.size, hf.heap h.p id, hf.heap h.r id⟩
theorem Boxes.d0 {w W : World} {a1 : Option Addr} {n1 c1 : Nat} {a2 : Option Addr} {n2 c2 : Nat} (h : Boxes w W a1 n1 c1 a2 n2 c2) : W.cell? ⟨w.heap.size, 0, none⟩ = some (.slice a1 n1 c1) := cell_of_block h.p 0
theorem Boxes.d1 {w W : World} {a1 : Option Addr} {n1 c1 : Nat} {a2 : Option Addr} {n2 c2 : Nat} (h : Boxes w W a1 n1 c1 a2 n2 c2) : W.cell? ⟨w.heap.size, 1, none⟩ = some (.slice a2 n2 c2) := cell_of_block h.p 1
theorem Boxes.r0 {w W : World} {a1 : Option Addr} {n1 c1 : Nat} {a2 : Option Addr} {n2 c2 : Nat} (h : Boxes w W a1 n1 c1 a2 n2 c2) : W.cell? ⟨w.heap.size + 1, 0, none⟩ = some (.slice none 0 0) := cell_of_block h.r 0
theorem Boxes.r1 {w W : World} {a1 : Option Addr} {n1 c1 : Nat} {a2 : Option Addr} {n2 c2 : Nat} (h : Boxes w W a1 n1 c1 a2 n2 c2) : W.cell? ⟨w.heap.size + 1, 1, none⟩ = some (.slice none 0 0) := cell_of_block h.r 1
theorem Boxes.f0 {w W : World} {a1 : Option Addr} {n1 c1 : Nat} {a2 : Option Addr} {n2 c2 : Nat} (h : Boxes w W a1 n1 c1 a2 n2 c2) : W.frozen? ⟨w.heap.size + 1, 0, none⟩ = false := free_of_block h.r 0
theorem Boxes.f1 {w W : World} {a1 : Option Addr} {n1 c1 : Nat} {a2 : Option Addr} {n2 c2 : Nat} (h : Boxes w W a1 n1 c1 a2 n2 c2) : W.frozen? ⟨w.heap.size + 1, 1, none⟩ = false := free_of_block h.r 1

set_option maxHeartbeats 2000000 in
theorem r_take (a1 : Option Addr) (c1 : Nat) (l1 : List Int) (a2 : Option Addr) (c2 : Nat) (l2 : List Int) (f g : Int → Bool) (n : Int) (w : World) (h : RQ w a1 c1 l1 a2 c2 l2 f g) (hb1 : l1.length ≤ 1000000) (hb2 : l2.length ≤ 1000000) (hn : (Lit.int .i64 n).wf = true) :
    Calls Tryz.prog 74 #[.agg #[.slice a1 l1.length c1, .slice a2 l2.length c2], .int .i64 n] w fun e w' => ∃ er a1' c1' l1' a2' c2' l2' f' g',
      e = .returned (.tuple #[.agg #[.slice a1' l1'.length c1', .slice a2' l2'.length c2'], .int .i64 er]) ∧ TakeTo f g n er f' g' ∧ RQ w' a1' c1' l1' a2' c2' l2' f' g' ∧ l1'.length ≤ l1.length ∧ l2'.length ≤ l2.length + 1 ∧
      SON w a1 l1 a1' l1' ∧ SON w a2 l2 a2' l2' ∧ Fr No w w' := by
  have hB0 := Boxes.mk' w a1 l1.length c1 a2 l2.length c2
  cases hf : f n
  · go_enter Tryz.func74, Tryz.ntmps74
    go_wp2_with fail
    refine (ints_in a1 c1 l1 n _ (h.d.no hB0.fr (fun _ => id))).mono ?_
    rintro e w1 ⟨rfl, rfl⟩
    rw [h.dec n, hf]
    go_wp2_with fail
    refine bodyPost_ret (v := .tuple #[.agg #[.slice a1 l1.length c1, .slice a2 l2.length c2], .int .i64 281]) (by simp [results, Tryz.results74, go_sem]) rfl ?_
    refine (fun (hfr : Fr No w _) => ⟨281, a1, c1, l1, a2, c2, l2, f, g, rfl, .inr (.inl ⟨rfl, hf, rfl, rfl⟩), h.fr hfr, by omega, by omega, (.inl ⟨rfl, rfl⟩), (.inl ⟨rfl, rfl⟩), hfr⟩) ?_
    repeat (first | exact Fr.refl _ _ | refine Fr.alloc ?_ _ | refine Fr.setNew ?_ (by simp) _)
  cases hg : g n
  · go_enter Tryz.func74, Tryz.ntmps74
    go_wp2_with fail
    refine (ints_in a1 c1 l1 n _ (h.d.no hB0.fr (fun _ => id))).mono ?_
    rintro e w1 ⟨rfl, rfl⟩
    rw [h.dec n, hf]
    go_wp2_with fail
    refine (ints_in a2 c2 l2 n _ (h.b.no hB0.fr (fun _ => id))).mono ?_
    rintro e w1 ⟨rfl, rfl⟩
    rw [h.dec2 n, hg]
    go_wp2_with fail
    refine region_sig (Is (w.heap.size + 1)) [(0, false), (1, false), (2, false), (4, false), (5, false), (6, false), (3, true), (7, true), (8, false), (9, true), (10, false)] (by kernel_rfl) (by kernel_rfl) (fun w0 hf0 => ?_)
    have hB1 := hB0.step hf0
    have d0 : ∀ g : Gr (Is (w.heap.size + 1)) w0, g.W.cell? ⟨w.heap.size, 0, none⟩ = some (.slice a1 l1.length c1) := fun g => g.fr.cell hB1.d0 (by unfold Is; simp)
    have d1 : ∀ g : Gr (Is (w.heap.size + 1)) w0, g.W.cell? ⟨w.heap.size, 1, none⟩ = some (.slice a2 l2.length c2) := fun g => g.fr.cell hB1.d1 (by unfold Is; simp)
    repeat (apply sig_q; exact rfl; exact rfl; exact rfl; intro K hK; go_big_quiet_op; go_big_quiet_on)
    apply sig_m
    exact rfl
    go_wp2_with fail
    refine (r_without a1 c1 l1 n _ (h.d.no hB1.fr (fun _ => id)) hb1).mono ?_
    rintro e w1 ⟨a1', c1', rfl, hm1, fre1, hf1⟩
    go_wp2_with fail
    refine OnlyN.mk ⟨hf1.mono (fun _ _ h => h.elim), ?_⟩
    have hB2 := hB1.step hf1
    clear d0 d1
    apply sig_m
    exact rfl
    go_wp2_with fail
    refine (r_with a2 c2 l2 n _ (h.b.no hB2.fr (fun _ => id)) h.ab hb2 hn).mono ?_
    rintro e w2 ⟨a2', c2', m, rfl, hm2, asc2, mem2, fre2, hf2⟩
    go_wp2_with fail
    refine OnlyN.mk ⟨hf2.mono (fun _ _ h => h.elim), ?_⟩
    have hB3 := hB2.step hf2
    have r0 := hB3.r0
    have r1 := hB3.r1
    have f0 := hB3.f0
    have f1 := hB3.f1
    repeat (apply sig_q; exact rfl; exact rfl; exact rfl; intro K hK; go_big_quiet_op; go_big_quiet_on)
    apply sig_m
    exact rfl
    go_wp2_with fail
    refine OnlyN.mk ⟨((Fr.refl _ _).setIs _).setIs _, ?_⟩
    repeat (apply sig_q; exact rfl; exact rfl; exact rfl; intro K hK; go_big_quiet_op; go_big_quiet_on)
    refine sig_end ?_
    go_wp2_with fail
    refine bodyPost_ret (v := .tuple #[.agg #[.slice a1' (wout l1 n).length c1', .slice a2' m.length c2'], .int .i64 0]) (by simp [results, Tryz.results74, go_sem, r0, r1]) rfl ?_
    have hfresh1 : ∀ ad, a1' = some ad → w.heap.size + 2 ≤ ad.block := fun ad e => Nat.le_trans hB1.size (fre1 ad e)
    have hfresh2 : ∀ ad, a2' = some ad → w.heap.size + 2 ≤ ad.block := fun ad e => Nat.le_trans hB2.size (fre2 ad e)
    have key : ∀ W, Fr (Is (w.heap.size + 1)) w2 W → RQ W a1' c1' (wout l1 n) a2' c2' m (upd f n false) (upd g n true) ∧ Fr No w W := fun W hx =>
      ⟨⟨(hm1.no hf2 (fun _ => id)).fr hx (fun ad e _ hS => by have := hfresh1 ad e; unfold Is at hS; omega), hm2.fr hx (fun ad e _ hS => by have := hfresh2 ad e; unfold Is at hS; omega), wout_asc h.ad n, asc2, wout_mem h.md n, with_mem h.mb mem2⟩,
       hB3.fr.step hx (fun b hb h => by unfold Is at h; omega)⟩
    refine (fun hx => ⟨0, a1', c1', _, a2', c2', m, _, _, rfl, .inl ⟨rfl, hf, hg, rfl, rfl⟩, (key _ hx).1, wout_le _ _, with_len asc2 mem2, (.inr fun ad e => by have := hfresh1 ad e; omega), (.inr fun ad e => by have := hfresh2 ad e; omega), (key _ hx).2⟩) ?_
    exact ((Fr.refl _ _).setIs _).setIs _
  · go_enter Tryz.func74, Tryz.ntmps74
    go_wp2_with fail
    refine (ints_in a1 c1 l1 n _ (h.d.no hB0.fr (fun _ => id))).mono ?_
    rintro e w1 ⟨rfl, rfl⟩
    rw [h.dec n, hf]
    go_wp2_with fail
    refine (ints_in a2 c2 l2 n _ (h.b.no hB0.fr (fun _ => id))).mono ?_
    rintro e w1 ⟨rfl, rfl⟩
    rw [h.dec2 n, hg]
    go_wp2_with fail
    refine bodyPost_ret (v := .tuple #[.agg #[.slice a1 l1.length c1, .slice a2 l2.length c2], .int .i64 282]) (by simp [results, Tryz.results74, go_sem]) rfl ?_
    refine (fun (hfr : Fr No w _) => ⟨282, a1, c1, l1, a2, c2, l2, f, g, rfl, .inr (.inr ⟨rfl, hf, hg, rfl, rfl⟩), h.fr hfr, by omega, by omega, (.inl ⟨rfl, rfl⟩), (.inl ⟨rfl, rfl⟩), hfr⟩) ?_
    repeat (first | exact Fr.refl _ _ | refine Fr.alloc ?_ _ | refine Fr.setNew ?_ (by simp) _)

set_option maxHeartbeats 2000000 in
theorem r_done (a1 : Option Addr) (c1 : Nat) (l1 : List Int) (a2 : Option Addr) (c2 : Nat) (l2 : List Int) (f g : Int → Bool) (n : Int) (w : World) (h : RQ w a1 c1 l1 a2 c2 l2 f g) (hb1 : l1.length ≤ 1000000) (hb2 : l2.length ≤ 1000000) :
    Calls Tryz.prog 75 #[.agg #[.slice a1 l1.length c1, .slice a2 l2.length c2], .int .i64 n] w fun e w' => ∃ b er a2' c2' l2' g',
      e = .returned (.tuple #[.agg #[.slice a1 l1.length c1, .slice a2' l2'.length c2'], .bool b, .int .i64 er]) ∧ DoneTo f g n b er g' ∧ RQ w' a1 c1 l1 a2' c2' l2' f g' ∧ l2'.length ≤ l2.length ∧
      SON w a2 l2 a2' l2' ∧ Fr No w w' := by
  have hB0 := Boxes.mk' w a1 l1.length c1 a2 l2.length c2
  cases hg : g n
  · go_enter Tryz.func75, Tryz.ntmps75
    go_wp2_with fail
    refine (ints_in a2 c2 l2 n _ (h.b.no hB0.fr (fun _ => id))).mono ?_
    rintro e w1 ⟨rfl, rfl⟩
    rw [h.dec2 n, hg]
    go_wp2_with fail
    refine bodyPost_ret (v := .tuple #[.agg #[.slice a1 l1.length c1, .slice a2 l2.length c2], .bool false, .int .i64 283]) (by simp [results, Tryz.results75, go_sem]) rfl ?_
    refine (fun (hfr : Fr No w _) => ⟨false, 283, a2, c2, l2, g, rfl, .inr ⟨rfl, hg, rfl, rfl⟩, h.fr hfr, by omega, (.inl ⟨rfl, rfl⟩), hfr⟩) ?_
    repeat (first | exact Fr.refl _ _ | refine Fr.alloc ?_ _ | refine Fr.setNew ?_ (by simp) _)
  · go_enter Tryz.func75, Tryz.ntmps75
    go_wp2_with fail
    refine (ints_in a2 c2 l2 n _ (h.b.no hB0.fr (fun _ => id))).mono ?_
    rintro e w1 ⟨rfl, rfl⟩
    rw [h.dec2 n, hg]
    go_wp2_with fail
    refine region_sig (Is (w.heap.size + 1)) [(0, false), (1, false), (2, false), (3, false), (4, false), (7, false), (8, false), (9, false), (5, true), (6, false), (10, true), (11, false), (12, true), (13, false), (14, false)] (by kernel_rfl) (by kernel_rfl) (fun w0 hf0 => ?_)
    have hB1 := hB0.step hf0
    have d0 : ∀ g : Gr (Is (w.heap.size + 1)) w0, g.W.cell? ⟨w.heap.size, 0, none⟩ = some (.slice a1 l1.length c1) := fun g => g.fr.cell hB1.d0 (by unfold Is; simp)
    have d1 : ∀ g : Gr (Is (w.heap.size + 1)) w0, g.W.cell? ⟨w.heap.size, 1, none⟩ = some (.slice a2 l2.length c2) := fun g => g.fr.cell hB1.d1 (by unfold Is; simp)
    repeat (apply sig_q; exact rfl; exact rfl; exact rfl; intro K hK; go_big_quiet_op; go_big_quiet_on)
    apply sig_m
    exact rfl
    go_wp2_with fail
    refine (r_without a2 c2 l2 n _ (h.b.no hB1.fr (fun _ => id)) hb2).mono ?_
    rintro e w1 ⟨a2', c2', rfl, hm1, fre1, hf1⟩
    go_wp2_with fail
    refine OnlyN.mk ⟨hf1.mono (fun _ _ h => h.elim), ?_⟩
    have hB2 := hB1.step hf1
    clear d0 d1
    repeat (apply sig_q; exact rfl; exact rfl; exact rfl; intro K hK; go_big_quiet_op; go_big_quiet_on)
    apply sig_m
    exact rfl
    go_wp2_with fail
    refine (ints_in a1 c1 l1 n _ (h.d.no hB2.fr (fun _ => id))).mono ?_
    rintro e w2 ⟨rfl, rfl⟩
    rw [h.dec n]
    go_wp2_with fail
    refine OnlyN.mk ⟨Fr.refl _ _, ?_⟩
    have r0 := hB2.r0
    have r1 := hB2.r1
    have f0 := hB2.f0
    have f1 := hB2.f1
    repeat (apply sig_q; exact rfl; exact rfl; exact rfl; intro K hK; go_big_quiet_op; go_big_quiet_on)
    apply sig_m
    exact rfl
    go_wp2_with fail
    refine OnlyN.mk ⟨((Fr.refl _ _).setIs _).setIs _, ?_⟩
    repeat (apply sig_q; exact rfl; exact rfl; exact rfl; intro K hK; go_big_quiet_op; go_big_quiet_on)
    refine sig_end ?_
    go_wp2_with fail
    refine bodyPost_ret (v := .tuple #[.agg #[.slice a1 l1.length c1, .slice a2' (wout l2 n).length c2'], .bool (!f n), .int .i64 0]) (by simp [results, Tryz.results75, go_sem, r0, r1]) rfl ?_
    have hfresh : ∀ ad, a2' = some ad → w.heap.size + 2 ≤ ad.block := fun ad e => Nat.le_trans hB1.size (fre1 ad e)
    have key : ∀ W, Fr (Is (w.heap.size + 1)) w1 W → RQ W a1 c1 l1 a2' c2' (wout l2 n) f (upd g n false) ∧ Fr No w W := fun W hx => by
      have ht : Fr No w W := hB2.fr.step hx (fun b hb h => by unfold Is at h; omega)
      exact ⟨⟨h.d.no ht (fun _ => id), hm1.fr hx (fun ad e _ hS => by have := hfresh ad e; unfold Is at hS; omega), h.ad, wout_asc h.ab n, h.md, wout_mem h.mb n⟩, ht⟩
    refine (fun hx => ⟨!f n, 0, a2', c2', _, _, rfl, .inl ⟨rfl, hg, rfl, rfl⟩, (key _ hx).1, wout_le _ _, (.inr fun ad e => by have := hfresh ad e; omega), (key _ hx).2⟩) ?_
    exact ((Fr.refl _ _).setIs _).setIs _

set_option maxHeartbeats 2000000 in
theorem r_forget (a1 : Option Addr) (c1 : Nat) (l1 : List Int) (a2 : Option Addr) (c2 : Nat) (l2 : List Int) (f g : Int → Bool) (n : Int) (w : World) (h : RQ w a1 c1 l1 a2 c2 l2 f g) (hb1 : l1.length ≤ 1000000) (hb2 : l2.length ≤ 1000000) :
    Calls Tryz.prog 77 #[.agg #[.slice a1 l1.length c1, .slice a2 l2.length c2], .int .i64 n] w fun e w' => ∃ a1' c1' l1' a2' c2' l2',
      e = .returned (.agg #[.slice a1' l1'.length c1', .slice a2' l2'.length c2']) ∧ RQ w' a1' c1' l1' a2' c2' l2' (upd f n false) (upd g n false) ∧ l1'.length ≤ l1.length ∧ l2'.length ≤ l2.length ∧
      (∀ ad, a1' = some ad → w.heap.size ≤ ad.block) ∧ (∀ ad, a2' = some ad → w.heap.size ≤ ad.block) ∧ Fr No w w' := by
  have hB0 := Boxes.mk' w a1 l1.length c1 a2 l2.length c2
  go_enter Tryz.func77, Tryz.ntmps77
  go_wp2_with fail
  refine region_sig (Is (w.heap.size + 1)) [(0, false), (1, false), (2, false), (4, false), (5, false), (6, false), (3, true), (7, true), (8, false), (9, true)] (by kernel_rfl) (by kernel_rfl) (fun w0 hf0 => ?_)
  have hB1 := hB0.step hf0
  have d0 : ∀ g : Gr (Is (w.heap.size + 1)) w0, g.W.cell? ⟨w.heap.size, 0, none⟩ = some (.slice a1 l1.length c1) := fun g => g.fr.cell hB1.d0 (by unfold Is; simp)
  have d1 : ∀ g : Gr (Is (w.heap.size + 1)) w0, g.W.cell? ⟨w.heap.size, 1, none⟩ = some (.slice a2 l2.length c2) := fun g => g.fr.cell hB1.d1 (by unfold Is; simp)
  repeat (apply sig_q; exact rfl; exact rfl; exact rfl; intro K hK; go_big_quiet_op; go_big_quiet_on)
  apply sig_m
  exact rfl
  go_wp2_with fail
  refine (r_without a1 c1 l1 n _ (h.d.no hB1.fr (fun _ => id)) hb1).mono ?_
  rintro e w1 ⟨a1', c1', rfl, hm1, fre1, hf1⟩
  go_wp2_with fail
  refine OnlyN.mk ⟨hf1.mono (fun _ _ h => h.elim), ?_⟩
  have hB2 := hB1.step hf1
  clear d0 d1
  apply sig_m
  exact rfl
  go_wp2_with fail
  refine (r_without a2 c2 l2 n _ (h.b.no hB2.fr (fun _ => id)) hb2).mono ?_
  rintro e w2 ⟨a2', c2', rfl, hm2, fre2, hf2⟩
  go_wp2_with fail
  refine OnlyN.mk ⟨hf2.mono (fun _ _ h => h.elim), ?_⟩
  have hB3 := hB2.step hf2
  have r0 := hB3.r0
  have r1 := hB3.r1
  have f0 := hB3.f0
  have f1 := hB3.f1
  repeat (apply sig_q; exact rfl; exact rfl; exact rfl; intro K hK; go_big_quiet_op; go_big_quiet_on)
  apply sig_m
  exact rfl
  go_wp2_with fail
  refine OnlyN.mk ⟨((Fr.refl _ _).setIs _).setIs _, ?_⟩
  refine sig_end ?_
  go_wp2_with fail
  refine bodyPost_ret (v := .agg #[.slice a1' (wout l1 n).length c1', .slice a2' (wout l2 n).length c2']) (by simp [results, Tryz.results77, go_sem, r0, r1]) rfl ?_
  have hfresh1 : ∀ ad, a1' = some ad → w.heap.size + 2 ≤ ad.block := fun ad e => Nat.le_trans hB1.size (fre1 ad e)
  have hfresh2 : ∀ ad, a2' = some ad → w.heap.size + 2 ≤ ad.block := fun ad e => Nat.le_trans hB2.size (fre2 ad e)
  have key : ∀ W, Fr (Is (w.heap.size + 1)) w2 W → RQ W a1' c1' (wout l1 n) a2' c2' (wout l2 n) (upd f n false) (upd g n false) ∧ Fr No w W := fun W hx =>
    ⟨⟨(hm1.no hf2 (fun _ => id)).fr hx (fun ad e _ hS => by have := hfresh1 ad e; unfold Is at hS; omega), hm2.fr hx (fun ad e _ hS => by have := hfresh2 ad e; unfold Is at hS; omega), wout_asc h.ad n, wout_asc h.ab n, wout_mem h.md n, wout_mem h.mb n⟩,
     hB3.fr.step hx (fun b hb h => by unfold Is at h; omega)⟩
  refine (fun hx => ⟨a1', c1', _, a2', c2', _, rfl, (key _ hx).1, wout_le _ _, wout_le _ _, fun ad e => (by have := hfresh1 ad e; omega), fun ad e => (by have := hfresh2 ad e; omega), (key _ hx).2⟩) ?_
  exact ((Fr.refl _ _).setIs _).setIs _
end Go.Proofs.YtanaompgapiikaaGreatDoor
/- The laws' 'call': a call in both queues returns the same. -/
namespace Go.Proofs.YtanaompgapiikaaGreatDoor
open Go.RowKit Go.Maps Go.Sort Go.Shelf
set_option linter.unusedVariables false

theorem MarkTo.det {f : Int → Bool} {x er er' : Int} {f' f'' : Int → Bool} (h : MarkTo f x er f') (h' : MarkTo f x er' f'') : er = er' ∧ f' = f'' := by
  rcases h with ⟨rfl, h1, h2, rfl⟩ | ⟨rfl, h1, rfl⟩ <;> rcases h' with ⟨rfl, h3, h4, rfl⟩ | ⟨rfl, h3, rfl⟩ <;> first | exact ⟨rfl, rfl⟩ | omega
theorem TakeTo.det {f g : Int → Bool} {x er er' : Int} {f' f'' g' g'' : Int → Bool} (h : TakeTo f g x er f' g') (h' : TakeTo f g x er' f'' g'') : er = er' ∧ f' = f'' ∧ g' = g'' := by
  rcases h with ⟨rfl, h1, h2, rfl, rfl⟩ | ⟨rfl, h1, rfl, rfl⟩ | ⟨rfl, h1, h2, rfl, rfl⟩ <;> rcases h' with ⟨rfl, h3, h4, rfl, rfl⟩ | ⟨rfl, h3, rfl, rfl⟩ | ⟨rfl, h3, h4, rfl, rfl⟩ <;> first | exact ⟨rfl, rfl, rfl⟩ | simp_all
theorem DoneTo.det {f g : Int → Bool} {x er er' : Int} {b b' : Bool} {g' g'' : Int → Bool} (h : DoneTo f g x b er g') (h' : DoneTo f g x b' er' g'') : er = er' ∧ b = b' ∧ g' = g'' := by
  rcases h with ⟨rfl, h1, rfl, rfl⟩ | ⟨rfl, h1, rfl, rfl⟩ <;> rcases h' with ⟨rfl, h3, rfl, rfl⟩ | ⟨rfl, h3, rfl, rfl⟩ <;> first | exact ⟨rfl, rfl, rfl⟩ | simp_all

/-- The blocks that 'call' writes: the tape and the queue's two sets. -/
def Tri (tb b1 b2 : Nat) : Nat → Prop := fun k => k = tb ∨ k = b1 ∨ k = b2

/-- Both queues, the tape, and all that keeps them apart. -/
structure Both (w : World) (B tb k qb b1 b2 : Nat) (a1 : Option Addr) (c1 : Nat) (l1 : List Int) (a2 : Option Addr) (c2 : Nat) (l2 : List Int) (f g : Int → Bool) (N : Nat) : Prop where
  tape : Tape w B tb k
  que : Que w qb b1 b2 f g N
  rq : RQ w a1 c1 l1 a2 c2 l2 f g
  v1 : Av (Tri tb b1 b2) a1 l1
  v2 : Av (Tri tb b1 b2) a2 l2
  t0 : tb ≠ qb
  t1 : tb ≠ b1
  t2 : tb ≠ b2
  B1 : B ≤ b1
  B2 : B ≤ b2

theorem Both.tri {w : World} {B tb k qb b1 b2 : Nat} {a1 : Option Addr} {c1 : Nat} {l1 : List Int} {a2 : Option Addr} {c2 : Nat} {l2 : List Int} {f g : Int → Bool} {N : Nat} (h : Both w B tb k qb b1 b2 a1 c1 l1 a2 c2 l2 f g N) :
    ∀ b, Tri tb b1 b2 b → b < w.heap.size ∧ B ≤ b := by
  have e0 := h.tape.lt; have e1 := h.que.dirty.lt; have e2 := h.que.busy.lt; have e3 := h.tape.le; have e4 := h.B1; have e5 := h.B2
  intro b hb; unfold Tri at hb; omega

/-- A step that reads the tape. -/
theorem Both.next {w w' : World} {B tb k qb b1 b2 : Nat} {a1 : Option Addr} {c1 : Nat} {l1 : List Int} {a2 : Option Addr} {c2 : Nat} {l2 : List Int} {f g : Int → Bool} {N : Nat} (h : Both w B tb k qb b1 b2 a1 c1 l1 a2 c2 l2 f g N)
    (ht : Tape w' B tb (k + 1)) (hf : Fr (Is tb) w w') : Both w' B tb (k + 1) qb b1 b2 a1 c1 l1 a2 c2 l2 f g N :=
  ⟨ht, h.que.fr hf (Ne.symm h.t0) (Ne.symm h.t1) (Ne.symm h.t2), h.rq.no hf (fun ad e hne hS => h.v1 ad e hne (.inl hS)) (fun ad e hne hS => h.v2 ad e hne (.inl hS)), h.v1, h.v2, h.t0, h.t1, h.t2, h.B1, h.B2⟩
/-- A step that only makes memory. -/
theorem Both.no {w w' : World} {B tb k qb b1 b2 : Nat} {a1 : Option Addr} {c1 : Nat} {l1 : List Int} {a2 : Option Addr} {c2 : Nat} {l2 : List Int} {f g : Int → Bool} {N : Nat} (h : Both w B tb k qb b1 b2 a1 c1 l1 a2 c2 l2 f g N)
    (hf : Fr No w w') : Both w' B tb k qb b1 b2 a1 c1 l1 a2 c2 l2 f g N :=
  ⟨h.tape.fr hf (fun _ _ => id) id, h.que.fr hf id id id, h.rq.fr hf, h.v1, h.v2, h.t0, h.t1, h.t2, h.B1, h.B2⟩

/-- Behind a method of the queue, and behind the reference's function of the same name. -/
theorem Both.old {w w1 : World} {B tb k qb b1 b2 : Nat} {a1 : Option Addr} {c1 : Nat} {l1 : List Int} {a2 : Option Addr} {c2 : Nat} {l2 : List Int} {f g : Int → Bool} {N : Nat} (h : Both w B tb k qb b1 b2 a1 c1 l1 a2 c2 l2 f g N)
    (hf : Fr (Two b1 b2) w w1) : RQ w1 a1 c1 l1 a2 c2 l2 f g :=
  h.rq.no hf (fun ad e hne hS => h.v1 ad e hne (.inr hS)) (fun ad e hne hS => h.v2 ad e hne (.inr hS))
theorem Both.after {w w1 W : World} {B tb k qb b1 b2 : Nat} {a1 : Option Addr} {c1 : Nat} {l1 : List Int} {a2 : Option Addr} {c2 : Nat} {l2 : List Int} {f g : Int → Bool} {N : Nat} (h : Both w B tb k qb b1 b2 a1 c1 l1 a2 c2 l2 f g N)
    {f' g' : Int → Bool} {N' : Nat} (hq : Que w1 qb b1 b2 f' g' N') (hf : Fr (Two b1 b2) w w1) {a1' : Option Addr} {c1' : Nat} {l1' : List Int} {a2' : Option Addr} {c2' : Nat} {l2' : List Int}
    (hr : RQ W a1' c1' l1' a2' c2' l2' f' g') (s1 : SON w1 a1 l1 a1' l1') (s2 : SON w1 a2 l2 a2' l2') (hx : Fr No w1 W) : Both W B tb k qb b1 b2 a1' c1' l1' a2' c2' l2' f' g' N' :=
  ⟨(h.tape.fr hf (fun b hb hS => by have := h.B1; have := h.B2; unfold Two at hS; omega) (fun hS => by have := h.t1; have := h.t2; unfold Two at hS; omega)).fr hx (fun _ _ => id) id,
   hq.fr hx id id id, hr, h.v1.son s1 (fun b hb => Nat.lt_of_lt_of_le (h.tri b hb).1 hf.size), h.v2.son s2 (fun b hb => Nat.lt_of_lt_of_le (h.tri b hb).1 hf.size), h.t0, h.t1, h.t2, h.B1, h.B2⟩

theorem SON.refl (w : World) (a : Option Addr) (l : List Int) : SON w a l a l := .inl ⟨rfl, rfl⟩

/-- The parameter's block and the result's block of 'call'. -/
structure Bx (n : Nat) (W : World) (a1 : Option Addr) (n1 c1 : Nat) (a2 : Option Addr) (n2 c2 : Nat) : Prop where
  size : n + 2 ≤ W.heap.size
  p : W.heap[n]? = some (.cells #[.slice a1 n1 c1, .slice a2 n2 c2] 52)
  r : W.heap[n + 1]? = some (.cells #[.slice none 0 0, .slice none 0 0] 52)
theorem Bx.step {S : Nat → Prop} {n : Nat} {W W' : World} {a1 : Option Addr} {n1 c1 : Nat} {a2 : Option Addr} {n2 c2 : Nat} (h : Bx n W a1 n1 c1 a2 n2 c2) (hf : Fr S W W') (hS : ∀ b, S b → b < n) : Bx n W' a1 n1 c1 a2 n2 c2 :=
  ⟨Nat.le_trans h.size hf.size, hf.heap h.p (fun hs => by have := hS _ hs; omega), hf.heap h.r (fun hs => by have := hS _ hs; omega)⟩
theorem Bx.d0 {n : Nat} {W : World} {a1 : Option Addr} {n1 c1 : Nat} {a2 : Option Addr} {n2 c2 : Nat} (h : Bx n W a1 n1 c1 a2 n2 c2) : W.cell? ⟨n, 0, none⟩ = some (.slice a1 n1 c1) := cell_of_block h.p 0
theorem Bx.d1 {n : Nat} {W : World} {a1 : Option Addr} {n1 c1 : Nat} {a2 : Option Addr} {n2 c2 : Nat} (h : Bx n W a1 n1 c1 a2 n2 c2) : W.cell? ⟨n, 1, none⟩ = some (.slice a2 n2 c2) := cell_of_block h.p 1
theorem Bx.r0 {n : Nat} {W : World} {a1 : Option Addr} {n1 c1 : Nat} {a2 : Option Addr} {n2 c2 : Nat} (h : Bx n W a1 n1 c1 a2 n2 c2) : W.cell? ⟨n + 1, 0, none⟩ = some (.slice none 0 0) := cell_of_block h.r 0
theorem Bx.r1 {n : Nat} {W : World} {a1 : Option Addr} {n1 c1 : Nat} {a2 : Option Addr} {n2 c2 : Nat} (h : Bx n W a1 n1 c1 a2 n2 c2) : W.cell? ⟨n + 1, 1, none⟩ = some (.slice none 0 0) := cell_of_block h.r 1
theorem Bx.f0 {n : Nat} {W : World} {a1 : Option Addr} {n1 c1 : Nat} {a2 : Option Addr} {n2 c2 : Nat} (h : Bx n W a1 n1 c1 a2 n2 c2) : W.frozen? ⟨n + 1, 0, none⟩ = false := free_of_block h.r 0
theorem Bx.f1 {n : Nat} {W : World} {a1 : Option Addr} {n1 c1 : Nat} {a2 : Option Addr} {n2 c2 : Nat} (h : Bx n W a1 n1 c1 a2 n2 c2) : W.frozen? ⟨n + 1, 1, none⟩ = false := free_of_block h.r 1

theorem res_block {W : World} {n : Nat} {x y : Value} {T : TypeId} (h : W.heap[n]? = some (.cells #[x, y] T (0, 0))) (v0 v1 : Value) : ((W.setCell ⟨n, 0, none⟩ v0).setCell ⟨n, 1, none⟩ v1).heap[n]? = some (.cells #[v0, v1] T (0, 0)) := by
  rw [block_setCell (block_setCell h 0 v0) 1 v1]; rfl
theorem res0 {W : World} {n : Nat} {x y : Value} {T : TypeId} (h : W.heap[n]? = some (.cells #[x, y] T (0, 0))) (v0 v1 : Value) (o : Obj) : (((W.setCell ⟨n, 0, none⟩ v0).setCell ⟨n, 1, none⟩ v1).alloc o).cell? ⟨n, 0, none⟩ = some v0 := by
  have h1 := res_block h v0 v1
  exact cell_of_block (((Fr.refl No _).alloc o).heap h1 id) 0
theorem res1 {W : World} {n : Nat} {x y : Value} {T : TypeId} (h : W.heap[n]? = some (.cells #[x, y] T (0, 0))) (v0 v1 : Value) (o : Obj) : (((W.setCell ⟨n, 0, none⟩ v0).setCell ⟨n, 1, none⟩ v1).alloc o).cell? ⟨n, 1, none⟩ = some v1 := by
  have h1 := res_block h v0 v1
  exact cell_of_block (((Fr.refl No _).alloc o).heap h1 id) 1

/-- What a call leaves. -/
def Called (w : World) (B tb k qb b1 b2 : Nat) (a1 : Option Addr) (l1 : List Int) (a2 : Option Addr) (l2 : List Int) (N : Nat) (e : Ending) (w' : World) : Prop :=
  ∃ k' a1' c1' l1' a2' c2' l2' f' g', e = .returned (.tuple #[.agg #[.slice a1' (List.length l1') c1', .slice a2' (List.length l2') c2'], .bool true]) ∧ k' ≤ k + 5 ∧ List.length l1' ≤ l1.length + 1 ∧ List.length l2' ≤ l2.length + 1 ∧
    Both w' B tb k' qb b1 b2 a1' c1' l1' a2' c2' l2' f' g' (N + 1) ∧ SON w a1 l1 a1' l1' ∧ SON w a2 l2 a2' l2' ∧ Fr (Tri tb b1 b2) w w'

theorem Av.box {w w4 : World} {a : Option Addr} {c : Nat} {l : List Int} {a' : Option Addr} {l' : List Int} (h : Ints w a c l) (hs : SON w4 a l a' l') (h4 : w.heap.size + 2 ≤ w4.heap.size) : Av (Is (w.heap.size + 1)) a' l' := by
  intro ad e hne hb
  unfold Is at hb
  rcases hs with ⟨rfl, rfl⟩ | hs
  · have := (h.cell ad e hne).2.1; omega
  · have := hs ad e; omega

theorem q_finish {w w4 w5 W : World} {B tb k qb b1 b2 : Nat} {a1 : Option Addr} {c1 : Nat} {l1 : List Int} {a2 : Option Addr} {c2 : Nat} {l2 : List Int} {f g : Int → Bool} {N : Nat} (h : Both w B tb k qb b1 b2 a1 c1 l1 a2 c2 l2 f g N)
    (h4 : w.heap.size + 2 ≤ w4.heap.size) {k' : Nat} {a1' : Option Addr} {c1' : Nat} {l1' : List Int} {a2' : Option Addr} {c2' : Nat} {l2' : List Int} {f' g' : Int → Bool}
    (h5 : Both w5 B tb k' qb b1 b2 a1' c1' l1' a2' c2' l2' f' g' (N + 1)) (s1 : SON w4 a1 l1 a1' l1') (s2 : SON w4 a2 l2 a2' l2') (hk : k' ≤ k + 5) (n1 : l1'.length ≤ l1.length + 1) (n2 : l2'.length ≤ l2.length + 1)
    (hf : Fr (Tri tb b1 b2) w w5) (hx : Fr (Is (w.heap.size + 1)) w5 W) :
    Called w B tb k qb b1 b2 a1 l1 a2 l2 N (.returned (.tuple #[.agg #[.slice a1' (List.length l1') c1', .slice a2' (List.length l2') c2'], .bool true])) W := by
  have hT := h.tri
  have hql : qb < w.heap.size := by obtain ⟨T, hb⟩ := h.que.blk; exact lt_of_block hb
  have ne : ∀ b, b < w.heap.size → ¬ Is (w.heap.size + 1) b := fun b hb e => by unfold Is at e; omega
  have v1 := Av.box h.rq.d s1 h4
  have v2 := Av.box h.rq.b s2 h4
  have ht := hT tb (.inl rfl)
  exact ⟨k', a1', c1', l1', a2', c2', l2', f', g', rfl, hk, n1, n2,
    ⟨h5.tape.fr hx (fun b hb e => by unfold Is at e; omega) (ne _ ht.1), h5.que.fr hx (ne _ hql) (ne _ (hT b1 (.inr (.inl rfl))).1) (ne _ (hT b2 (.inr (.inr rfl))).1), h5.rq.no hx v1 v2, h5.v1, h5.v2, h5.t0, h5.t1, h5.t2, h5.B1, h5.B2⟩, s1.imp id (fun h ad e => by have := h ad e; omega), s2.imp id (fun h ad e => by have := h ad e; omega),
    hf.step hx (fun b hb e => by unfold Is at e; omega)⟩

set_option maxRecDepth 100000 in
set_option maxHeartbeats 8000000 in
theorem q_call (B tb k qb b1 b2 : Nat) (a1 : Option Addr) (c1 : Nat) (l1 : List Int) (a2 : Option Addr) (c2 : Nat) (l2 : List Int) (f g : Int → Bool) (N : Nat) (raw : Int) (w : World)
    (h : Both w B tb k qb b1 b2 a1 c1 l1 a2 c2 l2 f g N) (hk : k ≤ 1000000) (hN : N < 1000000) (hb1 : l1.length ≤ 100000) (hb2 : l2.length ≤ 100000) (hr : (Lit.int .i64 raw).wf = true) :
    Calls Tryz.prog 27 #[.pointer (some ⟨tb, 0, none⟩), .pointer (some ⟨qb, 0, none⟩), .agg #[.slice a1 l1.length c1, .slice a2 l2.length c2], .int .i64 raw] w (Called w B tb k qb b1 b2 a1 l1 a2 l2 N) := by
  have hT := h.tri
  have hql : qb < w.heap.size := by obtain ⟨T, hb⟩ := h.que.blk; exact lt_of_block hb
  have hbx0 := Boxes.mk' w a1 l1.length c1 a2 l2.length c2
  have hB0 : Bx w.heap.size _ a1 l1.length c1 a2 l2.length c2 := ⟨hbx0.size, hbx0.p, hbx0.r⟩
  have hh0 := h.no hbx0.fr
  have hfr0 : Fr (Tri tb b1 b2) w _ := hbx0.fr.mono (fun _ _ h => h.elim)
  have ltb : tb < w.heap.size := h.tape.lt
  have hST : ∀ b, Is tb b → b < w.heap.size := fun b e => by unfold Is at e; omega
  have hSTw : ∀ b, Two b1 b2 b → b < w.heap.size := fun b e => (hT b (.inr e)).1
  go_enter Tryz.func27, Tryz.ntmps27
  go_wp2_with fail
  refine (tape_next B tb k 12 _ hh0.tape (by omega) (by omega) (by omega)).mono ?_
  rintro e w1 ⟨r1, rfl, hr1, hr1', ht1, hf1⟩
  have hh1 := hh0.next ht1 hf1
  have hB1 := hB0.step hf1 hST
  have hfr1 := hfr0.step hf1 (fun _ _ e => .inl e)
  clear hbx0 hB0 hh0 hfr0
  go_wp2_with fail
  refine (tape_next B tb (k + 1) 12 _ ht1 (by omega) (by omega) (by omega)).mono ?_
  rintro e w2 ⟨r2, rfl, hr2, hr2', ht2, hf2⟩
  have hh2 := hh1.next ht2 hf2
  have hB2 := hB1.step hf2 hST
  have hfr2 := hfr1.step hf2 (fun _ _ e => .inl e)
  clear hB1 hh1 hfr1 ht1 hf1 hf2
  go_upto_if 27 with (fail)
  go_cut [10] (fun v wx => ∃ n : Int, v = .int .i64 n ∧ (Lit.int .i64 n).wf = true ∧ w2 = wx)
  case first =>
    by_cases h0 : r2 = 0
    · have hb : (r2 == 0) = true := by simpa using h0
      clear h0
      go_wp2_with fail
      go_meet
      exact ⟨raw, rfl, hr, rfl⟩
    · have hb : (r2 == 0) = false := by simpa using h0
      clear h0
      go_wp2_with fail
      go_meet
      exact ⟨1 + r1, rfl, WalkArith.wf_i64 (by omega), rfl⟩
  case rest =>
    obtain ⟨n, rfl, hn, rfl⟩ := hcut
    go_wp2_with fail
    refine (tape_next B tb (k + 1 + 1) 8 _ ht2 (by omega) (by omega) (by omega)).mono ?_
    rintro e w3 ⟨r3, rfl, hr3, hr3', ht3, hf3⟩
    have hh3 := hh2.next ht3 hf3
    have hB3 := hB2.step hf3 hST
    have hfr3 := hfr2.step hf3 (fun _ _ e => .inl e)
    clear hB2 hh2 hfr2 ht2 hf3
    obtain ⟨m, rfl⟩ := Int.eq_ofNat_of_zero_le hr3
    rcases (by omega : m = 0 ∨ m = 1 ∨ m = 2 ∨ m = 7 ∨ m = 3 ∨ m = 4 ∨ m = 5 ∨ m = 6) with rfl | rfl | rfl | rfl | rfl | rfl | rfl | rfl
    · have HH := hh3
      have HB := hB3
      have HF := hfr3
      go_wp2_with fail
      refine (q_mark_any qb b1 b2 f g N n _ HH.que (by unfold maxLen; omega)).mono ?_
      rintro e w4 ⟨er, f', rfl, hmk, hq4, hf4⟩
      have hold := HH.old hf4
      have hB4 := HB.step hf4 hSTw
      have hfr4 := HF.step hf4 (fun _ _ e => .inr e)
      have x0 := hB4.d0
      have x1 := hB4.d1
      go_wp2_with fail
      refine (r_mark a1 c1 l1 a2 c2 l2 f g n _ hold (by omega) hn).mono ?_
      rintro e w5 ⟨er', a1', c1', l1', f'', rfl, hmk', hr5, hlen, hson, hf5⟩
      obtain ⟨rfl, rfl⟩ := hmk.det hmk'
      have h5 := HH.after hq4 hf4 hr5 hson (SON.refl _ _ _) hf5
      have hB5 := hB4.step hf5 (fun _ e => e.elim)
      have y0 := hB5.r0
      have y1 := hB5.r1
      have z0 := hB5.f0
      have z1 := hB5.f1
      have hz5 : w.heap.size + 1 < w5.heap.size := hB5.size
      have hz5' : w.heap.size < w5.heap.size := by omega
      have hb : (er == er) = true := by simp
      clear x0 x1
      go_wp2_with fail
      have q0 := res0 hB5.r (.slice a1' l1'.length c1') (.slice a2 l2.length c2) (.cells #[.slice a1' l1'.length c1', .slice a2 l2.length c2] 52)
      have q1 := res1 hB5.r (.slice a1' l1'.length c1') (.slice a2 l2.length c2) (.cells #[.slice a1' l1'.length c1', .slice a2 l2.length c2] 52)
      refine bodyPost_ret (v := .tuple #[.agg #[.slice a1' l1'.length c1', .slice a2 l2.length c2], .bool true]) (by simp [results, Tryz.results27, go_sem, q0, q1]) rfl ?_
      exact q_finish h hB4.size h5 hson (SON.refl _ _ _) (by omega) hlen (by omega) (hfr4.step hf5 (fun _ _ e => e.elim)) (((Fr.refl _ _).setIs _).setIs _ |>.alloc _)
    · have HH := hh3
      have HB := hB3
      have HF := hfr3
      go_wp2_with fail
      refine (q_mark_any qb b1 b2 f g N n _ HH.que (by unfold maxLen; omega)).mono ?_
      rintro e w4 ⟨er, f', rfl, hmk, hq4, hf4⟩
      have hold := HH.old hf4
      have hB4 := HB.step hf4 hSTw
      have hfr4 := HF.step hf4 (fun _ _ e => .inr e)
      have x0 := hB4.d0
      have x1 := hB4.d1
      go_wp2_with fail
      refine (r_mark a1 c1 l1 a2 c2 l2 f g n _ hold (by omega) hn).mono ?_
      rintro e w5 ⟨er', a1', c1', l1', f'', rfl, hmk', hr5, hlen, hson, hf5⟩
      obtain ⟨rfl, rfl⟩ := hmk.det hmk'
      have h5 := HH.after hq4 hf4 hr5 hson (SON.refl _ _ _) hf5
      have hB5 := hB4.step hf5 (fun _ e => e.elim)
      have y0 := hB5.r0
      have y1 := hB5.r1
      have z0 := hB5.f0
      have z1 := hB5.f1
      have hz5 : w.heap.size + 1 < w5.heap.size := hB5.size
      have hz5' : w.heap.size < w5.heap.size := by omega
      have hb : (er == er) = true := by simp
      clear x0 x1
      go_wp2_with fail
      have q0 := res0 hB5.r (.slice a1' l1'.length c1') (.slice a2 l2.length c2) (.cells #[.slice a1' l1'.length c1', .slice a2 l2.length c2] 52)
      have q1 := res1 hB5.r (.slice a1' l1'.length c1') (.slice a2 l2.length c2) (.cells #[.slice a1' l1'.length c1', .slice a2 l2.length c2] 52)
      refine bodyPost_ret (v := .tuple #[.agg #[.slice a1' l1'.length c1', .slice a2 l2.length c2], .bool true]) (by simp [results, Tryz.results27, go_sem, q0, q1]) rfl ?_
      exact q_finish h hB4.size h5 hson (SON.refl _ _ _) (by omega) hlen (by omega) (hfr4.step hf5 (fun _ _ e => e.elim)) (((Fr.refl _ _).setIs _).setIs _ |>.alloc _)
    · have HH := hh3
      have HB := hB3
      have HF := hfr3
      go_wp2_with fail
      refine (q_mark_any qb b1 b2 f g N n _ HH.que (by unfold maxLen; omega)).mono ?_
      rintro e w4 ⟨er, f', rfl, hmk, hq4, hf4⟩
      have hold := HH.old hf4
      have hB4 := HB.step hf4 hSTw
      have hfr4 := HF.step hf4 (fun _ _ e => .inr e)
      have x0 := hB4.d0
      have x1 := hB4.d1
      go_wp2_with fail
      refine (r_mark a1 c1 l1 a2 c2 l2 f g n _ hold (by omega) hn).mono ?_
      rintro e w5 ⟨er', a1', c1', l1', f'', rfl, hmk', hr5, hlen, hson, hf5⟩
      obtain ⟨rfl, rfl⟩ := hmk.det hmk'
      have h5 := HH.after hq4 hf4 hr5 hson (SON.refl _ _ _) hf5
      have hB5 := hB4.step hf5 (fun _ e => e.elim)
      have y0 := hB5.r0
      have y1 := hB5.r1
      have z0 := hB5.f0
      have z1 := hB5.f1
      have hz5 : w.heap.size + 1 < w5.heap.size := hB5.size
      have hz5' : w.heap.size < w5.heap.size := by omega
      have hb : (er == er) = true := by simp
      clear x0 x1
      go_wp2_with fail
      have q0 := res0 hB5.r (.slice a1' l1'.length c1') (.slice a2 l2.length c2) (.cells #[.slice a1' l1'.length c1', .slice a2 l2.length c2] 52)
      have q1 := res1 hB5.r (.slice a1' l1'.length c1') (.slice a2 l2.length c2) (.cells #[.slice a1' l1'.length c1', .slice a2 l2.length c2] 52)
      refine bodyPost_ret (v := .tuple #[.agg #[.slice a1' l1'.length c1', .slice a2 l2.length c2], .bool true]) (by simp [results, Tryz.results27, go_sem, q0, q1]) rfl ?_
      exact q_finish h hB4.size h5 hson (SON.refl _ _ _) (by omega) hlen (by omega) (hfr4.step hf5 (fun _ _ e => e.elim)) (((Fr.refl _ _).setIs _).setIs _ |>.alloc _)
    · have HH := hh3
      have HB := hB3
      have HF := hfr3
      go_wp2_with fail
      refine (q_forget qb b1 b2 f g N n _ HH.que hn).mono ?_
      rintro e w4 ⟨rfl, hq4, hf4⟩
      have hold := HH.old hf4
      have hB4 := HB.step hf4 hSTw
      have hfr4 := HF.step hf4 (fun _ _ e => .inr e)
      have x0 := hB4.d0
      have x1 := hB4.d1
      go_wp2_with fail
      refine (r_forget a1 c1 l1 a2 c2 l2 f g n _ hold (by omega) (by omega)).mono ?_
      rintro e w5 ⟨a1', c1', l1', a2', c2', l2', rfl, hr5, hlen, hlen2, hson, hson2, hf5⟩
      have h5 := HH.after (hq4.mono (Nat.le_succ N)) hf4 hr5 (.inr hson) (.inr hson2) hf5
      have hB5 := hB4.step hf5 (fun _ e => e.elim)
      have y0 := hB5.r0
      have y1 := hB5.r1
      have z0 := hB5.f0
      have z1 := hB5.f1
      clear x0 x1
      go_wp2_with fail
      refine bodyPost_ret (v := .tuple #[.agg #[.slice a1' l1'.length c1', .slice a2' l2'.length c2'], .bool true]) (by simp [results, Tryz.results27, go_sem, y0, y1]) rfl ?_
      exact q_finish h hB4.size h5 (.inr hson) (.inr hson2) (by omega) (by omega) (by omega) (hfr4.step hf5 (fun _ _ e => e.elim)) (((Fr.refl _ _).setIs _).setIs _)
    · by_cases hemp : l1.length = 0
      · have hb0 : ¬ 0 < l1.length := by omega
        have x0 := hB3.d0
        have x1 := hB3.d1
        have HH := hh3
        have HB := hB3
        have HF := hfr3
        clear hemp
        go_wp2_with fail
        clear x0 x1
        go_wp2_with fail
        refine (q_take_any qb b1 b2 f g N n _ HH.que (by unfold maxLen; omega) hn).mono ?_
        rintro e w4 ⟨er, f', g', rfl, hmk, hq4, hf4⟩
        have hold := HH.old hf4
        have hB4 := HB.step hf4 hSTw
        have hfr4 := HF.step hf4 (fun _ _ e => .inr e)
        have x0 := hB4.d0
        have x1 := hB4.d1
        go_wp2_with fail
        refine (r_take a1 c1 l1 a2 c2 l2 f g n _ hold (by omega) (by omega) hn).mono ?_
        rintro e w5 ⟨er', a1', c1', l1', a2', c2', l2', f'', g'', rfl, hmk', hr5, hlen, hlen2, hson, hson2, hf5⟩
        obtain ⟨rfl, rfl, rfl⟩ := hmk.det hmk'
        have h5 := HH.after hq4 hf4 hr5 hson hson2 hf5
        have hB5 := hB4.step hf5 (fun _ e => e.elim)
        have y0 := hB5.r0
        have y1 := hB5.r1
        have z0 := hB5.f0
        have z1 := hB5.f1
        have hz5 : w.heap.size + 1 < w5.heap.size := hB5.size
        have hz5' : w.heap.size < w5.heap.size := by omega
        have hb : (er == er) = true := by simp
        clear x0 x1
        go_wp2_with fail
        have q0 := res0 hB5.r (.slice a1' l1'.length c1') (.slice a2' l2'.length c2') (.cells #[.slice a1' l1'.length c1', .slice a2' l2'.length c2'] 52)
        have q1 := res1 hB5.r (.slice a1' l1'.length c1') (.slice a2' l2'.length c2') (.cells #[.slice a1' l1'.length c1', .slice a2' l2'.length c2'] 52)
        refine bodyPost_ret (v := .tuple #[.agg #[.slice a1' l1'.length c1', .slice a2' l2'.length c2'], .bool true]) (by simp [results, Tryz.results27, go_sem, q0, q1]) rfl ?_
        exact q_finish h hB4.size h5 hson hson2 (by omega) (by omega) hlen2 (hfr4.step hf5 (fun _ _ e => e.elim)) (((Fr.refl _ _).setIs _).setIs _ |>.alloc _)
      · have hpos : 0 < l1.length := by omega
        clear hemp
        have x0 := hB3.d0
        have x1 := hB3.d1
        go_wp2_with fail
        clear x0 x1
        refine (tape_next B tb (k + 1 + 1 + 1) 3 _ ht3 (by omega) (by omega) (by omega)).mono ?_
        rintro e w3a ⟨r4, rfl, hr4, hr4', ht3a, hf3a⟩
        have hh3a := hh3.next ht3a hf3a
        have hB3a := hB3.step hf3a hST
        have hfr3a := hfr3.step hf3a (fun _ _ e => .inl e)
        by_cases hr0 : r4 = 0
        · subst hr0
          have HH := hh3a
          have HB := hB3a
          have HF := hfr3a
          go_wp2_with fail
          go_wp2_with fail
          refine (q_take_any qb b1 b2 f g N n _ HH.que (by unfold maxLen; omega) hn).mono ?_
          rintro e w4 ⟨er, f', g', rfl, hmk, hq4, hf4⟩
          have hold := HH.old hf4
          have hB4 := HB.step hf4 hSTw
          have hfr4 := HF.step hf4 (fun _ _ e => .inr e)
          have x0 := hB4.d0
          have x1 := hB4.d1
          go_wp2_with fail
          refine (r_take a1 c1 l1 a2 c2 l2 f g n _ hold (by omega) (by omega) hn).mono ?_
          rintro e w5 ⟨er', a1', c1', l1', a2', c2', l2', f'', g'', rfl, hmk', hr5, hlen, hlen2, hson, hson2, hf5⟩
          obtain ⟨rfl, rfl, rfl⟩ := hmk.det hmk'
          have h5 := HH.after hq4 hf4 hr5 hson hson2 hf5
          have hB5 := hB4.step hf5 (fun _ e => e.elim)
          have y0 := hB5.r0
          have y1 := hB5.r1
          have z0 := hB5.f0
          have z1 := hB5.f1
          have hz5 : w.heap.size + 1 < w5.heap.size := hB5.size
          have hz5' : w.heap.size < w5.heap.size := by omega
          have hb : (er == er) = true := by simp
          clear x0 x1
          go_wp2_with fail
          have q0 := res0 hB5.r (.slice a1' l1'.length c1') (.slice a2' l2'.length c2') (.cells #[.slice a1' l1'.length c1', .slice a2' l2'.length c2'] 52)
          have q1 := res1 hB5.r (.slice a1' l1'.length c1') (.slice a2' l2'.length c2') (.cells #[.slice a1' l1'.length c1', .slice a2' l2'.length c2'] 52)
          refine bodyPost_ret (v := .tuple #[.agg #[.slice a1' l1'.length c1', .slice a2' l2'.length c2'], .bool true]) (by simp [results, Tryz.results27, go_sem, q0, q1]) rfl ?_
          exact q_finish h hB4.size h5 hson hson2 (by omega) (by omega) hlen2 (hfr4.step hf5 (fun _ _ e => e.elim)) (((Fr.refl _ _).setIs _).setIs _ |>.alloc _)
        · have hb4 : (0 : Int) < r4 := by omega
          clear hr0
          go_wp2_with fail
          refine region_sig (Is tb) [(0, false), (1, false), (2, false), (3, false), (4, false), (5, false), (6, true), (7, false), (8, false), (9, false)] (by kernel_rfl) (by kernel_rfl) (fun w0 hf0 => ?_)
          have hB0 := hB3a.step hf0 (fun _ e => e.elim)
          have hh0 := hh3a.no hf0
          have hfr0 := hfr3a.step hf0 (fun _ _ e => e.elim)
          have x : ∀ g : Gr (Is tb) w0, g.W.cell? ⟨w.heap.size, 0, none⟩ = some (.slice a1 l1.length c1) := fun g => g.fr.cell hB0.d0 (by unfold Is; simp; omega)
          repeat (apply sig_q; exact rfl; exact rfl; exact rfl; intro K hK; go_big_quiet_op; go_big_quiet_on)
          apply sig_m
          exact rfl
          go_wp2_with fail
          refine (tape_next B tb (k + 1 + 1 + 1 + 1) (l1.length : Int) _ hh0.tape (by omega) (by omega) (by omega)).mono ?_
          rintro e w3b ⟨r5, rfl, hr5, hr5', ht3b, hf3b⟩
          go_wp2_with fail
          refine OnlyN.mk ⟨hf3b, ?_⟩
          have HH := hh0.next ht3b hf3b
          have HB := hB0.step hf3b hST
          have HF := hfr0.step hf3b (fun _ _ e => .inl e)
          obtain ⟨j, rfl⟩ := Int.eq_ofNat_of_zero_le hr5
          obtain ⟨b, off, y, hay, hy, hcy⟩ := HH.rq.d.at (k := j) (by omega)
          have hbt : b ≠ tb := fun e => HH.v1 _ hay (by intro e; rw [e] at hpos; simp at hpos) (.inl e)
          have hwy : (Lit.int .i64 y).wf = true := HH.rq.d.wf y (List.mem_of_getElem? hy)
          have HY := Lib.hid hay
          clear x hy hay
          have yc : ∀ g : Gr (Is tb) w3b, g.W.cell? ⟨b, off + j, none⟩ = some (.int .i64 y) := fun g => g.fr.cell hcy hbt
          rw [HY.out]
          repeat (apply sig_q; exact rfl; exact rfl; exact rfl; intro K hK; go_big_quiet_op; go_big_quiet_on)
          refine sig_end ?_
          rw [← HY.out]
          clear yc
          go_wp2_with fail
          refine (q_take_any qb b1 b2 f g N y _ HH.que (by unfold maxLen; omega) hwy).mono ?_
          rintro e w4 ⟨er, f', g', rfl, hmk, hq4, hf4⟩
          have hold := HH.old hf4
          have hB4 := HB.step hf4 hSTw
          have hfr4 := HF.step hf4 (fun _ _ e => .inr e)
          have x0 := hB4.d0
          have x1 := hB4.d1
          go_wp2_with fail
          refine (r_take a1 c1 l1 a2 c2 l2 f g y _ hold (by omega) (by omega) hwy).mono ?_
          rintro e w5 ⟨er', a1', c1', l1', a2', c2', l2', f'', g'', rfl, hmk', hr5, hlen, hlen2, hson, hson2, hf5⟩
          obtain ⟨rfl, rfl, rfl⟩ := hmk.det hmk'
          have h5 := HH.after hq4 hf4 hr5 hson hson2 hf5
          have hB5 := hB4.step hf5 (fun _ e => e.elim)
          have y0 := hB5.r0
          have y1 := hB5.r1
          have z0 := hB5.f0
          have z1 := hB5.f1
          have hz5 : w.heap.size + 1 < w5.heap.size := hB5.size
          have hz5' : w.heap.size < w5.heap.size := by omega
          have hb : (er == er) = true := by simp
          clear x0 x1
          go_wp2_with fail
          have q0 := res0 hB5.r (.slice a1' l1'.length c1') (.slice a2' l2'.length c2') (.cells #[.slice a1' l1'.length c1', .slice a2' l2'.length c2'] 52)
          have q1 := res1 hB5.r (.slice a1' l1'.length c1') (.slice a2' l2'.length c2') (.cells #[.slice a1' l1'.length c1', .slice a2' l2'.length c2'] 52)
          refine bodyPost_ret (v := .tuple #[.agg #[.slice a1' l1'.length c1', .slice a2' l2'.length c2'], .bool true]) (by simp [results, Tryz.results27, go_sem, q0, q1]) rfl ?_
          exact q_finish h hB4.size h5 hson hson2 (by omega) (by omega) hlen2 (hfr4.step hf5 (fun _ _ e => e.elim)) (((Fr.refl _ _).setIs _).setIs _ |>.alloc _)
    · by_cases hemp : l1.length = 0
      · have hb0 : ¬ 0 < l1.length := by omega
        have x0 := hB3.d0
        have x1 := hB3.d1
        have HH := hh3
        have HB := hB3
        have HF := hfr3
        clear hemp
        go_wp2_with fail
        clear x0 x1
        go_wp2_with fail
        refine (q_take_any qb b1 b2 f g N n _ HH.que (by unfold maxLen; omega) hn).mono ?_
        rintro e w4 ⟨er, f', g', rfl, hmk, hq4, hf4⟩
        have hold := HH.old hf4
        have hB4 := HB.step hf4 hSTw
        have hfr4 := HF.step hf4 (fun _ _ e => .inr e)
        have x0 := hB4.d0
        have x1 := hB4.d1
        go_wp2_with fail
        refine (r_take a1 c1 l1 a2 c2 l2 f g n _ hold (by omega) (by omega) hn).mono ?_
        rintro e w5 ⟨er', a1', c1', l1', a2', c2', l2', f'', g'', rfl, hmk', hr5, hlen, hlen2, hson, hson2, hf5⟩
        obtain ⟨rfl, rfl, rfl⟩ := hmk.det hmk'
        have h5 := HH.after hq4 hf4 hr5 hson hson2 hf5
        have hB5 := hB4.step hf5 (fun _ e => e.elim)
        have y0 := hB5.r0
        have y1 := hB5.r1
        have z0 := hB5.f0
        have z1 := hB5.f1
        have hz5 : w.heap.size + 1 < w5.heap.size := hB5.size
        have hz5' : w.heap.size < w5.heap.size := by omega
        have hb : (er == er) = true := by simp
        clear x0 x1
        go_wp2_with fail
        have q0 := res0 hB5.r (.slice a1' l1'.length c1') (.slice a2' l2'.length c2') (.cells #[.slice a1' l1'.length c1', .slice a2' l2'.length c2'] 52)
        have q1 := res1 hB5.r (.slice a1' l1'.length c1') (.slice a2' l2'.length c2') (.cells #[.slice a1' l1'.length c1', .slice a2' l2'.length c2'] 52)
        refine bodyPost_ret (v := .tuple #[.agg #[.slice a1' l1'.length c1', .slice a2' l2'.length c2'], .bool true]) (by simp [results, Tryz.results27, go_sem, q0, q1]) rfl ?_
        exact q_finish h hB4.size h5 hson hson2 (by omega) (by omega) hlen2 (hfr4.step hf5 (fun _ _ e => e.elim)) (((Fr.refl _ _).setIs _).setIs _ |>.alloc _)
      · have hpos : 0 < l1.length := by omega
        clear hemp
        have x0 := hB3.d0
        have x1 := hB3.d1
        go_wp2_with fail
        clear x0 x1
        refine (tape_next B tb (k + 1 + 1 + 1) 3 _ ht3 (by omega) (by omega) (by omega)).mono ?_
        rintro e w3a ⟨r4, rfl, hr4, hr4', ht3a, hf3a⟩
        have hh3a := hh3.next ht3a hf3a
        have hB3a := hB3.step hf3a hST
        have hfr3a := hfr3.step hf3a (fun _ _ e => .inl e)
        by_cases hr0 : r4 = 0
        · subst hr0
          have HH := hh3a
          have HB := hB3a
          have HF := hfr3a
          go_wp2_with fail
          go_wp2_with fail
          refine (q_take_any qb b1 b2 f g N n _ HH.que (by unfold maxLen; omega) hn).mono ?_
          rintro e w4 ⟨er, f', g', rfl, hmk, hq4, hf4⟩
          have hold := HH.old hf4
          have hB4 := HB.step hf4 hSTw
          have hfr4 := HF.step hf4 (fun _ _ e => .inr e)
          have x0 := hB4.d0
          have x1 := hB4.d1
          go_wp2_with fail
          refine (r_take a1 c1 l1 a2 c2 l2 f g n _ hold (by omega) (by omega) hn).mono ?_
          rintro e w5 ⟨er', a1', c1', l1', a2', c2', l2', f'', g'', rfl, hmk', hr5, hlen, hlen2, hson, hson2, hf5⟩
          obtain ⟨rfl, rfl, rfl⟩ := hmk.det hmk'
          have h5 := HH.after hq4 hf4 hr5 hson hson2 hf5
          have hB5 := hB4.step hf5 (fun _ e => e.elim)
          have y0 := hB5.r0
          have y1 := hB5.r1
          have z0 := hB5.f0
          have z1 := hB5.f1
          have hz5 : w.heap.size + 1 < w5.heap.size := hB5.size
          have hz5' : w.heap.size < w5.heap.size := by omega
          have hb : (er == er) = true := by simp
          clear x0 x1
          go_wp2_with fail
          have q0 := res0 hB5.r (.slice a1' l1'.length c1') (.slice a2' l2'.length c2') (.cells #[.slice a1' l1'.length c1', .slice a2' l2'.length c2'] 52)
          have q1 := res1 hB5.r (.slice a1' l1'.length c1') (.slice a2' l2'.length c2') (.cells #[.slice a1' l1'.length c1', .slice a2' l2'.length c2'] 52)
          refine bodyPost_ret (v := .tuple #[.agg #[.slice a1' l1'.length c1', .slice a2' l2'.length c2'], .bool true]) (by simp [results, Tryz.results27, go_sem, q0, q1]) rfl ?_
          exact q_finish h hB4.size h5 hson hson2 (by omega) (by omega) hlen2 (hfr4.step hf5 (fun _ _ e => e.elim)) (((Fr.refl _ _).setIs _).setIs _ |>.alloc _)
        · have hb4 : (0 : Int) < r4 := by omega
          clear hr0
          go_wp2_with fail
          refine region_sig (Is tb) [(0, false), (1, false), (2, false), (3, false), (4, false), (5, false), (6, true), (7, false), (8, false), (9, false)] (by kernel_rfl) (by kernel_rfl) (fun w0 hf0 => ?_)
          have hB0 := hB3a.step hf0 (fun _ e => e.elim)
          have hh0 := hh3a.no hf0
          have hfr0 := hfr3a.step hf0 (fun _ _ e => e.elim)
          have x : ∀ g : Gr (Is tb) w0, g.W.cell? ⟨w.heap.size, 0, none⟩ = some (.slice a1 l1.length c1) := fun g => g.fr.cell hB0.d0 (by unfold Is; simp; omega)
          repeat (apply sig_q; exact rfl; exact rfl; exact rfl; intro K hK; go_big_quiet_op; go_big_quiet_on)
          apply sig_m
          exact rfl
          go_wp2_with fail
          refine (tape_next B tb (k + 1 + 1 + 1 + 1) (l1.length : Int) _ hh0.tape (by omega) (by omega) (by omega)).mono ?_
          rintro e w3b ⟨r5, rfl, hr5, hr5', ht3b, hf3b⟩
          go_wp2_with fail
          refine OnlyN.mk ⟨hf3b, ?_⟩
          have HH := hh0.next ht3b hf3b
          have HB := hB0.step hf3b hST
          have HF := hfr0.step hf3b (fun _ _ e => .inl e)
          obtain ⟨j, rfl⟩ := Int.eq_ofNat_of_zero_le hr5
          obtain ⟨b, off, y, hay, hy, hcy⟩ := HH.rq.d.at (k := j) (by omega)
          have hbt : b ≠ tb := fun e => HH.v1 _ hay (by intro e; rw [e] at hpos; simp at hpos) (.inl e)
          have hwy : (Lit.int .i64 y).wf = true := HH.rq.d.wf y (List.mem_of_getElem? hy)
          have HY := Lib.hid hay
          clear x hy hay
          have yc : ∀ g : Gr (Is tb) w3b, g.W.cell? ⟨b, off + j, none⟩ = some (.int .i64 y) := fun g => g.fr.cell hcy hbt
          rw [HY.out]
          repeat (apply sig_q; exact rfl; exact rfl; exact rfl; intro K hK; go_big_quiet_op; go_big_quiet_on)
          refine sig_end ?_
          rw [← HY.out]
          clear yc
          go_wp2_with fail
          refine (q_take_any qb b1 b2 f g N y _ HH.que (by unfold maxLen; omega) hwy).mono ?_
          rintro e w4 ⟨er, f', g', rfl, hmk, hq4, hf4⟩
          have hold := HH.old hf4
          have hB4 := HB.step hf4 hSTw
          have hfr4 := HF.step hf4 (fun _ _ e => .inr e)
          have x0 := hB4.d0
          have x1 := hB4.d1
          go_wp2_with fail
          refine (r_take a1 c1 l1 a2 c2 l2 f g y _ hold (by omega) (by omega) hwy).mono ?_
          rintro e w5 ⟨er', a1', c1', l1', a2', c2', l2', f'', g'', rfl, hmk', hr5, hlen, hlen2, hson, hson2, hf5⟩
          obtain ⟨rfl, rfl, rfl⟩ := hmk.det hmk'
          have h5 := HH.after hq4 hf4 hr5 hson hson2 hf5
          have hB5 := hB4.step hf5 (fun _ e => e.elim)
          have y0 := hB5.r0
          have y1 := hB5.r1
          have z0 := hB5.f0
          have z1 := hB5.f1
          have hz5 : w.heap.size + 1 < w5.heap.size := hB5.size
          have hz5' : w.heap.size < w5.heap.size := by omega
          have hb : (er == er) = true := by simp
          clear x0 x1
          go_wp2_with fail
          have q0 := res0 hB5.r (.slice a1' l1'.length c1') (.slice a2' l2'.length c2') (.cells #[.slice a1' l1'.length c1', .slice a2' l2'.length c2'] 52)
          have q1 := res1 hB5.r (.slice a1' l1'.length c1') (.slice a2' l2'.length c2') (.cells #[.slice a1' l1'.length c1', .slice a2' l2'.length c2'] 52)
          refine bodyPost_ret (v := .tuple #[.agg #[.slice a1' l1'.length c1', .slice a2' l2'.length c2'], .bool true]) (by simp [results, Tryz.results27, go_sem, q0, q1]) rfl ?_
          exact q_finish h hB4.size h5 hson hson2 (by omega) (by omega) hlen2 (hfr4.step hf5 (fun _ _ e => e.elim)) (((Fr.refl _ _).setIs _).setIs _ |>.alloc _)
    · by_cases hemp : l2.length = 0
      · have hb0 : ¬ 0 < l2.length := by omega
        have x0 := hB3.d0
        have x1 := hB3.d1
        have HH := hh3
        have HB := hB3
        have HF := hfr3
        clear hemp
        go_wp2_with fail
        clear x0 x1
        go_wp2_with fail
        refine (q_done_any qb b1 b2 f g N n _ HH.que hn).mono ?_
        rintro e w4 ⟨bo, er, g', rfl, hmk, hq4, hf4⟩
        have hold := HH.old hf4
        have hB4 := HB.step hf4 hSTw
        have hfr4 := HF.step hf4 (fun _ _ e => .inr e)
        have x0 := hB4.d0
        have x1 := hB4.d1
        go_wp2_with fail
        refine (r_done a1 c1 l1 a2 c2 l2 f g n _ hold (by omega) (by omega)).mono ?_
        rintro e w5 ⟨bo', er', a2', c2', l2', g'', rfl, hmk', hr5, hlen2, hson2, hf5⟩
        obtain ⟨rfl, rfl, rfl⟩ := hmk.det hmk'
        have h5 := HH.after (hq4.mono (Nat.le_succ N)) hf4 hr5 (SON.refl _ _ _) hson2 hf5
        have hB5 := hB4.step hf5 (fun _ e => e.elim)
        have y0 := hB5.r0
        have y1 := hB5.r1
        have z0 := hB5.f0
        have z1 := hB5.f1
        have hz5 : w.heap.size + 1 < w5.heap.size := hB5.size
        have hz5' : w.heap.size < w5.heap.size := by omega
        have hb : (er == er) = true := by simp
        have hb' : (bo == bo) = true := by simp
        clear x0 x1
        go_wp2_with fail
        have q0 := res0 hB5.r (.slice a1 l1.length c1) (.slice a2' l2'.length c2') (.cells #[.slice a1 l1.length c1, .slice a2' l2'.length c2'] 52)
        have q1 := res1 hB5.r (.slice a1 l1.length c1) (.slice a2' l2'.length c2') (.cells #[.slice a1 l1.length c1, .slice a2' l2'.length c2'] 52)
        refine bodyPost_ret (v := .tuple #[.agg #[.slice a1 l1.length c1, .slice a2' l2'.length c2'], .bool true]) (by simp [results, Tryz.results27, go_sem, q0, q1]) rfl ?_
        exact q_finish h hB4.size h5 (SON.refl _ _ _) hson2 (by omega) (by omega) (by omega) (hfr4.step hf5 (fun _ _ e => e.elim)) (((Fr.refl _ _).setIs _).setIs _ |>.alloc _)
      · have hpos : 0 < l2.length := by omega
        clear hemp
        have x0 := hB3.d0
        have x1 := hB3.d1
        go_wp2_with fail
        clear x0 x1
        refine (tape_next B tb (k + 1 + 1 + 1) 3 _ ht3 (by omega) (by omega) (by omega)).mono ?_
        rintro e w3a ⟨r4, rfl, hr4, hr4', ht3a, hf3a⟩
        have hh3a := hh3.next ht3a hf3a
        have hB3a := hB3.step hf3a hST
        have hfr3a := hfr3.step hf3a (fun _ _ e => .inl e)
        by_cases hr0 : r4 = 0
        · subst hr0
          have HH := hh3a
          have HB := hB3a
          have HF := hfr3a
          go_wp2_with fail
          go_wp2_with fail
          refine (q_done_any qb b1 b2 f g N n _ HH.que hn).mono ?_
          rintro e w4 ⟨bo, er, g', rfl, hmk, hq4, hf4⟩
          have hold := HH.old hf4
          have hB4 := HB.step hf4 hSTw
          have hfr4 := HF.step hf4 (fun _ _ e => .inr e)
          have x0 := hB4.d0
          have x1 := hB4.d1
          go_wp2_with fail
          refine (r_done a1 c1 l1 a2 c2 l2 f g n _ hold (by omega) (by omega)).mono ?_
          rintro e w5 ⟨bo', er', a2', c2', l2', g'', rfl, hmk', hr5, hlen2, hson2, hf5⟩
          obtain ⟨rfl, rfl, rfl⟩ := hmk.det hmk'
          have h5 := HH.after (hq4.mono (Nat.le_succ N)) hf4 hr5 (SON.refl _ _ _) hson2 hf5
          have hB5 := hB4.step hf5 (fun _ e => e.elim)
          have y0 := hB5.r0
          have y1 := hB5.r1
          have z0 := hB5.f0
          have z1 := hB5.f1
          have hz5 : w.heap.size + 1 < w5.heap.size := hB5.size
          have hz5' : w.heap.size < w5.heap.size := by omega
          have hb : (er == er) = true := by simp
          have hb' : (bo == bo) = true := by simp
          clear x0 x1
          go_wp2_with fail
          have q0 := res0 hB5.r (.slice a1 l1.length c1) (.slice a2' l2'.length c2') (.cells #[.slice a1 l1.length c1, .slice a2' l2'.length c2'] 52)
          have q1 := res1 hB5.r (.slice a1 l1.length c1) (.slice a2' l2'.length c2') (.cells #[.slice a1 l1.length c1, .slice a2' l2'.length c2'] 52)
          refine bodyPost_ret (v := .tuple #[.agg #[.slice a1 l1.length c1, .slice a2' l2'.length c2'], .bool true]) (by simp [results, Tryz.results27, go_sem, q0, q1]) rfl ?_
          exact q_finish h hB4.size h5 (SON.refl _ _ _) hson2 (by omega) (by omega) (by omega) (hfr4.step hf5 (fun _ _ e => e.elim)) (((Fr.refl _ _).setIs _).setIs _ |>.alloc _)
        · have hb4 : (0 : Int) < r4 := by omega
          clear hr0
          go_wp2_with fail
          refine region_sig (Is tb) [(0, false), (1, false), (2, false), (3, false), (4, false), (5, false), (6, true), (7, false), (8, false), (9, false)] (by kernel_rfl) (by kernel_rfl) (fun w0 hf0 => ?_)
          have hB0 := hB3a.step hf0 (fun _ e => e.elim)
          have hh0 := hh3a.no hf0
          have hfr0 := hfr3a.step hf0 (fun _ _ e => e.elim)
          have x : ∀ g : Gr (Is tb) w0, g.W.cell? ⟨w.heap.size, 1, none⟩ = some (.slice a2 l2.length c2) := fun g => g.fr.cell hB0.d1 (by unfold Is; simp; omega)
          repeat (apply sig_q; exact rfl; exact rfl; exact rfl; intro K hK; go_big_quiet_op; go_big_quiet_on)
          apply sig_m
          exact rfl
          go_wp2_with fail
          refine (tape_next B tb (k + 1 + 1 + 1 + 1) (l2.length : Int) _ hh0.tape (by omega) (by omega) (by omega)).mono ?_
          rintro e w3b ⟨r5, rfl, hr5, hr5', ht3b, hf3b⟩
          go_wp2_with fail
          refine OnlyN.mk ⟨hf3b, ?_⟩
          have HH := hh0.next ht3b hf3b
          have HB := hB0.step hf3b hST
          have HF := hfr0.step hf3b (fun _ _ e => .inl e)
          obtain ⟨j, rfl⟩ := Int.eq_ofNat_of_zero_le hr5
          obtain ⟨b, off, y, hay, hy, hcy⟩ := HH.rq.b.at (k := j) (by omega)
          have hbt : b ≠ tb := fun e => HH.v2 _ hay (by intro e; rw [e] at hpos; simp at hpos) (.inl e)
          have hwy : (Lit.int .i64 y).wf = true := HH.rq.b.wf y (List.mem_of_getElem? hy)
          have HY := Lib.hid hay
          clear x hy hay
          have yc : ∀ g : Gr (Is tb) w3b, g.W.cell? ⟨b, off + j, none⟩ = some (.int .i64 y) := fun g => g.fr.cell hcy hbt
          rw [HY.out]
          repeat (apply sig_q; exact rfl; exact rfl; exact rfl; intro K hK; go_big_quiet_op; go_big_quiet_on)
          refine sig_end ?_
          rw [← HY.out]
          clear yc
          go_wp2_with fail
          refine (q_done_any qb b1 b2 f g N y _ HH.que hwy).mono ?_
          rintro e w4 ⟨bo, er, g', rfl, hmk, hq4, hf4⟩
          have hold := HH.old hf4
          have hB4 := HB.step hf4 hSTw
          have hfr4 := HF.step hf4 (fun _ _ e => .inr e)
          have x0 := hB4.d0
          have x1 := hB4.d1
          go_wp2_with fail
          refine (r_done a1 c1 l1 a2 c2 l2 f g y _ hold (by omega) (by omega)).mono ?_
          rintro e w5 ⟨bo', er', a2', c2', l2', g'', rfl, hmk', hr5, hlen2, hson2, hf5⟩
          obtain ⟨rfl, rfl, rfl⟩ := hmk.det hmk'
          have h5 := HH.after (hq4.mono (Nat.le_succ N)) hf4 hr5 (SON.refl _ _ _) hson2 hf5
          have hB5 := hB4.step hf5 (fun _ e => e.elim)
          have y0 := hB5.r0
          have y1 := hB5.r1
          have z0 := hB5.f0
          have z1 := hB5.f1
          have hz5 : w.heap.size + 1 < w5.heap.size := hB5.size
          have hz5' : w.heap.size < w5.heap.size := by omega
          have hb : (er == er) = true := by simp
          have hb' : (bo == bo) = true := by simp
          clear x0 x1
          go_wp2_with fail
          have q0 := res0 hB5.r (.slice a1 l1.length c1) (.slice a2' l2'.length c2') (.cells #[.slice a1 l1.length c1, .slice a2' l2'.length c2'] 52)
          have q1 := res1 hB5.r (.slice a1 l1.length c1) (.slice a2' l2'.length c2') (.cells #[.slice a1 l1.length c1, .slice a2' l2'.length c2'] 52)
          refine bodyPost_ret (v := .tuple #[.agg #[.slice a1 l1.length c1, .slice a2' l2'.length c2'], .bool true]) (by simp [results, Tryz.results27, go_sem, q0, q1]) rfl ?_
          exact q_finish h hB4.size h5 (SON.refl _ _ _) hson2 (by omega) (by omega) (by omega) (hfr4.step hf5 (fun _ _ e => e.elim)) (((Fr.refl _ _).setIs _).setIs _ |>.alloc _)
    · by_cases hemp : l2.length = 0
      · have hb0 : ¬ 0 < l2.length := by omega
        have x0 := hB3.d0
        have x1 := hB3.d1
        have HH := hh3
        have HB := hB3
        have HF := hfr3
        clear hemp
        go_wp2_with fail
        clear x0 x1
        go_wp2_with fail
        refine (q_done_any qb b1 b2 f g N n _ HH.que hn).mono ?_
        rintro e w4 ⟨bo, er, g', rfl, hmk, hq4, hf4⟩
        have hold := HH.old hf4
        have hB4 := HB.step hf4 hSTw
        have hfr4 := HF.step hf4 (fun _ _ e => .inr e)
        have x0 := hB4.d0
        have x1 := hB4.d1
        go_wp2_with fail
        refine (r_done a1 c1 l1 a2 c2 l2 f g n _ hold (by omega) (by omega)).mono ?_
        rintro e w5 ⟨bo', er', a2', c2', l2', g'', rfl, hmk', hr5, hlen2, hson2, hf5⟩
        obtain ⟨rfl, rfl, rfl⟩ := hmk.det hmk'
        have h5 := HH.after (hq4.mono (Nat.le_succ N)) hf4 hr5 (SON.refl _ _ _) hson2 hf5
        have hB5 := hB4.step hf5 (fun _ e => e.elim)
        have y0 := hB5.r0
        have y1 := hB5.r1
        have z0 := hB5.f0
        have z1 := hB5.f1
        have hz5 : w.heap.size + 1 < w5.heap.size := hB5.size
        have hz5' : w.heap.size < w5.heap.size := by omega
        have hb : (er == er) = true := by simp
        have hb' : (bo == bo) = true := by simp
        clear x0 x1
        go_wp2_with fail
        have q0 := res0 hB5.r (.slice a1 l1.length c1) (.slice a2' l2'.length c2') (.cells #[.slice a1 l1.length c1, .slice a2' l2'.length c2'] 52)
        have q1 := res1 hB5.r (.slice a1 l1.length c1) (.slice a2' l2'.length c2') (.cells #[.slice a1 l1.length c1, .slice a2' l2'.length c2'] 52)
        refine bodyPost_ret (v := .tuple #[.agg #[.slice a1 l1.length c1, .slice a2' l2'.length c2'], .bool true]) (by simp [results, Tryz.results27, go_sem, q0, q1]) rfl ?_
        exact q_finish h hB4.size h5 (SON.refl _ _ _) hson2 (by omega) (by omega) (by omega) (hfr4.step hf5 (fun _ _ e => e.elim)) (((Fr.refl _ _).setIs _).setIs _ |>.alloc _)
      · have hpos : 0 < l2.length := by omega
        clear hemp
        have x0 := hB3.d0
        have x1 := hB3.d1
        go_wp2_with fail
        clear x0 x1
        refine (tape_next B tb (k + 1 + 1 + 1) 3 _ ht3 (by omega) (by omega) (by omega)).mono ?_
        rintro e w3a ⟨r4, rfl, hr4, hr4', ht3a, hf3a⟩
        have hh3a := hh3.next ht3a hf3a
        have hB3a := hB3.step hf3a hST
        have hfr3a := hfr3.step hf3a (fun _ _ e => .inl e)
        by_cases hr0 : r4 = 0
        · subst hr0
          have HH := hh3a
          have HB := hB3a
          have HF := hfr3a
          go_wp2_with fail
          go_wp2_with fail
          refine (q_done_any qb b1 b2 f g N n _ HH.que hn).mono ?_
          rintro e w4 ⟨bo, er, g', rfl, hmk, hq4, hf4⟩
          have hold := HH.old hf4
          have hB4 := HB.step hf4 hSTw
          have hfr4 := HF.step hf4 (fun _ _ e => .inr e)
          have x0 := hB4.d0
          have x1 := hB4.d1
          go_wp2_with fail
          refine (r_done a1 c1 l1 a2 c2 l2 f g n _ hold (by omega) (by omega)).mono ?_
          rintro e w5 ⟨bo', er', a2', c2', l2', g'', rfl, hmk', hr5, hlen2, hson2, hf5⟩
          obtain ⟨rfl, rfl, rfl⟩ := hmk.det hmk'
          have h5 := HH.after (hq4.mono (Nat.le_succ N)) hf4 hr5 (SON.refl _ _ _) hson2 hf5
          have hB5 := hB4.step hf5 (fun _ e => e.elim)
          have y0 := hB5.r0
          have y1 := hB5.r1
          have z0 := hB5.f0
          have z1 := hB5.f1
          have hz5 : w.heap.size + 1 < w5.heap.size := hB5.size
          have hz5' : w.heap.size < w5.heap.size := by omega
          have hb : (er == er) = true := by simp
          have hb' : (bo == bo) = true := by simp
          clear x0 x1
          go_wp2_with fail
          have q0 := res0 hB5.r (.slice a1 l1.length c1) (.slice a2' l2'.length c2') (.cells #[.slice a1 l1.length c1, .slice a2' l2'.length c2'] 52)
          have q1 := res1 hB5.r (.slice a1 l1.length c1) (.slice a2' l2'.length c2') (.cells #[.slice a1 l1.length c1, .slice a2' l2'.length c2'] 52)
          refine bodyPost_ret (v := .tuple #[.agg #[.slice a1 l1.length c1, .slice a2' l2'.length c2'], .bool true]) (by simp [results, Tryz.results27, go_sem, q0, q1]) rfl ?_
          exact q_finish h hB4.size h5 (SON.refl _ _ _) hson2 (by omega) (by omega) (by omega) (hfr4.step hf5 (fun _ _ e => e.elim)) (((Fr.refl _ _).setIs _).setIs _ |>.alloc _)
        · have hb4 : (0 : Int) < r4 := by omega
          clear hr0
          go_wp2_with fail
          refine region_sig (Is tb) [(0, false), (1, false), (2, false), (3, false), (4, false), (5, false), (6, true), (7, false), (8, false), (9, false)] (by kernel_rfl) (by kernel_rfl) (fun w0 hf0 => ?_)
          have hB0 := hB3a.step hf0 (fun _ e => e.elim)
          have hh0 := hh3a.no hf0
          have hfr0 := hfr3a.step hf0 (fun _ _ e => e.elim)
          have x : ∀ g : Gr (Is tb) w0, g.W.cell? ⟨w.heap.size, 1, none⟩ = some (.slice a2 l2.length c2) := fun g => g.fr.cell hB0.d1 (by unfold Is; simp; omega)
          repeat (apply sig_q; exact rfl; exact rfl; exact rfl; intro K hK; go_big_quiet_op; go_big_quiet_on)
          apply sig_m
          exact rfl
          go_wp2_with fail
          refine (tape_next B tb (k + 1 + 1 + 1 + 1) (l2.length : Int) _ hh0.tape (by omega) (by omega) (by omega)).mono ?_
          rintro e w3b ⟨r5, rfl, hr5, hr5', ht3b, hf3b⟩
          go_wp2_with fail
          refine OnlyN.mk ⟨hf3b, ?_⟩
          have HH := hh0.next ht3b hf3b
          have HB := hB0.step hf3b hST
          have HF := hfr0.step hf3b (fun _ _ e => .inl e)
          obtain ⟨j, rfl⟩ := Int.eq_ofNat_of_zero_le hr5
          obtain ⟨b, off, y, hay, hy, hcy⟩ := HH.rq.b.at (k := j) (by omega)
          have hbt : b ≠ tb := fun e => HH.v2 _ hay (by intro e; rw [e] at hpos; simp at hpos) (.inl e)
          have hwy : (Lit.int .i64 y).wf = true := HH.rq.b.wf y (List.mem_of_getElem? hy)
          have HY := Lib.hid hay
          clear x hy hay
          have yc : ∀ g : Gr (Is tb) w3b, g.W.cell? ⟨b, off + j, none⟩ = some (.int .i64 y) := fun g => g.fr.cell hcy hbt
          rw [HY.out]
          repeat (apply sig_q; exact rfl; exact rfl; exact rfl; intro K hK; go_big_quiet_op; go_big_quiet_on)
          refine sig_end ?_
          rw [← HY.out]
          clear yc
          go_wp2_with fail
          refine (q_done_any qb b1 b2 f g N y _ HH.que hwy).mono ?_
          rintro e w4 ⟨bo, er, g', rfl, hmk, hq4, hf4⟩
          have hold := HH.old hf4
          have hB4 := HB.step hf4 hSTw
          have hfr4 := HF.step hf4 (fun _ _ e => .inr e)
          have x0 := hB4.d0
          have x1 := hB4.d1
          go_wp2_with fail
          refine (r_done a1 c1 l1 a2 c2 l2 f g y _ hold (by omega) (by omega)).mono ?_
          rintro e w5 ⟨bo', er', a2', c2', l2', g'', rfl, hmk', hr5, hlen2, hson2, hf5⟩
          obtain ⟨rfl, rfl, rfl⟩ := hmk.det hmk'
          have h5 := HH.after (hq4.mono (Nat.le_succ N)) hf4 hr5 (SON.refl _ _ _) hson2 hf5
          have hB5 := hB4.step hf5 (fun _ e => e.elim)
          have y0 := hB5.r0
          have y1 := hB5.r1
          have z0 := hB5.f0
          have z1 := hB5.f1
          have hz5 : w.heap.size + 1 < w5.heap.size := hB5.size
          have hz5' : w.heap.size < w5.heap.size := by omega
          have hb : (er == er) = true := by simp
          have hb' : (bo == bo) = true := by simp
          clear x0 x1
          go_wp2_with fail
          have q0 := res0 hB5.r (.slice a1 l1.length c1) (.slice a2' l2'.length c2') (.cells #[.slice a1 l1.length c1, .slice a2' l2'.length c2'] 52)
          have q1 := res1 hB5.r (.slice a1 l1.length c1) (.slice a2' l2'.length c2') (.cells #[.slice a1 l1.length c1, .slice a2' l2'.length c2'] 52)
          refine bodyPost_ret (v := .tuple #[.agg #[.slice a1 l1.length c1, .slice a2' l2'.length c2'], .bool true]) (by simp [results, Tryz.results27, go_sem, q0, q1]) rfl ?_
          exact q_finish h hB4.size h5 (SON.refl _ _ _) hson2 (by omega) (by omega) (by omega) (hfr4.step hf5 (fun _ _ e => e.elim)) (((Fr.refl _ _).setIs _).setIs _ |>.alloc _)
end Go.Proofs.YtanaompgapiikaaGreatDoor
/- The state of the laws QueuePlays, QueueForgets, QueueCopies: a tape, a queue, and the reference's queue in a variable. -/
namespace Go.Proofs.YtanaompgapiikaaGreatDoor
open Go.RowKit Go.Maps Go.Sort Go.Shelf
set_option linter.unusedVariables false

/-- w: the world in which the law was called; W: now. The reference's queue lies in block bt. -/
structure St (w W : World) (tb k qb b1 b2 bt : Nat) (a1 : Option Addr) (c1 : Nat) (l1 : List Int) (a2 : Option Addr) (c2 : Nat) (l2 : List Int) (f g : Int → Bool) (N : Nat) : Prop where
  both : Both W w.heap.size tb k qb b1 b2 a1 c1 l1 a2 c2 l2 f g N
  blk : ∃ T, W.heap[bt]? = some (.cells #[.slice a1 l1.length c1, .slice a2 l2.length c2] T (0, 0))
  x1 : Av (Is bt) a1 l1
  x2 : Av (Is bt) a2 l2
  nt : bt ≠ tb
  nq : bt ≠ qb
  Bt : w.heap.size ≤ bt
  Bq : w.heap.size ≤ qb
  fr : Fr (From w.heap.size) w W
  s1 : l1.length ≤ N
  s2 : l2.length ≤ N

section
variable {w W W' : World} {tb k qb b1 b2 bt : Nat} {a1 : Option Addr} {c1 : Nat} {l1 : List Int} {a2 : Option Addr} {c2 : Nat} {l2 : List Int} {f g : Int → Bool} {N : Nat}

theorem St.n1 (h : St w W tb k qb b1 b2 bt a1 c1 l1 a2 c2 l2 f g N) : bt ≠ b1 := by
  obtain ⟨T, hb⟩ := h.blk; exact h.both.que.dirty.ne_cells hb
theorem St.n2 (h : St w W tb k qb b1 b2 bt a1 c1 l1 a2 c2 l2 f g N) : bt ≠ b2 := by
  obtain ⟨T, hb⟩ := h.blk; exact h.both.que.busy.ne_cells hb
theorem St.lt (h : St w W tb k qb b1 b2 bt a1 c1 l1 a2 c2 l2 f g N) : bt < W.heap.size := by
  obtain ⟨T, hb⟩ := h.blk; exact lt_of_block hb
theorem St.cb0 (h : St w W tb k qb b1 b2 bt a1 c1 l1 a2 c2 l2 f g N) : W.cell? ⟨bt, 0, none⟩ = some (.slice a1 l1.length c1) := by
  obtain ⟨T, hb⟩ := h.blk; exact cell_of_block hb 0
theorem St.cb1 (h : St w W tb k qb b1 b2 bt a1 c1 l1 a2 c2 l2 f g N) : W.cell? ⟨bt, 1, none⟩ = some (.slice a2 l2.length c2) := by
  obtain ⟨T, hb⟩ := h.blk; exact cell_of_block hb 1
theorem St.fz (h : St w W tb k qb b1 b2 bt a1 c1 l1 a2 c2 l2 f g N) (i : Nat) : W.frozen? ⟨bt, i, none⟩ = false := by
  obtain ⟨T, hb⟩ := h.blk; exact free_of_block hb i

theorem St.no (h : St w W tb k qb b1 b2 bt a1 c1 l1 a2 c2 l2 f g N) (hf : Fr No W W') : St w W' tb k qb b1 b2 bt a1 c1 l1 a2 c2 l2 f g N := by
  obtain ⟨T, hb⟩ := h.blk
  exact ⟨h.both.no hf, ⟨T, hf.heap hb id⟩, h.x1, h.x2, h.nt, h.nq, h.Bt, h.Bq, h.fr.step hf (fun _ _ e => e.elim), h.s1, h.s2⟩
theorem St.next (h : St w W tb k qb b1 b2 bt a1 c1 l1 a2 c2 l2 f g N) (ht : Tape W' w.heap.size tb (k + 1)) (hf : Fr (Is tb) W W') : St w W' tb (k + 1) qb b1 b2 bt a1 c1 l1 a2 c2 l2 f g N := by
  obtain ⟨T, hb⟩ := h.blk
  exact ⟨h.both.next ht hf, ⟨T, hf.heap hb h.nt⟩, h.x1, h.x2, h.nt, h.nq, h.Bt, h.Bq, h.fr.step hf (fun b _ e => by have := h.both.tape.le; unfold Is at e; unfold From; omega), h.s1, h.s2⟩

/-- The start: the tape's box, a new queue, an empty queue of the reference. -/
theorem St.start {w0 w1 : World} {a : Option Addr} {cap : Nat} {l : List Int} (hl : Ints w a cap l) {T T' : TypeId} (h0 : w0 = w.alloc (.cells #[.slice a l.length cap, .int .i64 0] T'))
    (hq : Que w1 qb b1 b2 (fun _ => false) (fun _ => false) 0) (e0 : w0.heap.size ≤ qb) (e1 : w0.heap.size ≤ b1) (e2 : w0.heap.size ≤ b2) (hf : Fr No w0 w1) :
    St w (w1.alloc (.cells #[.slice none 0 0, .slice none 0 0] T)) w.heap.size 0 qb b1 b2 w1.heap.size none 0 [] none 0 [] (fun _ => false) (fun _ => false) 0 := by
  subst h0
  rw [World.size_alloc] at e0 e1 e2
  have hx : Fr No w1 (w1.alloc (.cells #[.slice none 0 0, .slice none 0 0] T)) := (Fr.refl _ _).alloc _
  have hql : qb < w1.heap.size := by obtain ⟨T, hb⟩ := hq.blk; exact lt_of_block hb
  have hw1 : w.heap.size + 1 ≤ w1.heap.size := by have := hf.size; rwa [World.size_alloc] at this
  refine ⟨⟨((Tape.new hl T').fr hf (fun _ _ => id) id).fr hx (fun _ _ => id) id, hq.fr hx id id id, ⟨Ints.nil _, Ints.nil _, List.Pairwise.nil, List.Pairwise.nil, by simp, by simp⟩, ?_, ?_, by omega, by omega, by omega, by omega, by omega⟩,
    ⟨T, block_alloc _ _⟩, ?_, ?_, by omega, by omega, by omega, by omega, ?_, by simp, by simp⟩
  · intro ad e; cases e
  · intro ad e; cases e
  · intro ad e; cases e
  · intro ad e; cases e
  · exact (((Fr.refl (From w.heap.size) w).alloc _).step hf (fun _ _ e => e.elim)).alloc _

/-- Behind a call, when its result is stored. -/
theorem St.called (h : St w W tb k qb b1 b2 bt a1 c1 l1 a2 c2 l2 f g N) {k' : Nat} {a1' : Option Addr} {c1' : Nat} {l1' : List Int} {a2' : Option Addr} {c2' : Nat} {l2' : List Int} {f' g' : Int → Bool}
    (hb : Both W' w.heap.size tb k' qb b1 b2 a1' c1' l1' a2' c2' l2' f' g' (N + 1)) (s1 : SON W a1 l1 a1' l1') (s2 : SON W a2 l2 a2' l2') (hf : Fr (Tri tb b1 b2) W W') (n1 : l1'.length ≤ l1.length + 1) (n2 : l2'.length ≤ l2.length + 1) :
    (∃ T, W'.heap[bt]? = some (.cells #[.slice a1 l1.length c1, .slice a2 l2.length c2] T (0, 0))) ∧
    St w ((W'.setCell ⟨bt, 0, none⟩ (.slice a1' l1'.length c1')).setCell ⟨bt, 1, none⟩ (.slice a2' l2'.length c2')) tb k' qb b1 b2 bt a1' c1' l1' a2' c2' l2' f' g' (N + 1) := by
  obtain ⟨T, hbt⟩ := h.blk
  have hn1 := h.n1
  have hn2 := h.n2
  have hnt := h.nt
  have hnq := h.nq
  have hB := h.Bt
  have hlt := h.lt
  have htt := h.both.tape.le
  have hb' : W'.heap[bt]? = some (.cells #[.slice a1 l1.length c1, .slice a2 l2.length c2] T (0, 0)) := hf.heap hbt (fun e => by unfold Tri at e; omega)
  have hx : Fr (Is bt) W' ((W'.setCell ⟨bt, 0, none⟩ (.slice a1' l1'.length c1')).setCell ⟨bt, 1, none⟩ (.slice a2' l2'.length c2')) := ((Fr.refl _ _).setIs _).setIs _
  have v1 : Av (Is bt) a1' l1' := h.x1.son s1 (fun b e => by unfold Is at e; omega)
  have v2 : Av (Is bt) a2' l2' := h.x2.son s2 (fun b e => by unfold Is at e; omega)
  refine ⟨⟨T, hb'⟩, ⟨⟨hb.tape.fr hx (fun b hb e => by unfold Is at e; omega) (fun e => by unfold Is at e; omega), hb.que.fr hx (fun e => by unfold Is at e; omega) (fun e => by unfold Is at e; omega) (fun e => by unfold Is at e; omega), hb.rq.no hx v1 v2, hb.v1, hb.v2, hb.t0, hb.t1, hb.t2, hb.B1, hb.B2⟩,
    ⟨T, res_block hb' _ _⟩, v1, v2, hnt, hnq, hB, h.Bq, ?_, by have := h.s1; omega, by have := h.s2; omega⟩⟩
  exact (h.fr.step hf (fun b _ e => by have := hb.B1; have := hb.B2; unfold Tri at e; unfold From; omega)).step hx (fun b _ e => by unfold Is at e; unfold From; omega)
end
end Go.Proofs.YtanaompgapiikaaGreatDoor
