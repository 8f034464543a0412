/- The seats: which texts Seats gathers, and their order; masters are devices. Plain. -/
import Derived.Test.YtpnpjaemlflplaaGreatDoorKE
import Derived.Sort.Walk0
namespace Go.Proofs.YtpnpjaemlflplaaGreatDoor
open Go.RowKit Go.Maps
set_option linter.unusedVariables false

section
variable {α : Type} [Inhabited α] [DecidableEq α]
theorem mem_upTo (d : Array α) (m : Nat) (x : α) (h : x ∈ Lib.compactUpTo d m) : ∃ j, j < m ∧ d[j]! = x := by
  unfold Lib.compactUpTo at h
  obtain ⟨j, hj, e⟩ := List.mem_map.1 h
  exact ⟨j, List.mem_range.1 (List.mem_filter.1 hj).1, e⟩
theorem upTo_mem (d : Array α) : ∀ (m j : Nat), j < m → d[j]! ∈ Lib.compactUpTo d m
  | 0, j, h => by omega
  | m + 1, j, h => by
    rw [Lib.compactUpTo_succ]
    by_cases hjm : j < m
    · exact List.mem_append_left _ (upTo_mem d m j hjm)
    · obtain rfl : j = m := by omega
      by_cases hk : Lib.keeps d j = true
      · rw [if_pos hk]; simp
      · cases j with
        | zero => simp [Lib.keeps] at hk
        | succ i =>
          have : d[i + 1]! = d[i]! := by
            apply Classical.byContradiction
            intro hne
            exact hk (Lib.keeps_pos (by simpa using hne))
          rw [this]
          exact List.mem_append_left _ (upTo_mem d (i + 1) i (by omega))
theorem mem_compact (zs : List α) (x : α) : x ∈ Lib.compact zs ↔ x ∈ zs := by
  unfold Lib.compact
  constructor
  · intro h
    obtain ⟨j, hj, rfl⟩ := mem_upTo _ _ _ h
    simp [hj]
  · intro h
    obtain ⟨j, hj, rfl⟩ := List.mem_iff_getElem.1 h
    have := upTo_mem zs.toArray zs.length j hj
    simpa [hj] using this
theorem upTo_strict (lt : α → α → Prop) (d : Array α) : ∀ (m : Nat), (∀ i j, i < j → j < m → d[j]! ≠ d[j - 1]! → lt d[i]! d[j]!) → (Lib.compactUpTo d m).Pairwise lt
  | 0, _ => by unfold Lib.compactUpTo; simp
  | m + 1, h => by
    rw [Lib.compactUpTo_succ]
    have ih := upTo_strict lt d m (fun i j h1 h2 => h i j h1 (by omega))
    by_cases hk : Lib.keeps d m = true
    · rw [if_pos hk, List.pairwise_append]
      refine ⟨ih, by simp, fun x hx y hy => ?_⟩
      simp at hy; subst hy
      obtain ⟨i, hi, rfl⟩ := mem_upTo _ _ _ hx
      unfold Lib.keeps at hk
      rcases of_decide_eq_true hk with e | e
      · omega
      · exact h i m hi (by omega) e
    · rw [if_neg hk]; simpa using ih
end

theorem mem_tidy (L : List ByteArray) (x : ByteArray) : x ∈ tidy L ↔ x ∈ L := by
  unfold tidy
  rw [List.mem_map]
  constructor
  · rintro ⟨y, hy, rfl⟩
    rw [mem_compact, List.mem_mergeSort, List.mem_map] at hy
    obtain ⟨z, hz, rfl⟩ := hy
    rw [lb_bl]; exact hz
  · intro h
    exact ⟨bl x, by rw [mem_compact, List.mem_mergeSort]; exact List.mem_map.2 ⟨x, h, rfl⟩, lb_bl x⟩
theorem bl_lb (x : List UInt8) : bl (lb x) = x := by unfold lb bl; simp
theorem le_ne_lt {x y : List UInt8} (h : x ≤ y) (hne : y ≠ x) : x < y := by
  apply Classical.byContradiction
  intro hn
  exact hne (List.le_antisymm (List.not_lt.1 hn) h)
theorem sorted_get (zs : List (List UInt8)) (h : zs.Pairwise (fun x y => x ≤ y)) {i j : Nat} (hij : i < j) (hj : j < zs.length) : zs.toArray[i]! ≤ zs.toArray[j]! := by
  have := List.pairwise_iff_getElem.1 h i j (by omega) hj hij
  simpa [hj, show i < zs.length by omega] using this
theorem compact_strict (zs : List (List UInt8)) (h : zs.Pairwise (fun x y => x ≤ y)) : (Lib.compact zs).Pairwise (fun x y => x < y) := by
  unfold Lib.compact
  refine upTo_strict _ _ _ (fun i j hij hj hne => ?_)
  have h2 : zs.toArray[j - 1]! ≤ zs.toArray[j]! := sorted_get zs h (by omega) hj
  refine le_ne_lt (sorted_get zs h hij hj) (fun e => ?_)
  by_cases hi : i = j - 1
  · subst hi; exact hne e
  · have h1 : zs.toArray[i]! ≤ zs.toArray[j - 1]! := sorted_get zs h (by omega) (by omega)
    rw [← e] at h1
    exact hne (List.le_antisymm h1 h2)
theorem tidy_strict (L : List ByteArray) : (tidy L).Pairwise (fun x y => Op.bytesLess x.toList y.toList = true) := by
  unfold tidy
  rw [List.pairwise_map]
  refine (compact_strict _ ?_).imp (fun {a b} h => ?_)
  · have := List.pairwise_mergeSort (le := fun (x y : List UInt8) => decide (x ≤ y)) (fun a b c h1 h2 => by simp at h1 h2 ⊢; exact List.le_trans h1 h2) (fun a b => by simp; exact List.le_total a b) (L.map bl)
    exact this.imp (fun h => by simpa using h)
  · rw [bytesLess_eq, ByteArray.toList_eq, ByteArray.toList_eq]
    have h1 : (lb a).data.toList = a := bl_lb a
    have h2 : (lb b).data.toList = b := bl_lb b
    rw [h1, h2]
    simpa using h
theorem tidy_next (L : List ByteArray) {k : Nat} {x y : ByteArray} (hx : (tidy L)[k]? = some x) (hy : (tidy L)[k + 1]? = some y) : Op.bytesLess x.toList y.toList = true := by
  obtain ⟨h1, rfl⟩ := List.getElem?_eq_some_iff.1 hx
  obtain ⟨h2, rfl⟩ := List.getElem?_eq_some_iff.1 hy
  exact List.pairwise_iff_getElem.1 (tidy_strict L) k (k + 1) h1 h2 (by omega)

theorem hasS_mem (l : List ByteArray) (s : ByteArray) : hasS l s = true ↔ s ∈ l := by
  unfold hasS
  rw [List.any_eq_true]
  constructor
  · rintro ⟨x, hx, e⟩
    rw [strEq] at e
    obtain rfl := of_decide_eq_true e
    exact hx
  · intro h
    exact ⟨s, h, by rw [strEq]; simp⟩
theorem taggedL_pos (ds : List Dev) (l : List Rec) (seat : ByteArray) (vs : List ByteArray) (q : List Dev) : 0 < (taggedL ds l seat vs q).length ↔ ∃ x ∈ q.map Dev.index, tagOk ds l vs x = true ∧ seatOf ds l x = seat := by
  unfold taggedL
  rw [List.length_pos_iff_exists_mem]
  constructor
  · rintro ⟨x, hx⟩
    obtain ⟨h1, h2⟩ := List.mem_filter.1 hx
    unfold inSeat at h2
    rw [Bool.and_eq_true, strEq] at h2
    exact ⟨x, h1, h2.1, of_decide_eq_true h2.2⟩
  · rintro ⟨x, h1, h2, h3⟩
    exact ⟨x, List.mem_filter.2 ⟨h1, by unfold inSeat; rw [h2, h3, strEq]; simp⟩⟩
/-- A text is a seat just if it is seat0 or has a master. -/
theorem seats_has (ds : List Dev) (l : List Rec) (s : ByteArray) : hasS (seatsOut ds l ds) s = ((s.toList == seat0.toList) || decide ((0 : Int) < ((taggedL ds l s [tagSeat, tagMaster] ds).length : Int))) := by
  rw [Bool.eq_iff_iff, hasS_mem, strEq, Bool.or_eq_true, decide_eq_true_iff, decide_eq_true_iff]
  unfold seatsOut
  rw [mem_tidy]
  unfold seatsL
  rw [List.mem_cons, List.mem_map, show ((0 : Int) < ((taggedL ds l s [tagSeat, tagMaster] ds).length : Int)) ↔ 0 < (taggedL ds l s [tagSeat, tagMaster] ds).length by omega, taggedL_pos]
  refine or_congr Iff.rfl ⟨?_, ?_⟩
  · rintro ⟨x, hx, e⟩
    obtain ⟨h1, h2⟩ := List.mem_filter.1 hx
    exact ⟨x, h1, h2, e⟩
  · rintro ⟨x, h1, h2, e⟩
    exact ⟨x, List.mem_filter.2 ⟨h1, h2⟩, e⟩
/-- Masters are devices. -/
theorem masters_in (ds : List Dev) (l : List Rec) (s : ByteArray) (q : List Dev) {x : Int} (h : x ∈ taggedL ds l s [tagSeat, tagMaster] q) : decide (x ∈ taggedL ds l s [tagSeat] q) = true := by
  rw [decide_eq_true_iff]
  unfold taggedL at h ⊢
  obtain ⟨h1, h2⟩ := List.mem_filter.1 h
  refine List.mem_filter.2 ⟨h1, ?_⟩
  unfold inSeat tagOk at h2 ⊢
  simp only [List.all_cons, List.all_nil, Bool.and_true, Bool.and_eq_true] at h2 ⊢
  exact ⟨⟨h2.1.1, h2.1.2.1⟩, h2.2⟩
end Go.Proofs.YtpnpjaemlflplaaGreatDoor
