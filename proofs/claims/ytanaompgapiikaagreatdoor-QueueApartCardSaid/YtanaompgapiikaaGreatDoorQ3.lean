/- The list of a set: slices.Sorted(maps.Keys(s)). Dirty, Busy, Copy. -/
import Derived.Test.YtanaompgapiikaaGreatDoorQ2
import Derived.Test.YtanaompgapiikaaGreatDoorI1
import Derived.Test.YtanaompgapiikaaGreatDoorShelf
import Derived.OwnWalkIn
import Derived.Shelf.AbstractIn
namespace Go.Proofs.YtanaompgapiikaaGreatDoor
open Go.RowKit Go.Maps Go.Sort Go.Shelf
set_option linter.unusedVariables false

/-- A list that ascends strictly. -/
def Asc (l : List Int) : Prop := l.Pairwise (· < ·)

theorem Asc.ext : ∀ {l l' : List Int}, Asc l → Asc l' → (∀ x, x ∈ l ↔ x ∈ l') → l = l'
  | [], [], _, _, _ => rfl
  | [], y :: t, _, _, h => by have := (h y).2 (by simp); simp at this
  | x :: s, [], _, _, h => by have := (h x).1 (by simp); simp at this
  | x :: s, y :: t, h1, h2, h => by
    have a1 := List.pairwise_cons.1 h1
    have a2 := List.pairwise_cons.1 h2
    have hx := (h x).1 (by simp)
    have hy := (h y).2 (by simp)
    have e : x = y := by
      rcases List.mem_cons.1 hx with h3 | h3
      · exact h3
      · rcases List.mem_cons.1 hy with h4 | h4
        · exact h4.symm
        · have := a1.1 y h4; have := a2.1 x h3; omega
    subst e
    refine congrArg _ (Asc.ext a1.2 a2.2 fun z => ?_)
    constructor
    · intro hz
      rcases List.mem_cons.1 ((h z).1 (by simp [hz])) with h3 | h3
      · subst h3; have := a1.1 z hz; omega
      · exact h3
    · intro hz
      rcases List.mem_cons.1 ((h z).2 (by simp [hz])) with h3 | h3
      · subst h3; have := a2.1 z hz; omega
      · exact h3

theorem sortsI (m : Nat) : AnyZI.SortsIn Tryz.prog Tryz.sortedI_ren Fence.wide m :=
  ⟨fun blk off cap ss W hH hblk hsz => callsIn_wide.2 (AnyM.slices_Sort_int Tryz.sortI blk off cap ss W hH hblk hsz),
   fun p cap W => callsIn_wide.2 (AnyM.slices_Sort_int_none Tryz.sortI p cap W)⟩

theorem mem_intKeys {H : Type} {P : Program} {k : TypeId} {R : Value → Option (DataW H × List MemPlace)} {w : World} {b n : Nat} {D : DataW H} (h : w.ownsMap P k R b n D) (hk : P.underlying k = some (.int .i64)) (x : Int) :
    x ∈ intKeys D ↔ has D (.int .i64 x) = true := by
  obtain ⟨es, rfl, hko⟩ := h.keysOf
  rw [has_eq, List.any_eq_true]
  show x ∈ es.map (fun p => Go.intOf p.1) ↔ _
  rw [List.mem_map]
  constructor
  · rintro ⟨p, hp, rfl⟩
    obtain ⟨v, hv⟩ := hko p hp
    obtain ⟨y, _, hy, _⟩ := Maps.keyOf_i64 hk hv
    exact ⟨p, hp, by rw [hy]; simp [Lit.sameKey, Go.intOf]⟩
  · rintro ⟨p, hp, hs⟩
    obtain ⟨v, hv⟩ := hko p hp
    obtain ⟨y, _, hy, _⟩ := Maps.keyOf_i64 hk hv
    rw [hy] at hs
    exact ⟨p, hp, by rw [hy]; simpa [Lit.sameKey, Go.intOf] using hs⟩

theorem nodup_intKeys {H : Type} {P : Program} {k : TypeId} {R : Value → Option (DataW H × List MemPlace)} {w : World} {b n : Nat} {D : DataW H} (h : w.ownsMap P k R b n D) (K : Keyed P k) (hk : P.underlying k = some (.int .i64)) :
    (intKeys D).Nodup := by
  obtain ⟨es, rfl, hko⟩ := h.keysOf
  obtain ⟨es', e, hp⟩ := h.tidy K
  obtain rfl : es = es' := by simpa using e
  show (es.map fun p => Go.intOf p.1).Nodup
  refine List.pairwise_map.2 (hp.imp_of_mem fun {p q} hp' hq' hne e => hne ?_)
  obtain ⟨v, hv⟩ := hko p hp'
  obtain ⟨a, _, ha, _⟩ := Maps.keyOf_i64 hk hv
  obtain ⟨v', hv'⟩ := hko q hq'
  obtain ⟨b, _, hb, _⟩ := Maps.keyOf_i64 hk hv'
  rw [ha, hb] at e ⊢
  exact congrArg _ e

theorem asc_sorted {l : List Int} (h : l.Nodup) : Asc (l.mergeSort (fun x y => decide (x ≤ y))) := by
  have tr : ∀ a b c : Int, decide (a ≤ b) = true → decide (b ≤ c) = true → decide (a ≤ c) = true := fun a b c h1 h2 => by simp only [decide_eq_true_eq] at *; omega
  have to : ∀ a b : Int, (decide (a ≤ b) || decide (b ≤ a)) = true := fun a b => by simp only [Bool.or_eq_true, decide_eq_true_eq]; omega
  have h1 := List.pairwise_mergeSort tr to l
  have h2 : (l.mergeSort (fun x y => decide (x ≤ y))).Nodup := (List.mergeSort_perm l _).nodup_iff.2 h
  refine (h1.and h2).imp ?_
  rintro a b ⟨h3, h4⟩
  simp only [decide_eq_true_eq] at h3
  omega

theorem intKeys_len (D : DataW Unit) : (intKeys D).length ≤ Maps.size D := by
  cases D <;> simp [intKeys, Maps.size]

set_option maxHeartbeats 1000000 in
theorem set_list_own (mb : Nat) (f : Int → Bool) (N : Nat) (w : World) (hs : ISet w mb f N) (hN : N ≤ 1099511627776) :
    Calls Tryz.prog 72 #[.map (some mb)] w fun e w' => ∃ v l, e = .returned v ∧ w'.ownsRow w.heap.size 3 1 v l.length (l.map (Value.int .i64)) ∧ Asc l ∧ (∀ x, x ∈ l ↔ f x = true) ∧ (∀ x ∈ l, (Lit.int .i64 x).wf = true) ∧ l.length ≤ N ∧ Fr No w w' := by
  obtain ⟨D, n, hn, hown, hf⟩ := hs
  have hmax : Maps.size D ≤ maxLen := by have := hown.size_le; unfold maxLen; omega
  have hbytes : Maps.size D * 8 ≤ 140737488355328 := by have := hown.size_le; omega
  have hbl := hown.lt
  have hmem := mem_intKeys hown Tryz.underlying3
  have hnd := nodup_intKeys hown lawI Tryz.underlying3
  have hwf := intKeys_wf hown Tryz.underlying3
  have hkey : Calls Tryz.prog 72 #[.map (some mb)] w fun e w' => ∃ (v : Value) (ss : List Int), e = .returned v ∧ ss.Perm (intKeys D) ∧
      w'.ownsRow w.heap.size 3 1 v ss.length ((ss.mergeSort (fun x y => decide (x ≤ y))).map encZ) ∧ Below w.heap.size w w' := by
    clear hmem hnd hwf hf
    refine (callsIn_wide (n := 6)).1 ?_
    have hseq : SeqGives Fence.wide 2 Tryz.prog 166 #[.pointer (some ⟨w.heap.size, 0, none⟩)] encZ (fun ss => ss.Perm (intKeys D)) (Maps.size D) (w.alloc (.cells #[.map (some mb)] 98)) :=
      AnyZI.keys_gives (ρ := Tryz.keysQ_ren) { Tryz.keysQ with } Fence.wide _ trivial rfl (by omega) w.heap.size mb n D _ (by simp) (by simp) (by
        obtain ⟨es, clock, hb, Ft, hs, hD⟩ := hown
        exact ⟨es, clock, (Below.heap_alloc _ _ mb hbl).trans hb, Ft, hs, hD⟩)
    have cK : ∀ mb W, CallsIn Fence.wide 5 Tryz.prog 119 #[.map mb] W fun e w' => e = .returned (.func (.func 166) #[] #[.pointer (some ⟨W.heap.size, 0, none⟩)]) ∧ w' = W.alloc (.cells #[.map mb] 98) := fun mb W => AnyZI.keys_in Tryz.keysQ Fence.wide 5 trivial rfl mb W
    have cS := AnyZI.sorted_in Tryz.sortedI Fence.wide 5 trivial trivial trivial trivial rfl (by omega) (sortsI _) (enters_of Tryz.func165 (by kernel_rfl) rfl) 166 #[.pointer (some ⟨w.heap.size, 0, none⟩)] trivial (enters_of Tryz.func166 (by kernel_rfl) rfl) _ _ hmax hbytes _ hseq
    change CallsIn _ _ Tryz.prog 118 _ _ _ at cS
    have hfK : Fence.wide.fn 119 := trivial
    have hfS : Fence.wide.fn 118 := trivial
    refine callsIn_of_wp Tryz.func72 rfl trivial ?_ rfl
    simp only [Tryz.ntmps72, List.size_toArray, List.length_cons, List.length_nil, Nat.reduceAdd, Nat.reduceSub, Array.replicate_succ, Array.replicate_zero, List.push_toArray, List.append_toArray, List.nil_append, List.cons_append]
    gi_wp2_with (first
      | (gi_at_call 119; refine (cK _ _).mono ?_; rintro e w' ⟨rfl, rfl⟩)
      | (gi_at_call 118; refine cS.mono ?_; rintro e w' ⟨v, ss, rfl, hS, hrow, hnil, hb⟩))
    go_ret
    exact ⟨v, ss, rfl, hS, ownsRow_base_a hrow (by simp), ((Below.refl _ w).alloc (Nat.le_refl _) _).trans (hb.mono (by simp))⟩
  refine hkey.mono ?_
  rintro e w' ⟨v, ss, rfl, hperm, hrow, hb⟩
  have hp : (ss.mergeSort (fun x y => decide (x ≤ y))).Perm (intKeys D) := (List.mergeSort_perm ss _).trans hperm
  have hl : (ss.mergeSort (fun x y => decide (x ≤ y))).length = ss.length := by simp
  rw [← hl] at hrow
  have hlen : (intKeys D).length ≤ N := by
    have h1 := hown.size_le
    have h2 := intKeys_len D
    omega
  exact ⟨v, _, rfl, hrow, asc_sorted (hperm.nodup_iff.2 hnd), fun x => by rw [hp.mem_iff, hmem, hf], fun x hx => hwf x (hp.mem_iff.1 hx), by rw [hp.length_eq]; exact hlen, Fr.of_below_size hb⟩

theorem set_list (mb : Nat) (f : Int → Bool) (N : Nat) (w : World) (hs : ISet w mb f N) (hN : N ≤ 1099511627776) :
    Calls Tryz.prog 72 #[.map (some mb)] w fun e w' => ∃ a cap l, e = .returned (.slice a l.length cap) ∧ Ints w' a cap l ∧ Asc l ∧ (∀ x, x ∈ l ↔ f x = true) ∧ (∀ ad, a = some ad → w.heap.size ≤ ad.block) ∧ Fr No w w' := by
  refine (set_list_own mb f N w hs hN).mono ?_
  rintro e w' ⟨v, l, rfl, hrow, h1, h2, h3, _, h4⟩
  obtain ⟨a, cap, rfl, hI, hfresh⟩ := Ints.of_own hrow h3
  exact ⟨a, cap, l, rfl, hI, h1, h2, hfresh, h4⟩

set_option maxHeartbeats 400000 in
theorem q_dirty (qb b1 b2 : Nat) (f g : Int → Bool) (N : Nat) (w : World) (hq : Que w qb b1 b2 f g N) (hN : N ≤ 1099511627776) :
    Calls Tryz.prog 23 #[.pointer (some ⟨qb, 0, none⟩)] w fun e w' => ∃ a cap l, e = .returned (.slice a l.length cap) ∧ Ints w' a cap l ∧ Asc l ∧ (∀ x, x ∈ l ↔ f x = true) ∧ (∀ ad, a = some ad → w.heap.size ≤ ad.block) ∧ Fr No w w' := by
  have c0 := hq.c0
  go_enter Tryz.func23, Tryz.ntmps23
  go_wp2_with fail
  refine (set_list b1 f N _ hq.dirty hN).mono ?_
  rintro e w1 ⟨a, cap, l, rfl, h⟩
  go_wp2_with fail
  go_ret
  exact ⟨a, cap, l, rfl, h⟩

set_option maxHeartbeats 400000 in
theorem q_busy (qb b1 b2 : Nat) (f g : Int → Bool) (N : Nat) (w : World) (hq : Que w qb b1 b2 f g N) (hN : N ≤ 1099511627776) :
    Calls Tryz.prog 32 #[.pointer (some ⟨qb, 0, none⟩)] w fun e w' => ∃ a cap l, e = .returned (.slice a l.length cap) ∧ Ints w' a cap l ∧ Asc l ∧ (∀ x, x ∈ l ↔ g x = true) ∧ (∀ ad, a = some ad → w.heap.size ≤ ad.block) ∧ Fr No w w' := by
  have c0 := hq.c1
  go_enter Tryz.func32, Tryz.ntmps32
  go_wp2_with fail
  refine (set_list b2 g N _ hq.busy hN).mono ?_
  rintro e w1 ⟨a, cap, l, rfl, h⟩
  go_wp2_with fail
  go_ret
  exact ⟨a, cap, l, rfl, h⟩
end Go.Proofs.YtanaompgapiikaaGreatDoor
