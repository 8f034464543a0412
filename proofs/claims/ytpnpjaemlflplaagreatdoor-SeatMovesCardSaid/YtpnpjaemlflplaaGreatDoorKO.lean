/- SeatOthers: each record as often as its Index stands in a list; the seat stays. Plain. -/
import Derived.Test.YtpnpjaemlflplaaGreatDoorK5
namespace Go.Proofs.YtpnpjaemlflplaaGreatDoor
open Go.RowKit Go.Maps
set_option linter.unusedVariables false

def dupR (c : Rec → Nat) (l : List Rec) : List Rec := l.flatMap fun r => List.replicate (c r) r
theorem dupR_snoc (c : Rec → Nat) (l : List Rec) (r : Rec) : dupR c (l ++ [r]) = dupR c l ++ List.replicate (c r) r := by simp [dupR]
theorem find_rep (p : Rec → Bool) (r : Rec) : ∀ n : Nat, (List.replicate n r).find? p = if 0 < n ∧ p r = true then some r else none
  | 0 => rfl
  | n + 1 => by
    rw [List.replicate_succ, List.find?_cons]
    cases hp : p r with
    | true => simp
    | false => simp only; rw [find_rep p r n]; simp [hp]
theorem find_dup (p : Rec → Bool) (c : Rec → Nat) : ∀ l : List Rec, (∀ r ∈ l, p r = true → 0 < c r) → (dupR c l).find? p = l.find? p
  | [], _ => rfl
  | r :: t, h => by
    have e : dupR c (r :: t) = List.replicate (c r) r ++ dupR c t := by simp [dupR]
    rw [e, List.find?_append, find_rep, find_dup p c t (fun x hx => h x (by simp [hx])), List.find?_cons]
    cases hp : p r with
    | true => rw [if_pos ⟨h r (by simp) hp, rfl⟩]; rfl
    | false => rw [if_neg (by simp)]; rfl
/-- How often a number stands in a list. -/
def cntI (U : List Int) (i : Int) : Nat := (U.filter fun u => decide (i = u)).length
theorem cntI_pos {U : List Int} {i : Int} (h : i ∈ U) : 0 < cntI U i := List.length_pos_of_mem (List.mem_filter.2 ⟨h, by simp⟩)
theorem cntI_snoc (U : List Int) (u i : Int) : cntI (U ++ [u]) i = cntI U i + if i = u then 1 else 0 := by
  unfold cntI
  rw [List.filter_append, List.length_append]
  by_cases h : i = u
  · simp [h]
  · simp [h]
theorem cntI_le (U : List Int) (i : Int) : cntI U i ≤ U.length := List.length_filter_le _ _
def someR (U : List Int) (l : List Rec) : List Rec := dupR (fun r => cntI U r.index) l
theorem someR_len (U : List Int) : ∀ l : List Rec, (someR U l).length ≤ l.length * U.length
  | [] => by simp [someR, dupR]
  | r :: t => by
    have e : someR U (r :: t) = List.replicate (cntI U r.index) r ++ someR U t := by simp [someR, dupR]
    have := someR_len U t
    have := cntI_le U r.index
    rw [e, List.length_append, List.length_replicate, List.length_cons, Nat.add_mul]
    omega
theorem recOf_some (ds : List Dev) (l : List Rec) (U : List Int) (n : Int) (h : n ∈ U) : recOf ds (someR U l) n = recOf ds l n := by
  unfold recOf someR
  rw [find_dup _ _ l (fun r _ hp => cntI_pos (by
    unfold Rec.is at hp
    rw [Bool.and_eq_true] at hp
    rw [of_decide_eq_true hp.1]; exact h))]
theorem seatL_congr (ds : List Dev) (l l' : List Rec) : ∀ c : List Int, (∀ i ∈ c, idSeat ds l i = idSeat ds l' i) → seatL ds l c = seatL ds l' c
  | [], _ => rfl
  | i :: t, h => by
    unfold seatL
    rw [h i (by simp), seatL_congr ds l l' t (fun x hx => h x (by simp [hx]))]
theorem seatOf_some (ds : List Dev) (l : List Rec) (U : List Int) (n : Int) (h : ∀ x ∈ chain ds n, x.index ∈ U) : seatOf ds (someR U l) n = seatOf ds l n := by
  unfold seatOf
  rw [seatL_congr ds (someR U l) l _ (fun i hi => by
    obtain ⟨x, hx, rfl⟩ := List.mem_map.1 hi
    unfold idSeat
    rw [recOf_some ds l U _ (h x hx)])]
theorem someR_mem {U : List Int} {l : List Rec} {r : Rec} (h : r ∈ someR U l) : r ∈ l := by
  unfold someR dupR at h
  obtain ⟨x, hx, e⟩ := List.mem_flatMap.1 h
  obtain ⟨_, rfl⟩ := List.mem_replicate.1 e
  exact hx
end Go.Proofs.YtpnpjaemlflplaaGreatDoor
