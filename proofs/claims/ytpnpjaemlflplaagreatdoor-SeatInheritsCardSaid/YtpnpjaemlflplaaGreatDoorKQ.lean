/- SeatInherits: a device whose records name no seat has the seat of its parent. Plain. -/
import Derived.Test.YtpnpjaemlflplaaGreatDoorKE
namespace Go.Proofs.YtpnpjaemlflplaaGreatDoor
open Go.RowKit Go.Maps
set_option linter.unusedVariables false

theorem GoodR.mem {ds q : List Dev} {out : List Rec} (h : GoodR ds q out) : ∀ r ∈ out, ∃ x, RecG ds x r := by
  induction h with
  | nil => simp
  | skip h x ih => exact ih
  | put h hr ih =>
    intro r hm
    rcases List.mem_append.1 hm with h1 | h1
    · exact ih r h1
    · simp at h1; subst h1; exact ⟨_, hr⟩
theorem GoodR.val {ds q : List Dev} {out : List Rec} (h : GoodR ds q out) : ∀ r ∈ out, ∀ p ∈ r.props, p.2.toList.isEmpty = false := by
  intro r hr p hp
  obtain ⟨x, hg⟩ := h.mem r hr
  rcases hg.pr with e | ⟨v, hv, e⟩
  · rw [e] at hp; simp at hp
  · rw [e] at hp
    simp at hp
    subst hp
    simp at hv
    rcases hv with rfl | rfl | rfl <;> (simp only [ByteArray.toList_eq]; rfl)
/-- A record names no seat. -/
def noId (r : Rec) : Prop := ∀ p ∈ r.props, (p.1.toList == keySeat.toList) = false
theorem getP_no {r : Rec} (h : noId r) : getP r.props keySeat = ⟨#[]⟩ := by
  unfold getP
  rw [List.find?_eq_none.2 (fun p hp => by unfold isKey; rw [h p hp]; simp)]
  rfl
theorem idSeat_no {ds : List Dev} {l : List Rec} {n : Int} (h : ∀ r ∈ l, r.is n (pathOf (origin ds n)) = true → noId r) : isName (idSeat ds l n) = false := by
  have e : idSeat ds l n = ⟨#[]⟩ := by
    unfold idSeat recOf
    split
    · rfl
    · cases ho : l.find? (Rec.is n (pathOf (origin ds n))) with
      | none => rfl
      | some r => exact getP_no (h r (List.mem_of_find?_eq_some ho) (List.find?_some ho))
  rw [e]; exact n_none
theorem inherits {ds : List Dev} {l : List Rec} (hT : TreeOk ds) {d : Dev} (hd : d ∈ ds) (h : ∀ r ∈ l, r.is d.index (pathOf (origin ds d.index)) = true → noId r) :
    seatOf ds l d.index = if d.parent = 0 then seat0 else seatOf ds l d.parent := by
  have hlk := hT.lk hd
  have h1 : seatOf ds l d.index = seatL ds l ((chain ds d.parent).map Dev.index) := by
    unfold seatOf
    rw [if_neg (by rw [hlk]; simp), hT.chain_cons hlk, List.map_cons]
    show (if isName (idSeat ds l d.index) then _ else _) = _
    rw [idSeat_no h, if_neg (by simp)]
  rw [h1]
  by_cases h0 : d.parent = 0
  · rw [if_pos h0, h0, TreeOk.chain_none hT.zero]; rfl
  · rw [if_neg h0]
    obtain ⟨k, hk⟩ := List.getElem?_of_mem hd
    rcases hT.pa k d hk with e | ⟨j, e, hj, he, hi⟩
    · exact absurd e h0
    · unfold seatOf
      rw [if_neg (by rw [← hi, hT.lk (List.mem_of_getElem? he)]; simp)]
/-- What the loops have seen of a device's own seat: none named, if the text is still empty. -/
def OwnA (own : ByteArray) (p : Rec → Bool) (m : List Rec) : Prop := own.toList.isEmpty = true → ∀ x ∈ m, p x = true → noId x
def OwnB (own : ByteArray) (p : Rec → Bool) (m : List Rec) (r : Rec) (j : Nat) : Prop :=
  own.toList.isEmpty = true → (∀ x ∈ m, p x = true → noId x) ∧ (p r = true → ∀ y ∈ r.props.take j, (y.1.toList == keySeat.toList) = false)
theorem OwnA.start (own : ByteArray) (p : Rec → Bool) : OwnA own p [] := by intro _; simp
theorem OwnA.into {own : ByteArray} {p : Rec → Bool} {m : List Rec} (h : OwnA own p m) (r : Rec) : OwnB own p m r 0 := fun e => ⟨h e, by simp⟩
theorem OwnB.miss {own : ByteArray} {p : Rec → Bool} {m : List Rec} {r : Rec} {j : Nat} {y : ByteArray × ByteArray} (h : OwnB own p m r j) (hy : r.props[j]? = some y) (hn : p r = true → (y.1.toList == keySeat.toList) = false) : OwnB own p m r (j + 1) := by
  intro e
  obtain ⟨h1, h2⟩ := h e
  refine ⟨h1, fun hp z hz => ?_⟩
  rw [List.take_add_one, hy] at hz
  rcases List.mem_append.1 hz with h3 | h3
  · exact h2 hp z h3
  · simp at h3; subst h3; exact hn hp
theorem OwnB.hit {own : ByteArray} (p : Rec → Bool) (m : List Rec) (r : Rec) (j : Nat) (h : own.toList.isEmpty = false) : OwnB own p m r j := fun e => by rw [h] at e; cases e
theorem OwnB.done {own : ByteArray} {p : Rec → Bool} {m : List Rec} {r : Rec} (h : OwnB own p m r r.props.length) : OwnA own p (m ++ [r]) := by
  intro e x hx hp
  obtain ⟨h1, h2⟩ := h e
  rcases List.mem_append.1 hx with h3 | h3
  · exact h1 x h3 hp
  · simp at h3; subst h3
    intro y hy
    exact h2 hp y (by rwa [List.take_length])
end Go.Proofs.YtpnpjaemlflplaaGreatDoor
