/- Plain laws of chains: a chain without its own device. -/
import Derived.Test.YtpnpjaemlflplaaGreatDoorTr
namespace Go.Proofs.YtpnpjaemlflplaaGreatDoor
open Go.RowKit
set_option linter.unusedVariables false

theorem Ch.sub {ds : List Dev} {n : Int} {l : List Dev} (h : Ch ds n l) : ∀ x ∈ l, ∃ m, Ch ds x.index m ∧ m.length ≤ l.length := by
  induction h with
  | nil h => intro x hx; cases hx
  | @cons n d l h t ih =>
    intro x hx
    rcases List.mem_cons.1 hx with rfl | hx
    · obtain ⟨_, rfl⟩ := look_some h
      exact ⟨_, .cons h t, Nat.le_refl _⟩
    · obtain ⟨m, h1, h2⟩ := ih x hx
      exact ⟨m, h1, by simp only [List.length_cons]; omega⟩
theorem Ch.ne {ds : List Dev} {n : Int} {d : Dev} {l : List Dev} (h : Ch ds n (d :: l)) : ∀ x ∈ l, x.index ≠ n := by
  intro x hx e
  cases h with
  | cons h t =>
    obtain ⟨m, h1, h2⟩ := t.sub x hx
    rw [e] at h1
    have := congrArg List.length (h1.det (.cons h t))
    simp only [List.length_cons] at this
    omega
/-- What the program's Ancestors gathers is the reference's chain without its first. -/
theorem TreeOk.anc {ds : List Dev} (h : TreeOk ds) (n : Int) : (chain ds n).filter (fun d => d.index != n) = (chain ds n).tail := by
  have hc := h.chn0 n
  generalize chain ds n = l at hc
  cases l with
  | nil => rfl
  | cons d l =>
    have h1 := hc.ne
    cases hc with
    | cons hl t =>
      obtain ⟨_, rfl⟩ := look_some hl
      rw [List.filter_cons]
      simp only [bne_self_eq_false, Bool.false_eq_true, if_false, List.tail_cons]
      exact List.filter_eq_self.2 fun x hx => by simpa using h1 x hx
end Go.Proofs.YtpnpjaemlflplaaGreatDoor
