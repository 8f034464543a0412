/- The view's up; the reference's ancestors. -/
import Derived.Test.YtpnpjaemlflplaaGreatDoorL3
import Derived.Test.YtpnpjaemlflplaaGreatDoorT5
namespace Go.Proofs.YtpnpjaemlflplaaGreatDoor
open Go.RowKit Go.Maps
set_option linter.unusedVariables false

theorem view_up (u v x : Value) (n : Int) (w : World) :
    Calls Tryz.prog 98 #[.agg #[u, v, x], .int .i64 n] w fun e w' => e = .returned (.func (.func 131) #[] #[.pointer (some ⟨w.heap.size, 0, none⟩), .pointer (some ⟨w.heap.size + 1, 0, none⟩)]) ∧ w' = (w.alloc (.cells #[u, v, x] 123)).alloc (.cells #[.int .i64 n] 3) := by
  go_enter Tryz.func98, Tryz.ntmps98
  go_wp2_with fail
  go_ret
  exact ⟨rfl, rfl⟩

theorem Devs.tail {w : World} {b off cap : Nat} {x : Dev} {l : List Dev} (h : Devs w (some ⟨b, off, none⟩) cap (x :: l)) : Devs w (some ⟨b, off + 10, none⟩) (cap - 1) l := by
  have h1 := h.len
  have h2 := h.max
  simp only [List.length_cons] at h1
  refine ⟨by omega, by omega, (fun e => by cases e), fun ad e hne => ?_⟩
  cases e
  obtain ⟨_, h3, h4⟩ := h.cell _ rfl (by simp)
  refine ⟨rfl, h3, fun i d hi j hj => ?_⟩
  have := h4 (i + 1) d (by simpa using hi) j hj
  rw [show off + 10 + (i * 10 + j) = off + ((i + 1) * 10 + j) by omega]
  exact this

set_option maxRecDepth 100000 in
set_option maxHeartbeats 1000000 in
theorem ref_ancestors (a : Option Addr) (cap : Nat) (ds : List Dev) (n : Int) (w : World) (hl : Devs w a cap ds) (hb : ds.length ≤ 1000000) :
    Calls Tryz.prog 32 #[.agg #[.slice a ds.length cap], .int .i64 n] w fun e w' => (∃ a' c', e = .returned (.slice a' (chain ds n).tail.length c') ∧ Devs w' a' c' (chain ds n).tail ∧ ∀ ad, a' = some ad → w.heap.size ≤ ad.block) ∧ Fr No w w' := by
  have hx : Fr No w (w.alloc (.cells #[.slice a ds.length cap] 25)) := (Fr.refl _ _).alloc _
  have hlx := hl.no hx (fun _ => id)
  go_enter Tryz.func32, Tryz.ntmps32
  go_wp2_with fail
  refine (ref_chain a cap ds n _ hlx hb).mono ?_
  rintro e w1 ⟨⟨v, rfl, hown⟩, hf1⟩
  have hw1 : w.heap.size + 1 ≤ w1.heap.size := by have := hf1.size; rwa [World.size_alloc] at this
  have hch : (chain ds n).length ≤ 1000000 := by have := chain_len ds n; omega
  obtain ⟨ac, cc, rfl, hD, hfresh⟩ := Devs.of_own hown
  have hfr1 := hx.step hf1 (fun _ _ h => h)
  clear hown hx hlx hl
  obtain ⟨c, hc⟩ : ∃ c, c = chain ds n := ⟨_, rfl⟩
  have Hc := Lib.hid hc
  rw [← hc] at hD hch
  rw [← hc]
  clear hc
  rcases c with _ | ⟨x, t⟩
  · go_wp2_with fail
    go_ret
    rw [← Hc.out]
    exact ⟨⟨none, 0, rfl, Devs.nil _, fun _ e => by cases e⟩, hfr1⟩
  · obtain ⟨b, off, d, rfl, _, _⟩ := hD.dev (k := 0) (by simp)
    have hcl := hD.len
    have hcm := hD.max
    simp only [List.length_cons] at hcl hch
    unfold maxLen at hcm
    have hT := Lib.hid hD.tail
    have hfs : w.heap.size ≤ b := by have := hfresh _ rfl; simp only [World.size_alloc] at this; omega
    clear hD
    have hlen : ((x :: t).length : Int) = (t.length : Int) + 1 := by simp
    by_cases hcc : cc = 1
    · subst hcc
      obtain rfl : t = [] := List.eq_nil_of_length_eq_zero (by omega)
      clear hcl hch hcm hlen
      go_wp2_with fail
      go_ret
      rw [← Hc.out]
      exact ⟨⟨some ⟨b, off, none⟩, 0, rfl, ⟨by simp, by simp, (fun e => by cases e), fun ad e hne => absurd rfl hne⟩, fun _ e => by cases e; exact hfs⟩, hfr1⟩
    · have hc1 : ¬ cc - 1 = 0 := by omega
      have hc2 : ¬ cc ≤ 1 := by omega
      go_wp2_with fail
      go_ret
      rw [← Hc.out]
      exact ⟨⟨some ⟨b, off + 10, none⟩, _, rfl, hT.out, fun _ e => by cases e; exact hfs⟩, hfr1⟩
end Go.Proofs.YtpnpjaemlflplaaGreatDoor
