/- What an insertion makes of chains and origins. Plain laws. -/
import Derived.Test.YtpnpjaemlflplaaGreatDoorTr
namespace Go.Proofs.YtpnpjaemlflplaaGreatDoor
set_option linter.unusedVariables false

theorem look_ins {ds : List Dev} {k : Nat} {d : Dev} (hnd : ((insAt ds k d).map Dev.index).Nodup) (hnew : look ds d.index = none) (n : Int) : look (insAt ds k d) n = if n = d.index then some d else look ds n := by
  split
  · rename_i e; subst e
    exact look_of_nodup hnd (insAt_mem.2 (.inl rfl))
  · rename_i hne
    cases hl : look ds n with
    | none =>
      rw [look_none] at hl ⊢
      intro e he
      rcases insAt_mem.1 he with rfl | he
      · exact fun h => hne h.symm
      · exact hl e he
    | some e =>
      obtain ⟨he, rfl⟩ := look_some hl
      exact look_of_nodup hnd (insAt_mem.2 (.inr he))

theorem Ch.ins {ds : List Dev} {k : Nat} {d : Dev} (hT : TreeOk ds) (hnd : ((insAt ds k d).map Dev.index).Nodup) (hnew : look ds d.index = none) (hi : 1 ≤ d.index) {n : Int} {l : List Dev} (h : Ch ds n l) (hn : n ≠ d.index) : Ch (insAt ds k d) n l := by
  induction h with
  | nil h => exact .nil (by rw [look_ins hnd hnew, if_neg hn]; exact h)
  | @cons n e l h t ih =>
    refine .cons (by rw [look_ins hnd hnew, if_neg hn]; exact h) (ih ?_)
    obtain ⟨he, _⟩ := look_some h
    obtain ⟨j, hj⟩ := List.getElem?_of_mem he
    rcases hT.pa j e hj with h0 | ⟨j', f, _, hf, hfi⟩
    · rw [h0]; omega
    · rw [← hfi]; exact look_none.1 hnew f (List.mem_of_getElem? hf)

/-- A tree whose origins are different and not too deep. -/
structure TreeWf (ds : List Dev) : Prop where
  ok : TreeOk ds
  uo : ∀ d ∈ ds, ∀ e ∈ ds, origin ds d.index = origin ds e.index → d = e
  dp : ∀ d ∈ ds, (origin ds d.index).length ≤ 7
theorem TreeWf.nil : TreeWf [] := ⟨TreeOk.nil, by simp, by simp⟩

theorem chain_of_ch {ds : List Dev} (hT : TreeOk ds) {n : Int} {l : List Dev} (h : Ch ds n l) : chain ds n = l := (hT.chn0 n).det h

theorem TreeWf.insert {ds : List Dev} (h : TreeWf ds) {k : Nat} {d : Dev} (hk : k ≤ ds.length) (hnew : look ds d.index = none) (hi : 1 ≤ d.index ∧ d.index ≤ 1073741824) (hs : d.orig.size ≤ 32) (hne : d.parent ≠ d.index)
    (hp : d.parent = 0 ∨ ∃ (j : Nat) (e : Dev), j < k ∧ ds[j]? = some e ∧ e.index = d.parent) (ho : ∀ e ∈ ds, origin ds e.index ≠ origin ds d.parent ++ [d.orig]) (hd : (origin ds d.parent).length < 7) :
    TreeWf (insAt ds k d) ∧ (∀ n, n ≠ d.index → chain (insAt ds k d) n = chain ds n) ∧ chain (insAt ds k d) d.index = d :: chain ds d.parent := by
  have hT := h.ok.insert hk hnew hi hs hp
  have hold : ∀ n, n ≠ d.index → chain (insAt ds k d) n = chain ds n := fun n hn => chain_of_ch hT ((h.ok.chn0 n).ins h.ok hT.nd hnew hi.1 hn)
  have hself : chain (insAt ds k d) d.index = d :: chain ds d.parent := by
    rw [hT.chain_cons (hT.lk (insAt_mem.2 (.inl rfl))), hold _ hne]
  have oold : ∀ n, n ≠ d.index → origin (insAt ds k d) n = origin ds n := fun n hn => by unfold origin; rw [hold n hn]
  have oself : origin (insAt ds k d) d.index = origin ds d.parent ++ [d.orig] := by unfold origin; rw [hself]; simp
  have hno := look_none.1 hnew
  refine ⟨⟨hT, ?_, ?_⟩, hold, hself⟩
  · intro x hx y hy he
    rcases insAt_mem.1 hx with ex | hx'
    · rcases insAt_mem.1 hy with ey | hy'
      · rw [ex, ey]
      · rw [ex, oself, oold _ (hno y hy')] at he
        exact absurd he.symm (ho y hy')
    · rcases insAt_mem.1 hy with ey | hy'
      · rw [ey, oself, oold _ (hno x hx')] at he
        exact absurd he (ho x hx')
      · rw [oold _ (hno x hx'), oold _ (hno y hy')] at he
        exact h.uo x hx' y hy' he
  · intro x hx
    rcases insAt_mem.1 hx with ex | hx'
    · rw [ex, oself]; simp; omega
    · rw [oold _ (hno x hx')]; exact h.dp x hx'
end Go.Proofs.YtpnpjaemlflplaaGreatDoor
