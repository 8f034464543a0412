/- Free takes the first dirty device of the tree, if all that is not dirty has a record. Plain. -/
import Derived.Test.YtanaompgapiikaaGreatDoorP9
namespace Go.Proofs.YtanaompgapiikaaGreatDoor
open Go.RowKit Go.Maps
set_option linter.unusedVariables false

/-- The ancestors of a device stand ahead of it. -/
theorem chain_pos {ds : List Dev} (hT : TreeOk ds) : ∀ (k : Nat) (d : Dev), ds[k]? = some d → ∀ y ∈ (chain ds d.index).tail, ∃ j, j < k ∧ ds[j]? = some y := by
  intro k
  induction k using Nat.strongRecOn with
  | ind k ih =>
    intro d hd y hy
    have hdm := List.mem_of_getElem? hd
    rw [hT.chain_cons (hT.lk hdm), List.tail_cons] at hy
    rcases hT.pa k d hd with h0 | ⟨j, e, hj, he, hi⟩
    · rw [h0, TreeOk.chain_none hT.zero] at hy
      simp at hy
    · rw [← hi, hT.chain_cons (hT.lk (List.mem_of_getElem? he))] at hy
      rcases List.mem_cons.1 hy with rfl | hy
      · exact ⟨j, hj, he⟩
      · have hy2 : y ∈ (chain ds e.index).tail := by rw [hT.chain_cons (hT.lk (List.mem_of_getElem? he)), List.tail_cons]; exact hy
        obtain ⟨i, hi2, h3⟩ := ih j hj e he y hy2
        exact ⟨i, by omega, h3⟩
theorem filter_first {α : Type} (p : α → Bool) : ∀ (l : List α) (x : α) (t : List α), l.filter p = x :: t → ∃ k, l[k]? = some x ∧ ∀ (j : Nat) (y : α), j < k → l[j]? = some y → p y = false
  | [], x, t, h => by simp at h
  | z :: l, x, t, h => by
    cases hp : p z with
    | true =>
      rw [List.filter_cons_of_pos hp] at h
      injection h with h1 h2
      subst h1
      exact ⟨0, rfl, fun j y hj => by omega⟩
    | false =>
      rw [List.filter_cons_of_neg (by simp [hp])] at h
      obtain ⟨k, h1, h2⟩ := filter_first p l x t h
      refine ⟨k + 1, by simpa using h1, fun j y hj hy => ?_⟩
      cases j with
      | zero => simp at hy; subst hy; exact hp
      | succ j => exact h2 j y (by omega) (by simpa using hy)
theorem below_chain {ds : List Dev} (hT : TreeOk ds) (f : Int → Bool) : ∀ (q : List Dev) (R : Int → Bool), (∀ d ∈ q, d ∈ ds) → (∀ x, R x = true → ∃ y ∈ chain ds x, f y.index = true) → ∀ w ∈ belowL f q R, ∃ y ∈ chain ds w.index, f y.index = true
  | [], R, _, _, w, h => by simp [belowL] at h
  | d :: t, R, hq, hR, w, h => by
    have hdm := hq d (by simp)
    have hc := hT.chain_cons (hT.lk hdm)
    rw [belowL_cons] at h
    split at h
    · rename_i hb
      have hd : ∃ y ∈ chain ds d.index, f y.index = true := by
        rw [Bool.or_eq_true] at hb
        rcases hb with hb | hb
        · exact ⟨d, by rw [hc]; simp, hb⟩
        · obtain ⟨y, hy, hf⟩ := hR _ hb
          exact ⟨y, by rw [hc]; exact List.mem_cons_of_mem _ hy, hf⟩
      rcases List.mem_cons.1 h with rfl | h
      · exact hd
      · refine below_chain hT f t _ (fun x hx => hq x (by simp [hx])) (fun x hx => ?_) w h
        unfold upd at hx
        split at hx
        · rename_i e; rw [e]; exact hd
        · exact hR x hx
    · exact below_chain hT f t R (fun x hx => hq x (by simp [hx])) hR w h
/-- While something in the tree is dirty, and all else has a record, something may be taken. -/
theorem free_some {ds : List Dev} (hT : TreeOk ds) (l : List Rec) (dl : List Int) (hrec : ∀ d ∈ ds, d.index ∉ dl → ∃ r ∈ l, r.index = d.index ∧ r.path = pathOf (origin ds d.index)) (hne : orderL dl ds ≠ []) : freeL ds l dl [] ≠ [] := by
  obtain ⟨i, t, ho⟩ : ∃ i t, orderL dl ds = i :: t := by
    cases h : orderL dl ds with
    | nil => exact absurd h hne
    | cons i t => exact ⟨i, t, rfl⟩
  obtain ⟨k, hk, hfirst⟩ := filter_first _ _ _ _ ho
  rw [List.getElem?_map] at hk
  obtain ⟨d, hd, rfl⟩ := Option.map_eq_some_iff.1 hk
  have hdm := List.mem_of_getElem? hd
  have htail : ∀ y ∈ (chain ds d.index).tail, y ∈ ds ∧ y.index ∉ dl := by
    intro y hy
    obtain ⟨j, hj, he⟩ := chain_pos hT k d hd y hy
    have h1 := hfirst j y.index hj (by rw [List.getElem?_map, he]; rfl)
    exact ⟨List.mem_of_getElem? he, by simpa using h1⟩
  have hdev : devOf ds d.index = d := devOf_look (hT.lk hdm)
  have hpc : chain ds d.parent = (chain ds d.index).tail := by rw [hT.chain_cons (hT.lk hdm), List.tail_cons]
  have hw : decide (d.parent ∈ (waitD ds dl []).map Dev.index) = false := by
    rw [decide_eq_false_iff_not, List.mem_map]
    rintro ⟨w, hw, e⟩
    obtain ⟨y, hy, hf⟩ := below_chain hT _ ds _ (fun _ h => h) (fun x hx => by cases hx) w hw
    rw [e, hpc] at hy
    have h1 := (htail y hy).2
    have h2 := of_decide_eq_true hf
    rw [List.append_nil] at h2
    exact h1 h2
  have hin : d.index ∈ batchR ds dl [] := by
    unfold batchR
    rw [ho, batchL_cons, hdev, hw]
    have hp : parF ds (fun x => decide (x ∈ ([] : List Int))) (waitD ds dl []) d.parent = false := by
      unfold parF
      rw [List.any_eq_false]
      intro y _
      simp
    rw [hp]
    simp
  have hup : upLack ds (recG ds l) d.index = false := by
    unfold upLack
    rw [List.any_eq_false]
    intro x hx
    obtain ⟨y, hy, rfl⟩ := List.mem_map.1 hx
    obtain ⟨hyd, hyn⟩ := htail y hy
    obtain ⟨r, hr, e1, e2⟩ := hrec y hyd hyn
    have h1 : recG ds l y.index = some (pathOf (origin ds y.index)) := by
      unfold recG
      rw [if_pos]
      rw [List.any_eq_true]
      refine ⟨r, hr, ?_⟩
      unfold recHit2
      rw [e1, e2, hT.lk hyd]
      simp
    unfold lackB
    rw [h1]
    have hne : (pathOf (origin ds y.index)).toList.isEmpty = false := by
      rw [ByteArray.toList_eq, path_bytes, hT.origin_cons (hT.lk hyd)]
      simp [Lib.joinTail]
    simp only [Option.getD_some]
    rw [hne]
    simp
  intro h
  have : d.index ∈ freeL ds l dl [] := List.mem_filter.2 ⟨hin, by simp [hup]⟩
  rw [h] at this
  simp at this
end Go.Proofs.YtanaompgapiikaaGreatDoor
