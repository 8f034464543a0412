/- Paths of devices; what Free gives is unrelated. Plain. -/
import Derived.Test.YtanaompgapiikaaGreatDoorNS
import Derived.Test.YtanaompgapiikaaGreatDoorMA
import Derived.Test.YtanaompgapiikaaGreatDoorMF
namespace Go.Proofs.YtanaompgapiikaaGreatDoor
open Go.RowKit Go.Maps
set_option linter.unusedVariables false

theorem path_parts {l : List ByteArray} (hne : l ≠ []) (h : ∀ x ∈ l, OkN x) : sparts (pathOf l) = l := by
  cases l with
  | nil => exact absurd rfl hne
  | cons x t =>
    have e0 : Lib.joinTail [47] ((x :: t).map (·.data.toList)) = 47 :: Lib.join ((x :: t).map (·.data.toList)) [47] := by
      rw [List.map_cons, Lib.join_cons]; simp [Lib.joinTail]
    have e : Lib.trimPrefix (pathOf (x :: t)).data.toList [47] = Lib.join ((x :: t).map (·.data.toList)) [47] := by
      rw [path_bytes, e0]
      unfold Lib.trimPrefix Lib.hasPrefix
      rw [if_pos (by simp)]
      rfl
    unfold sparts
    rw [e, spl_join _ (by simp) (fun y hy b hb => by
      obtain ⟨z, hz, rfl⟩ := List.mem_map.1 hy
      exact (h z hz).2 b hb), List.map_map]
    rw [List.map_congr_left (g := id)]
    · simp
    · intro y _; simp
theorem origin_ok {ds : List Dev} (hT : TreeOk ds) (n : Int) : ∀ x ∈ origin ds n, OkN x := by
  intro x hx
  unfold origin at hx
  rw [List.mem_reverse] at hx
  obtain ⟨d, hd, rfl⟩ := List.mem_map.1 hx
  exact hT.nm d (chain_mem hd)

theorem pre_anc {ds : List Dev} (hT : TreeOk ds) : ∀ (N : Nat) (n : Int), (chain ds n).length ≤ N → ∀ k, 1 ≤ k → k ≤ (origin ds n).length → ∃ e ∈ chain ds n, (origin ds n).take k = origin ds e.index ∧ (k < (origin ds n).length → e ∈ (chain ds n).tail)
  | 0, n, hN, k, h1, h2 => by
    have h3 : (origin ds n).length = (chain ds n).length := by unfold origin; simp
    omega
  | N + 1, n, hN, k, h1, h2 => by
    cases hl : look ds n with
    | none => rw [TreeOk.origin_none hl] at h2; simp at h2; omega
    | some d =>
      have hc := hT.chain_cons hl
      have ho := hT.origin_cons hl
      obtain ⟨hd, rfl⟩ := look_some hl
      rw [ho, List.length_append, List.length_singleton] at h2
      rw [hc, List.length_cons] at hN
      by_cases hk : k ≤ (origin ds d.parent).length
      · obtain ⟨e, he, h3, _⟩ := pre_anc hT N d.parent (by omega) k h1 hk
        refine ⟨e, by rw [hc]; exact List.mem_cons_of_mem _ he, ?_, fun _ => by rw [hc]; exact he⟩
        rw [ho, List.take_append_of_le_length hk]
        exact h3
      · have hk2 : k = (origin ds d.parent).length + 1 := by omega
        refine ⟨d, by rw [hc]; simp, ?_, fun h => ?_⟩
        · rw [List.take_of_length_le (by rw [ho, List.length_append, List.length_singleton]; omega)]
        · rw [ho, List.length_append, List.length_singleton] at h; omega
theorem origin_pos {ds : List Dev} (hT : TreeOk ds) {d : Dev} (hd : d ∈ ds) : origin ds d.index ≠ [] := by
  rw [hT.origin_cons (hT.lk hd)]; simp
theorem under_anc {ds : List Dev} (hW : TreeWf ds) {d e : Dev} (hd : d ∈ ds) (he : e ∈ ds) (h : underB (pathOf (origin ds d.index)) (pathOf (origin ds e.index)) = true) : d ∈ (chain ds e.index).tail := by
  have hT := hW.ok
  unfold underB at h
  rw [path_parts (origin_pos hT hd) (origin_ok hT _), path_parts (origin_pos hT he) (origin_ok hT _)] at h
  simp only [Bool.and_eq_true, decide_eq_true_eq] at h
  obtain ⟨⟨_, h1⟩, h2⟩ := h
  have h0 : 1 ≤ (origin ds d.index).length := by
    have := origin_pos hT hd
    rcases hl : origin ds d.index with _ | ⟨x, t⟩
    · exact absurd hl this
    · simp
  obtain ⟨f, hf, h3, h4⟩ := pre_anc hT _ e.index (Nat.le_refl _) _ h0 (Nat.le_of_lt h1)
  rw [h2] at h3
  have := hW.uo d hd f (chain_mem hf) h3
  rw [this]
  exact h4 h1

theorem sisB_comm (ds : List Dev) (i j : Int) : sisB ds i j = sisB ds j i := by
  unfold sisB
  rw [Bool.and_comm (partOf ds i).isSome, bne_comm, Bool.beq_comm (a := (devOf ds i).parent)]
theorem batchS_all (ds : List Dev) (dl bl : List Int) : ∀ (q out : List Int), (∀ x ∈ out, x ∉ bl ∧ upOk ds dl bl x = true) → (∀ x ∈ out, ∀ y ∈ out, x ≠ y → sisB ds x y = false) →
    (∀ x ∈ batchS ds dl bl q out, x ∉ bl ∧ upOk ds dl bl x = true) ∧ ∀ x ∈ batchS ds dl bl q out, ∀ y ∈ batchS ds dl bl q out, x ≠ y → sisB ds x y = false
  | [], out, h1, h2 => ⟨h1, h2⟩
  | i :: t, out, h1, h2 => by
    show (∀ x ∈ batchS ds dl bl t (if bOk ds dl bl out i = true then out ++ [i] else out), _) ∧ _
    by_cases hb : bOk ds dl bl out i = true
    · have hb2 := hb
      unfold bOk at hb2
      simp only [Bool.and_eq_true, Bool.not_eq_true', decide_eq_false_iff_not, List.all_eq_true] at hb2
      obtain ⟨⟨⟨b1, b2⟩, _⟩, b4⟩ := hb2
      have e : batchS ds dl bl (i :: t) out = batchS ds dl bl t (out ++ [i]) := by show batchS ds dl bl t (if bOk ds dl bl out i = true then out ++ [i] else out) = _; rw [if_pos hb]
      rw [if_pos hb, e]
      refine batchS_all ds dl bl t (out ++ [i]) (fun x hx => ?_) (fun x hx y hy hne => ?_)
      · rcases List.mem_append.1 hx with hx | hx
        · exact h1 x hx
        · simp at hx; subst hx; exact ⟨b1, b2⟩
      · rcases List.mem_append.1 hx with hx1 | hx1
        · rcases List.mem_append.1 hy with hy1 | hy1
          · exact h2 x hx1 y hy1 hne
          · rw [List.mem_singleton] at hy1
            rw [hy1, sisB_comm]
            simpa using b4 x hx1
        · rw [List.mem_singleton] at hx1
          rcases List.mem_append.1 hy with hy1 | hy1
          · rw [hx1]
            simpa using b4 y hy1
          · rw [List.mem_singleton] at hy1
            exact absurd (hx1.trans hy1.symm) hne
    · have e : batchS ds dl bl (i :: t) out = batchS ds dl bl t out := by show batchS ds dl bl t (if bOk ds dl bl out i = true then out ++ [i] else out) = _; rw [if_neg hb]
      rw [if_neg hb, e]
      exact batchS_all ds dl bl t out h1 h2
/-- What Free's answer is. -/
structure FreeIs (ds : List Dev) (R : List Rec) (dl bl F : List Int) : Prop where
  dirty : ∀ x ∈ F, x ∈ dl
  idle : ∀ x ∈ F, x ∉ bl
  dev : ∀ x ∈ F, ∃ d ∈ ds, d.index = x
  up : ∀ x ∈ F, ∀ y ∈ (chain ds x).tail, y.index ∉ dl ∧ y.index ∉ bl ∧ recB ds R y.index = true
  sis : ∀ x ∈ F, ∀ y ∈ F, x ≠ y → sisB ds x y = false
  nd : F.Nodup
  len : F.length ≤ ds.length
theorem free_is {ds : List Dev} (hT : TreeOk ds) (R : List Rec) (dl bl : List Int) : FreeIs ds R dl bl (freeL ds R dl bl) := by
  have hm : ∀ x ∈ freeL ds R dl bl, x ∈ batchS ds dl bl (orderL dl ds) [] ∧ upRec ds R x = true := by
    intro x hx
    rw [← free_same hT] at hx
    exact List.mem_filter.1 hx
  obtain ⟨ha, hs⟩ := batchS_all ds dl bl (orderL dl ds) [] (by simp) (by simp)
  refine ⟨fun x hx => (free_mem hx).1, fun x hx => (ha x (hm x hx).1).1, fun x hx => (free_mem hx).2.1, fun x hx y hy => ?_, fun x hx y hy => hs x (hm x hx).1 y (hm y hy).1, free_nodup hT R dl bl, ?_⟩
  · have h1 := (ha x (hm x hx).1).2
    have h2 := (hm x hx).2
    unfold upOk at h1
    unfold upRec at h2
    rw [List.all_eq_true] at h1 h2
    have h3 := h1 y hy
    simp only [Bool.and_eq_true, Bool.not_eq_true', decide_eq_false_iff_not] at h3
    exact ⟨h3.1, h3.2, h2 y hy⟩
  · have h1 := (free_sub ds R dl bl).length_le
    have h2 := orderL_len dl ds
    omega
/-- None of them lies below another one. -/
theorem FreeIs.under {ds : List Dev} {R : List Rec} {dl bl F : List Int} (h : FreeIs ds R dl bl F) (hW : TreeWf ds) {x y : Int} (hx : x ∈ F) (hy : y ∈ F) : underB (pathOf (origin ds x)) (pathOf (origin ds y)) = false := by
  cases hu : underB (pathOf (origin ds x)) (pathOf (origin ds y)) with
  | false => rfl
  | true =>
    obtain ⟨d, hd, rfl⟩ := h.dev x hx
    obtain ⟨e, he, rfl⟩ := h.dev y hy
    exact absurd (h.dirty _ hx) (h.up _ hy d (under_anc hW hd he hu)).1
end Go.Proofs.YtanaompgapiikaaGreatDoor
/- relate.Ancestor, Sisters, Related. -/
namespace Go.Proofs.YtanaompgapiikaaGreatDoor
open Go.RowKit Go.Maps
set_option linter.unusedVariables false

set_option maxHeartbeats 1000000 in
theorem r_ancestor (a b : ByteArray) (m : Int) (w : World) (ha : a.size ≤ 1000000) (hb : b.size ≤ 1000000) (hm : w.cell? ⟨0, 0, none⟩ = some (.int .i64 m)) :
    Calls Tryz.prog 85 #[.string a, .string b] w fun e w' => e = .returned (.bool (underB a b)) ∧ Fr No w w' := by
  go_enter Tryz.func85, Tryz.ntmps85
  go_wp2_with fail
  refine (n_under a b m _ ha hb hm).mono ?_
  rintro e w1 ⟨rfl, hf1⟩
  cases hu : underB a b with
  | false =>
    have Hu := Lib.hid hu
    clear hu
    generalize errP (goodPath a && goodPath b) = er
    go_wp2_with fail
    go_ret
    rw [Hu.out]
    exact ⟨rfl, hf1⟩
  | true =>
    have Hu := Lib.hid hu
    have hg : (goodPath a && goodPath b) = true := by
      unfold underB at hu
      simp only [Bool.and_eq_true] at hu ⊢
      exact hu.1.1
    rw [hg]
    have he : errP true = 0 := rfl
    rw [he]
    clear hu hg he
    go_wp2_with fail
    go_ret
    rw [Hu.out]
    exact ⟨rfl, hf1⟩

theorem found_dev {w w' : World} {ds : List Dev} {n : Int} {e : Ending} (h : FoundD w w' ds n e) : ∃ (dv : Dev) (b : Bool), e = .returned (.tuple #[.agg dv.vals, .bool b]) ∧ dv.parent = (devOf ds n).parent := by
  rcases h with ⟨h1, h2⟩ | ⟨d, a', c', l, h1, h2, -⟩
  · exact ⟨Dev.zero, false, h2, by rw [devOf_none h1]⟩
  · exact ⟨{ d with aa := a', ac := c' }, true, h2, by rw [devOf_look h1]⟩

set_option maxRecDepth 100000 in
set_option maxHeartbeats 2000000 in
theorem r_sisters (a : Option Addr) (cap : Nat) (ds : List Dev) (base : Nat) (i j : Int) (w : World) (hl : Tr w base a cap ds) (hE : ErrV w) :
    Calls Tryz.prog 86 #[.agg #[.slice a ds.length cap], .int .i64 i, .int .i64 j] w fun e w' => e = .returned (.bool (sisB ds i j)) ∧ Fr No w w' := by
  have hs : sisB ds i j = ((partOf ds i).isSome && (partOf ds j).isSome && (i != j) && ((devOf ds i).parent == (devOf ds j).parent)) := rfl
  have Hs := Lib.hid hs
  have h0 : Fr No w (w.alloc (.cells #[.slice a ds.length cap] 25)) := (Fr.refl _ _).alloc _
  have q2 := block_alloc w (.cells #[.slice a ds.length cap] 25)
  go_enter Tryz.func86, Tryz.ntmps86
  go_wp2_with fail
  generalize w.alloc (.cells #[.slice a ds.length cap] 25) = W0 at *
  clear hs
  refine (tree_find a cap ds base i _ (hl.no h0)).mono ?_
  rintro e w1 ⟨hF, hf1⟩
  obtain ⟨x, bx, rfl, hx⟩ := found_dev hF
  have Hx := Lib.hid hx
  clear hF hx
  have hy : Fr No w1 (w1.alloc (.cells x.vals 36)) := (Fr.refl _ _).alloc _
  have q21 := hy.heap (hf1.heap q2 id) id
  have qx := block_alloc w1 (.cells x.vals 36)
  have hfr1 := (h0.step hf1 (fun _ _ h => h)).step hy (fun _ _ h => h)
  have c1 : (w1.alloc (.cells x.vals 36)).cell? ⟨w.heap.size, 0, none⟩ = some (.slice a ds.length cap) := cell_of_block q21 0
  unfold Dev.vals at *
  clear h0 q2 hf1 hy
  go_wp2_with fail
  refine (tree_find a cap ds base j _ (hl.no hfr1)).mono ?_
  rintro e w2 ⟨hF, hf2⟩
  obtain ⟨y, bz, rfl, hy'⟩ := found_dev hF
  have Hy := Lib.hid hy'
  clear hF hy'
  have hz : Fr No w2 (w2.alloc (.cells y.vals 36)) := (Fr.refl _ _).alloc _
  have q22 := hz.heap (hf2.heap q21 id) id
  have qx2 := hz.heap (hf2.heap qx id) id
  have qy := block_alloc w2 (.cells y.vals 36)
  have hfr2 := (hfr1.step hf2 (fun _ _ h => h)).step hz (fun _ _ h => h)
  have c2 : (w2.alloc (.cells y.vals 36)).cell? ⟨w.heap.size, 0, none⟩ = some (.slice a ds.length cap) := cell_of_block q22 0
  unfold Dev.vals at *
  clear q21 qx hf2 hz hfr1 c1
  go_wp2_with fail
  refine (r_part a cap ds base i _ (hl.no hfr2) (hE.no hfr2)).mono ?_
  rintro e w3 ⟨hP, hf3⟩
  unfold PartRes at hP
  subst hP
  have q23 := hf3.heap q22 id
  have qx3 := hf3.heap qx2 id
  have qy3 := hf3.heap qy id
  have hfr3 := hfr2.step hf3 (fun _ _ h => h)
  have c3 : w3.cell? ⟨w.heap.size, 0, none⟩ = some (.slice a ds.length cap) := cell_of_block q23 0
  clear q22 qx2 qy hf3 hfr2 c2
  go_wp2_with fail
  refine (r_part a cap ds base j _ (hl.no hfr3) (hE.no hfr3)).mono ?_
  rintro e w4 ⟨hP, hf4⟩
  unfold PartRes at hP
  subst hP
  have qx4 := hf4.heap qx3 id
  have qy4 := hf4.heap qy3 id
  have Hfr4 := Lib.hid (hfr3.step hf4 (fun _ _ h => h))
  have x1 : w4.cell? ⟨w1.heap.size, 1, none⟩ = some (.int .i64 x.parent) := cell_of_block qx4 1
  have y1 : w4.cell? ⟨w2.heap.size, 1, none⟩ = some (.int .i64 y.parent) := cell_of_block qy4 1
  clear q23 qx3 qy3 hf4 hfr3 c3 qx4 qy4
  generalize (partOf ds i).isSome = pi at *
  generalize (partOf ds j).isSome = pj at *
  generalize ((partOf ds i).getD 0) = ni at *
  generalize ((partOf ds j).getD 0) = nj at *
  rcases hne : (i != j) with _ | _
  · have Hne := Lib.hid hne
    go_wp2_with fail
    go_ret
    exact ⟨ret_bool (by rw [Hs.out, Hne.out]; simp), Hfr4.out⟩
  · have Hne := Lib.hid hne
    cases pi with
    | false =>
      go_wp2_with fail
      go_ret
      exact ⟨ret_bool (by rw [Hs.out]; rfl), Hfr4.out⟩
    | true =>
      cases pj with
      | false =>
        go_wp2_with fail
        go_ret
        exact ⟨ret_bool (by rw [Hs.out]; rfl), Hfr4.out⟩
      | true =>
        go_wp2_with fail
        go_ret
        exact ⟨ret_bool (by rw [Hs.out, Hne.out, ← Hx.out, ← Hy.out]; rfl), Hfr4.out⟩

set_option maxRecDepth 100000 in
set_option maxHeartbeats 2000000 in
theorem r_related_no (a : Option Addr) (cap : Nat) (ds : List Dev) (base : Nat) (i j : Int) (m : Int) (w : World) (hl : Tr w base a cap ds) (hn : ds.length ≤ 1000) (hE : ErrV w) (hm : w.cell? ⟨0, 0, none⟩ = some (.int .i64 m))
    (hi : ∃ d, look ds i = some d) (hj : ∃ d, look ds j = some d) (hiw : (Lit.int .i64 i).wf = true) (hjw : (Lit.int .i64 j).wf = true) (hne : i ≠ j) (u1 : underB (pathOf (origin ds i)) (pathOf (origin ds j)) = false) (u2 : underB (pathOf (origin ds j)) (pathOf (origin ds i)) = false) (hs : sisB ds i j = false) :
    Calls Tryz.prog 34 #[.agg #[.slice a ds.length cap], .int .i64 i, .int .i64 j] w fun e w' => e = .returned (.bool false) ∧ Fr No w w' := by
  obtain ⟨di, hdi⟩ := hi
  obtain ⟨dj, hdj⟩ := hj
  have hT := hl.wf.ok
  have sz1 := path_size2 hT i
  have sz2 := path_size2 hT j
  have h0 : Fr No w (w.alloc (.cells #[.slice a ds.length cap] 25)) := (Fr.refl _ _).alloc _
  have q2 := block_alloc w (.cells #[.slice a ds.length cap] 25)
  have hb : (i == j) = false := by simpa using hne
  have e1 : ((look ds i).map fun _ => pathOf (origin ds i)).getD ⟨#[]⟩ = pathOf (origin ds i) := by rw [hdi]; rfl
  have e2 : ((look ds j).map fun _ => pathOf (origin ds j)).getD ⟨#[]⟩ = pathOf (origin ds j) := by rw [hdj]; rfl
  have e3 : (look ds i).isSome = true := by rw [hdi]; rfl
  have e4 : (look ds j).isSome = true := by rw [hdj]; rfl
  have to1 := fun W hW => tree_origin a cap ds i W hW hT hn hiw
  have to2 := fun W hW => tree_origin a cap ds j W hW hT hn hjw
  rw [e1, e3] at to1
  rw [e2, e4] at to2
  have Hsis : Hid (sisB ds i j = false) := hs
  clear hne e1 e2 e3 e4 hdi hdj hs
  generalize pathOf (origin ds i) = pi at *
  generalize pathOf (origin ds j) = pj at *
  have HU1 : Hid (underB pi pj = false) := u1
  have HU2 : Hid (underB pj pi = false) := u2
  clear u1 u2
  go_enter Tryz.func34, Tryz.ntmps34
  go_wp2_with fail
  generalize w.alloc (.cells #[.slice a ds.length cap] 25) = W0 at *
  refine (to1 _ (hl.no h0).dv).mono ?_
  rintro e w1 ⟨rfl, hf1⟩
  have hfr1 := h0.step hf1 (fun _ _ h => h)
  have q21 := hf1.heap q2 id
  have c1 : w1.cell? ⟨w.heap.size, 0, none⟩ = some (.slice a ds.length cap) := cell_of_block q21 0
  clear h0 hf1 q2
  go_wp2_with fail
  refine (to2 _ (hl.no hfr1).dv).mono ?_
  rintro e w2 ⟨rfl, hf2⟩
  have hfr2 := hfr1.step hf2 (fun _ _ h => h)
  have q22 := hf2.heap q21 id
  have hm2 := hfr2.cell hm id
  clear hf2 hfr1 q21 c1 to1 to2
  go_wp2_with fail
  refine (r_ancestor pi pj m _ (by omega) (by omega) hm2).mono ?_
  rintro e w3 ⟨rfl, hf3⟩
  rw [HU1.out]
  have hfr3 := hfr2.step hf3 (fun _ _ h => h)
  have hm3 := hf3.cell hm2 id
  have q23 := hf3.heap q22 id
  clear hf3 hfr2 hm2 q22
  go_wp2_with fail
  refine (r_ancestor pj pi m _ (by omega) (by omega) hm3).mono ?_
  rintro e w4 ⟨rfl, hf4⟩
  rw [HU2.out]
  have hfr4 := hfr3.step hf4 (fun _ _ h => h)
  have q24 := hf4.heap q23 id
  have c4 : w4.cell? ⟨w.heap.size, 0, none⟩ = some (.slice a ds.length cap) := cell_of_block q24 0
  clear hf4 hfr3 hm3 q23
  go_wp2_with fail
  refine (r_sisters a cap ds base i j _ (hl.no hfr4) (hE.no hfr4)).mono ?_
  rintro e w5 ⟨rfl, hf5⟩
  rw [Hsis.out]
  have hfr5 := hfr4.step hf5 (fun _ _ h => h)
  clear hf5 hfr4 c4 q24
  go_wp2_with fail
  go_ret
  exact ⟨rfl, hfr5⟩
end Go.Proofs.YtanaompgapiikaaGreatDoor
/- QueueApart: the walk. -/
namespace Go.Proofs.YtanaompgapiikaaGreatDoor
open Go.RowKit Go.Maps Go.Sort Go.Shelf
set_option linter.unusedVariables false

set_option maxRecDepth 100000 in
set_option maxHeartbeats 4000000 in
theorem apart_walk (la : Option Addr) (lc : Nat) (l : List Int) (m : Int) (w : World) (hl : Ints w la lc l) (hm : w.cell? ⟨0, 0, none⟩ = some (.int .i64 m)) (hE : ErrV w) (h6 : 3 < w.heap.size) :
    Calls Tryz.prog 5 #[.slice la l.length lc] w fun e w' => e = .returned (.bool true) ∧ Fr No w w' := by
  have hx : Fr No w (w.alloc (.cells #[.slice la l.length lc, .int .i64 0] 29)) := (Fr.refl _ _).alloc _
  have ht := Tape.new hl 29
  have hmx := hx.cell hm id
  go_enter Tryz.func5, Tryz.ntmps5
  go_upto_region 2 with (fail)
  have hxs : (w.alloc (.cells #[.slice la l.length lc, .int .i64 0] 29)).heap.size = w.heap.size + 1 := by simp
  generalize w.alloc (.cells #[.slice la l.length lc, .int .i64 0] 29) = W0 at *
  have Hxs := Lib.hid hxs
  clear hxs
  go_wp2_with fail
  refine (made_tree w.heap.size w.heap.size 0 10 m _ ht (by omega) (by omega) (by omega) hmx).mono ?_
  rintro e w1 ⟨ta, tc, ds, k1, hk1, hdl, rfl, hT, ht1, hf1⟩
  have hfr1 : Fr (From w.heap.size) w w1 := (hx.mono (T := From w.heap.size) (fun _ _ h => h.elim)).step hf1 (fun b hb e => by unfold Is at e; unfold From; omega)
  have hs1 : w.heap.size + 1 ≤ w1.heap.size := by have := hf1.size; rw [Hxs.out] at this; exact this
  rw [Hxs.out] at hT
  go_upto_region 3 with (fail)
  have hy : Fr No w1 (w1.alloc (.cells #[.slice ta ds.length tc] 25)) := (Fr.refl _ _).alloc _
  have hbt := block_alloc w1 (.cells #[.slice ta ds.length tc] 25)
  have hys : (w1.alloc (.cells #[.slice ta ds.length tc] 25)).heap.size = w1.heap.size + 1 := by simp
  generalize w1.alloc (.cells #[.slice ta ds.length tc] 25) = W1 at *
  have Hys := Lib.hid hys
  clear hys hx ht hmx hf1
  have ht2 := ht1.fr hy (fun _ _ => id) id
  have hfr2 := hfr1.step hy (fun _ _ h => h.elim)
  have hT2 := hT.no hy
  have c4 : W1.cell? ⟨w1.heap.size, 0, none⟩ = some (.slice ta ds.length tc) := cell_of_block hbt 0
  have hDl : ds.length ≤ 10 := hdl
  go_wp2_with fail
  refine (law_records w.heap.size w.heap.size k1 ta tc ds _ ht2 (by omega) hT2.dv hT2.wf.ok (by omega) (fun ad e hne => by have := hT2.fresh ad e; omega)).mono ?_
  rintro e wR ⟨⟨ra, rc, R, k2, rfl, hR, hRl, hRok, hk2, htR, hRf⟩, hfR⟩
  have hs2R := hfR.size
  have hfrR : Fr (From w.heap.size) w wR := hfr2.step hfR (fun b hb e => by unfold Is at e; unfold From; omega)
  have hbtR := hfR.heap hbt (fun e => by unfold Is at e; omega)
  have HRok := Lib.hid hRok
  have hw1R : Fr (Is w.heap.size) w1 wR := (hy.mono (T := Is w.heap.size) (fun _ _ h => h.elim)).step hfR (fun _ _ h => h)
  clear hbt ht2 hfr2 hT2 c4 hy ht1 hfR hRok
  go_wp2_with fail
  refine (q_new _).mono ?_
  rintro e w2 ⟨qb, b1, b2, rfl, h0, h1, h2, hq2, hf2⟩
  have hst := St.begin (T := 52) hfrR htR hq2 h0 h1 h2 hf2
  have hbt2 := hf2.heap hbtR id
  have hz : Fr No w2 (w2.alloc (.cells #[.slice none 0 0, .slice none 0 0] 52)) := (Fr.refl _ _).alloc _
  have hzs : (w2.alloc (.cells #[.slice none 0 0, .slice none 0 0] 52)).heap.size = w2.heap.size + 1 := by simp
  have hbt3 := hz.heap hbt2 id
  have hs2 : wR.heap.size ≤ w2.heap.size := hf2.size
  rw [Hys.out] at hRf hs2R
  have hR3 := (hR.no hf2 (fun _ => id)).no hz (fun _ => id)
  have hw13 : Fr (Is w.heap.size) w1 _ := (hw1R.step hf2 (fun _ _ h => h.elim)).step hz (fun _ _ h => h.elim)
  clear hf2 hq2 hbt2 hbtR htR hR hw1R
  go_wp2_with fail
  refine (tape_next w.heap.size w.heap.size k2 14 _ hst.both.tape (by omega) (by omega) (by omega)).mono ?_
  rintro e w3 ⟨r, rfl, hr1, hr2, ht3, hf3⟩
  have hs3 := hst.next ht3 hf3
  have hbt5 := hf3.heap hbt3 (fun e => by unfold Is at e; omega)
  have hw1w : Fr (Is w.heap.size) w1 w3 := hw13.step hf3 (fun b hb e => e)
  have hRec := hR3.keep HRok.out hf3 (fun ad e hb h => by have := hRf ad e; unfold Is at h; omega)
  have hs33 := hf3.size
  clear hst ht3 hf3 hbt3 hz hw13 hR3
  obtain ⟨r, rfl⟩ := Int.eq_ofNat_of_zero_le hr1
  go_wp2_with fail
  go_loopw [8] (fun i wr => ∃ (j : Nat) (k : Nat) (a1 : Option Addr) (c1 : Nat) (l1 : List Int) (a2 : Option Addr) (c2 : Nat) (l2 : List Int) (f g : Int → Bool) (N : Nat), i = .int .i64 (j : Int) ∧ j ≤ 14 ∧ k + 5 * j ≤ 1000 ∧ N + j ≤ 20 ∧ St w wr w.heap.size k qb b1 b2 w2.heap.size a1 c1 l1 a2 c2 l2 f g N ∧ Fr (Four w.heap.size b1 b2 w2.heap.size) w3 wr) (fun i _ => (intOf i).toNat)
  case atStart => exact ⟨r, _, _, _, _, _, _, _, _, _, 0, rfl, by omega, by omega, by omega, hs3, Fr.refl _ _⟩
  case round =>
    obtain ⟨j, k, a1, c1, l1, a2, c2, l2, f, g, N, rfl, hj, hk, hN, hS, hfl⟩ := hrel
    have n1 := hS.s1
    have n2 := hS.s2
    by_cases hpos : 0 < j
    · have x0 := hS.cb0
      have x1 := hS.cb1
      go_wp2_with fail
      refine (q_call w.heap.size w.heap.size k qb b1 b2 a1 c1 l1 a2 c2 l2 f g N 13 _ hS.both (by omega) (by omega) (by omega) (by omega) (by decide)).mono ?_
      rintro e w4 ⟨k', a1', c1', l1', a2', c2', l2', f', g', rfl, hk', m1, m2, hb3, s1, s2, hf4⟩
      obtain ⟨⟨T, hbq⟩, hS3⟩ := hS.called hb3 s1 s2 hf4 m1 m2
      have y0 : w4.cell? ⟨w2.heap.size, 0, none⟩ = some (.slice a1 l1.length c1) := cell_of_block hbq 0
      have y1 : w4.cell? ⟨w2.heap.size, 1, none⟩ = some (.slice a2 l2.length c2) := cell_of_block hbq 1
      have z0 : w4.frozen? ⟨w2.heap.size, 0, none⟩ = false := free_of_block hbq 0
      have z1 : w4.frozen? ⟨w2.heap.size, 1, none⟩ = false := free_of_block hbq 1
      have hst2 : Fr (Is w2.heap.size) w4 ((w4.setCell ⟨w2.heap.size, 0, none⟩ (.slice a1' l1'.length c1')).setCell ⟨w2.heap.size, 1, none⟩ (.slice a2' l2'.length c2')) := ((Fr.refl _ _).setIs _).setIs _
      have hfl' := (hfl.step hf4 (fun b hb e => by unfold Tri at e; unfold Four; omega)).step hst2 (fun b hb e => by unfold Is at e; unfold Four; omega)
      have Hl := Lib.hid hfl'
      clear x0 x1 hst2 hfl' hfl hbq
      go_wp2_with fail
      go_roundw
      case rel => exact ⟨j - 1, k', a1', c1', l1', a2', c2', l2', f', g', N + 1, by congr 1; omega, by omega, by omega, by omega, hS3, Hl.out⟩
      case measure => simp [intOf]; omega
    · obtain rfl : j = 0 := by omega
      obtain ⟨W6, rfl⟩ : ∃ W6, W6 = wr := ⟨_, rfl⟩
      have hsl := hfl.size
      have hRQ := hS.both.rq
      have HRQ := Lib.hid hRQ
      have hl1 : l1.length ≤ 100000 := by omega
      have hl2 : l2.length ≤ 100000 := by omega
      have hfb : ∀ L, Asc L → (∀ x, x ∈ L ↔ f x = true) → L.length ≤ 100000 := fun L h1 h2 => by rw [asc_mem h1 HRQ.out.ad h2 HRQ.out.md]; exact hl1
      have hgb : ∀ L, Asc L → (∀ x, x ∈ L ↔ g x = true) → L.length ≤ 100000 := fun L h1 h2 => by rw [asc_mem h1 HRQ.out.ab h2 HRQ.out.mb]; exact hl2
      have nF : ∀ b, b < w1.heap.size → b ≠ w.heap.size → ¬ Four w.heap.size b1 b2 w2.heap.size b := fun b h1' h2' h => by unfold Four at h; omega
      have hTr : Tr W6 (w.heap.size + 1 + 2) ta tc ds := hT.keep ((hw1w.mono (T := Four w.heap.size b1 b2 w2.heap.size) (fun b _ h => .inl h)).step hfl (fun _ _ h => h)) (fun b hb hb2 e => nF b hb (by omega) e)
      have hbt6 := hfl.heap hbt5 (fun h => by unfold Four at h; omega)
      have hRc6 : Recs W6 ra rc R := hRec.keep HRok.out hfl (fun ad e hb h => by have h3 := hRf ad e; unfold Four at h; omega)
      have hE6 := hE.fr hS.fr (fun h => by unfold From at h; omega) (fun h => by unfold From at h; omega)
      have hs6 := hS.fr.size
      have h66 : 3 < W6.heap.size := by omega
      have hm6 := hS.fr.cell hm (fun h => by have h2 : w.heap.size ≤ 0 := h; omega)
      have Hfr := Lib.hid hS.fr
      have hque := hS.both.que
      have c4 : W6.cell? ⟨w1.heap.size, 0, none⟩ = some (.slice ta ds.length tc) := cell_of_block hbt6 0
      have hTf := hTr.fresh
      clear hS hfl hE hm hRec hbt5 hT hw1w hs3
      go_wp2_with fail
      refine (q_free qb b1 b2 f g N ta ra tc rc _ ds R _ hque (by omega) hTr (by omega) hRc6 (by omega) HRok.out.wf hE6 h66 hfb hgb).mono ?_
      rintro e w7 ⟨⟨dl, bl, fa, fc, hda, hdm, hba, hbm, rfl, hI7, -⟩, hf7⟩
      have HF := Lib.hid (free_is hTr.wf.ok R dl bl)
      generalize freeL ds R dl bl = F at *
      clear c4
      go_wp2_with fail
      refine (q_dirty qb b1 b2 f g N _ (hque.fr hf7 id id id) (by omega)).mono ?_
      rintro e w8 ⟨da, dc, dl', rfl, hD, hDa, hDm, _, hf8⟩
      obtain rfl : dl = dl' := asc_mem hda hDa hdm hDm
      have hf78 := hf7.step hf8 (fun _ _ h => h)
      go_wp2_with fail
      refine (q_busy qb b1 b2 f g N _ (hque.fr hf78 id id id) (by omega)).mono ?_
      rintro e w9 ⟨ba, bc, bl', rfl, hB, hBa, hBm, _, hf9⟩
      obtain rfl : bl = bl' := asc_mem hba hBa hbm hBm
      have hf79 := hf78.step hf9 (fun _ _ h => h)
      have hI9 := (hI7.no hf8 (fun _ => id)).no hf9 (fun _ => id)
      have hD9 := hD.no hf9 (fun _ => id)
      have hTr9 := hTr.no hf79
      have hRc9 := hRc6.no hf79 (fun _ => id)
      have hE9 := hE6.no hf79
      have hm9 := hf79.cell hm6 id
      have hbt9 := hf79.heap hbt6 id
      have Hfr9 := Lib.hid (Hfr.out.step hf79 (fun _ _ h => h.elim))
      have hFl := HF.out.len
      have hT := hTr.wf.ok
      clear hf7 hf8 hf9 hf78 hf79 hI7 hD hTr hRc6 hE6 hm6 hbt6 hque hDa hDm hBa hBm hda hdm hba hbm HRQ hRQ hfb hgb hl1 hl2
      go_wp2_with fail
      go_loopw [12] (fun i wr => ∃ q : Nat, q ≤ F.length ∧ i = .int .i64 (q : Int) ∧ Fr No w9 wr) (fun i _ => F.length - (intOf i).toNat)
      case atStart => exact ⟨0, by omega, rfl, Fr.refl _ _⟩
      case round =>
        obtain ⟨q, hq, rfl, hfq⟩ := hrel
        by_cases hlt : q < F.length
        · have hlt' : (q : Int) < F.length := by omega
          obtain ⟨fb, fo, x, hax, hxk, y0⟩ := (hI9.no hfq (fun _ => id)).at hlt
          have hIq := hI9.no hfq (fun _ => id)
          have hDq := hD9.no hfq (fun _ => id)
          have hBq := hB.no hfq (fun _ => id)
          subst hax
          have hxF := List.mem_of_getElem? hxk
          have Hxk := Lib.hid hxk
          have e1 : decide (x ∈ dl) = true := decide_eq_true (HF.out.dirty x hxF)
          have e2 : decide (x ∈ bl) = false := decide_eq_false (HF.out.idle x hxF)
          have Hup := Lib.hid (HF.out.up x hxF)
          have HxF := Lib.hid hxF
          have hTq := hTr9.no hfq
          have btq := hfq.heap hbt9 id
          have Hfq := Lib.hid hfq
          clear hxk hxF hfq
          go_wp2_with fail
          refine (ints_in da dc dl x _ hDq).mono ?_
          rintro e wa ⟨rfl, rfl⟩
          rw [e1]
          go_wp2_with fail
          refine (ints_in ba bc bl x _ hBq).mono ?_
          rintro e wa ⟨rfl, rfl⟩
          rw [e2]
          clear e1 e2
          go_wp2_with fail
          refine region_sig No [(0, false), (1, false), (2, false), (3, false), (4, false), (5, true), (6, false)] (by kernel_rfl) (by kernel_rfl) (fun w0 hf0 => ?_)
          have g3 : ∀ g : Gr No w0, g.W.cell? ⟨w1.heap.size, 0, none⟩ = some (.slice ta ds.length tc) := fun g => g.fr.cell (cell_of_block (hf0.heap btq id) 0) id
          have g0 : ∀ g : Gr No w0, g.W.cell? ⟨fb, fo + q, none⟩ = some (.int .i64 x) := fun g => g.fr.cell (hf0.cell y0 id) id
          have hT0 := hTq.no hf0
          have Hf0 := Lib.hid (Hfq.out.step hf0 (fun _ _ h => h))
          clear hf0 y0 btq hTq hIq hDq hBq
          repeat (first | (apply sig_q; exact rfl; exact rfl; exact rfl; intro K hK; go_big_quiet_op; go_big_quiet_on) | (apply sig_skip; exact rfl; exact rfl; exact rfl; intro K hK; go_big_quiet_op; go_big_quiet_on))
          clear g3 g0
          apply sig_m
          exact rfl
          go_wp2_with fail
          refine (ref_ancestors ta tc ds x _ hT0.dv (by omega)).mono ?_
          rintro e wb ⟨⟨ca, cc, rfl, hC, hCf⟩, hfb⟩
          have hCl : (chain ds x).tail.length ≤ 1000 := by have := chain_len ds x; simp; omega
          have Hfb := Lib.hid (Hf0.out.step hfb (fun _ _ h => h))
          generalize (chain ds x).tail = C at *
          clear hT0
          go_wp2_with fail
          refine OnlyN.mk ⟨hfb, ?_⟩
          clear hfb
          repeat (first | (apply sig_q; exact rfl; exact rfl; exact rfl; intro K hK; go_big_quiet_op; go_big_quiet_on) | (apply sig_skip; exact rfl; exact rfl; exact rfl; intro K hK; go_big_quiet_op; go_big_quiet_on))
          refine sig_end ?_
          go_wp2_with fail
          go_loopw [14] (fun i wr => ∃ p : Nat, p ≤ C.length ∧ i = .int .i64 (p : Int) ∧ Fr No wb wr) (fun i _ => C.length - (intOf i).toNat)
          case atStart => exact ⟨0, by omega, rfl, Fr.refl _ _⟩
          case round =>
            obtain ⟨p, hp, rfl, hfp⟩ := hrel
            by_cases hlt2 : p < C.length
            · have hlt2' : (p : Int) < C.length := by omega
              go_wp2_with fail
              refine region_sig No [(0, false), (1, false), (2, false), (3, false), (4, false), (5, false), (6, true), (7, false), (8, false), (9, false), (10, false), (11, false), (12, false), (13, false), (14, true), (15, false), (16, false), (17, false), (18, false), (19, false), (20, false), (21, false), (22, false), (23, false), (24, true), (25, false), (26, false)] (by kernel_rfl) (by kernel_rfl) (fun w0 hf0 => ?_)
              have hfp0 := hfp.step hf0 (fun _ _ h => h)
              obtain ⟨bb, off, y, hay, hyk, u0, _, _, _, _, _, _, _, _, _⟩ := (hC.no hfp0 (fun _ => id)).dev hlt2
              subst hay
              have Hy := Lib.hid (Hup.out y (List.mem_of_getElem? hyk))
              have hf90 := Hfb.out.step hfp0 (fun _ _ h => h)
              have g3 : ∀ g : Gr No w0, g.W.cell? ⟨w1.heap.size, 0, none⟩ = some (.slice ta ds.length tc) := fun g => g.fr.cell (cell_of_block (hf90.heap hbt9 id) 0) id
              have g0 : ∀ g : Gr No w0, g.W.cell? ⟨bb, off + p * 10, none⟩ = some (.int .i64 y.index) := fun g => g.fr.cell u0 id
              have hD0 := hD9.no hf90 (fun _ => id)
              have hB0 := hB.no hf90 (fun _ => id)
              have hT0 := hTr9.no hf90
              have hR0 := hRc9.no hf90 (fun _ => id)
              have Hfp0 := Lib.hid hfp0
              clear hyk u0 hf0 hfp hfp0 hf90
              repeat (first | (apply sig_q; exact rfl; exact rfl; exact rfl; intro K hK; go_big_quiet_op; go_big_quiet_on) | (apply sig_skip; exact rfl; exact rfl; exact rfl; intro K hK; go_big_quiet_op; go_big_quiet_on))
              apply sig_m
              exact rfl
              go_wp2_with fail
              refine (ints_in da dc dl y.index _ hD0).mono ?_
              rintro e wx ⟨rfl, rfl⟩
              rw [decide_eq_false Hy.out.1]
              go_wp2_with fail
              refine OnlyN.mk ⟨Fr.refl _ _, ?_⟩
              repeat (first | (apply sig_q; exact rfl; exact rfl; exact rfl; intro K hK; go_big_quiet_op; go_big_quiet_on) | (apply sig_skip; exact rfl; exact rfl; exact rfl; intro K hK; go_big_quiet_op; go_big_quiet_on))
              apply sig_m
              exact rfl
              go_wp2_with fail
              refine (ints_in ba bc bl y.index _ hB0).mono ?_
              rintro e wx ⟨rfl, rfl⟩
              rw [decide_eq_false Hy.out.2.1]
              go_wp2_with fail
              refine OnlyN.mk ⟨Fr.refl _ _, ?_⟩
              repeat (first | (apply sig_q; exact rfl; exact rfl; exact rfl; intro K hK; go_big_quiet_op; go_big_quiet_on) | (apply sig_skip; exact rfl; exact rfl; exact rfl; intro K hK; go_big_quiet_op; go_big_quiet_on))
              clear g3 g0
              apply sig_m
              exact rfl
              go_wp2_with fail
              refine (ref_recorded ta _ tc _ ds R y.index _ hT0.dv hT (by omega) hR0).mono ?_
              rintro e wx ⟨rfl, hfx⟩
              rw [Hy.out.2.2]
              have Hfx := Lib.hid (Hfp0.out.step hfx (fun _ _ h => h))
              go_wp2_with fail
              refine OnlyN.mk ⟨hfx, ?_⟩
              clear hfx hD0 hB0 hT0 hR0
              repeat (first | (apply sig_q; exact rfl; exact rfl; exact rfl; intro K hK; go_big_quiet_op; go_big_quiet_on) | (apply sig_skip; exact rfl; exact rfl; exact rfl; intro K hK; go_big_quiet_op; go_big_quiet_on))
              refine sig_end ?_
              go_wp2_with fail
              go_roundw
              case rel => exact ⟨p + 1, by omega, by go_num, Hfx.out⟩
              case measure => simp [intOf]; omega
            · obtain rfl : p = C.length := by omega
              obtain ⟨wc, rfl⟩ : ∃ wc, wc = wr := ⟨_, rfl⟩
              have Hfc := Lib.hid (Hfb.out.step hfp (fun _ _ h => h))
              clear hfp hC hCf Hup
              go_wp2_with fail
              go_loopw [15] (fun i wr => ∃ p : Nat, p ≤ F.length ∧ i = .int .i64 (p : Int) ∧ Fr No wc wr) (fun i _ => F.length - (intOf i).toNat)
              case atStart => exact ⟨0, by omega, rfl, Fr.refl _ _⟩
              case round =>
                obtain ⟨p, hp, rfl, hfp⟩ := hrel
                by_cases hlt2 : p < F.length
                · have hlt2' : (p : Int) < F.length := by omega
                  go_wp2_with fail
                  refine region_sig No [(0, false), (1, false), (2, false), (3, false), (4, false), (5, false), (6, false), (7, false), (8, false), (9, false), (10, false), (11, false), (12, false), (13, true), (14, false)] (by kernel_rfl) (by kernel_rfl) (fun w0 hf0 => ?_)
                  have hfp0 := hfp.step hf0 (fun _ _ h => h)
                  have hf90 := Hfc.out.step hfp0 (fun _ _ h => h)
                  have hI0 := hI9.no hf90 (fun _ => id)
                  obtain ⟨fb2, fo2, y, hay, hyk, u0⟩ := hI0.at hlt2
                  obtain ⟨fb3, fo3, x', hax', hxk', u1⟩ := hI0.at hlt
                  cases hay
                  cases hax'
                  obtain rfl : x' = x := by have h1 := Hxk.out; rw [hxk'] at h1; exact Option.some.inj h1
                  have Hyk := Lib.hid hyk
                  have HyF := Lib.hid (List.mem_of_getElem? hyk)
                  have g3 : ∀ g : Gr No w0, g.W.cell? ⟨w1.heap.size, 0, none⟩ = some (.slice ta ds.length tc) := fun g => g.fr.cell (cell_of_block (hf90.heap hbt9 id) 0) id
                  have g0 : ∀ g : Gr No w0, g.W.cell? ⟨fb, fo + q, none⟩ = some (.int .i64 x') := fun g => g.fr.cell u1 id
                  have g1 : ∀ g : Gr No w0, g.W.cell? ⟨fb, fo + p, none⟩ = some (.int .i64 y) := fun g => g.fr.cell u0 id
                  have hT0 := hTr9.no hf90
                  have hE0 := hE9.no hf90
                  have hm0 := hf90.cell hm9 id
                  have Hfp0 := Lib.hid hfp0
                  clear hyk hxk' u0 u1 hf0 hfp hfp0 hf90 hI0
                  rcases hqp : ((q : Int) != (p : Int)) with _ | _
                  · repeat (first | (apply sig_q; exact rfl; exact rfl; exact rfl; intro K hK; go_big_quiet_op; go_big_quiet_on) | (apply sig_skip; exact rfl; exact rfl; exact rfl; intro K hK; go_big_quiet_op; go_big_quiet_on))
                    apply sig_m
                    exact rfl
                    go_wp2_with fail
                    refine OnlyN.mk ⟨Fr.refl _ _, ?_⟩
                    repeat (first | (apply sig_q; exact rfl; exact rfl; exact rfl; intro K hK; go_big_quiet_op; go_big_quiet_on) | (apply sig_skip; exact rfl; exact rfl; exact rfl; intro K hK; go_big_quiet_op; go_big_quiet_on))
                    refine sig_end ?_
                    clear g3 g0 g1
                    go_wp2_with fail
                    go_roundw
                    case rel => exact ⟨p + 1, by omega, by go_num, Hfp0.out⟩
                    case measure => simp [intOf]; omega
                  · have Hne : Hid (x' ≠ y) := by
                      intro e
                      have hqp2 : q ≠ p := by
                        intro e2; subst e2; simp at hqp
                      have h1 := Hxk.out
                      have h2 := Hyk.out
                      rw [← e] at h2
                      obtain ⟨l1, h3⟩ := List.getElem?_eq_some_iff.1 h1
                      obtain ⟨l2, h4⟩ := List.getElem?_eq_some_iff.1 h2
                      have hp := List.pairwise_iff_getElem.1 HF.out.nd
                      rcases Nat.lt_or_gt_of_ne hqp2 with hlt3 | hlt3
                      · exact hp q p l1 l2 hlt3 (h3.trans h4.symm)
                      · exact hp p q l2 l1 hlt3 (h4.trans h3.symm)
                    repeat (first | (apply sig_q; exact rfl; exact rfl; exact rfl; intro K hK; go_big_quiet_op; go_big_quiet_on) | (apply sig_skip; exact rfl; exact rfl; exact rfl; intro K hK; go_big_quiet_op; go_big_quiet_on))
                    clear g3 g0 g1
                    apply sig_m
                    exact rfl
                    go_wp2_with fail
                    obtain ⟨d1, hd1, e1⟩ := HF.out.dev x' HxF.out
                    obtain ⟨d2, hd2, e2⟩ := HF.out.dev y HyF.out
                    have hw1' : (Lit.int .i64 x').wf = true := by rw [← e1]; exact hT.iwf hd1
                    have hw2' : (Lit.int .i64 y).wf = true := by rw [← e2]; exact hT.iwf hd2
                    have L1 := Lib.hid (show ∃ d, look ds x' = some d from ⟨d1, by rw [← e1]; exact hT.lk hd1⟩)
                    have L2 := Lib.hid (show ∃ d, look ds y = some d from ⟨d2, by rw [← e2]; exact hT.lk hd2⟩)
                    clear e1 e2
                    refine (r_related_no _ tc ds _ x' y m _ hT0 (by omega) hE0 hm0 L1.out L2.out hw1' hw2' Hne.out (HF.out.under hT0.wf HxF.out HyF.out) (HF.out.under hT0.wf HyF.out HxF.out) (HF.out.sis _ HxF.out _ HyF.out Hne.out)).mono ?_
                    rintro e wx ⟨rfl, hfx⟩
                    have Hfx := Lib.hid (Hfp0.out.step hfx (fun _ _ h => h))
                    go_wp2_with fail
                    refine OnlyN.mk ⟨hfx, ?_⟩
                    clear hfx hT0 hE0 hm0
                    repeat (first | (apply sig_q; exact rfl; exact rfl; exact rfl; intro K hK; go_big_quiet_op; go_big_quiet_on) | (apply sig_skip; exact rfl; exact rfl; exact rfl; intro K hK; go_big_quiet_op; go_big_quiet_on))
                    refine sig_end ?_
                    go_wp2_with fail
                    go_roundw
                    case rel => exact ⟨p + 1, by omega, by go_num, Hfx.out⟩
                    case measure => simp [intOf]; omega
                · obtain rfl : p = F.length := by omega
                  have Hfd := Lib.hid (Hfc.out.step hfp (fun _ _ h => h))
                  clear hfp
                  go_wp2_with fail
                  go_roundw
                  case rel => exact ⟨q + 1, by omega, by go_num, Hfd.out⟩
                  case measure => simp [intOf]; omega
        · obtain rfl : q = F.length := by omega
          have Hfq := Lib.hid (Hfr9.out.step hfq (fun _ _ h => h.elim))
          clear hfq
          go_wp2_with fail
          refine (known_true _).mono ?_
          rintro e w7 ⟨rfl, hf7⟩
          have Hfz := Lib.hid ((Hfq.out.step hf7 (fun _ _ h => h.elim)).mono (T := No) (fun b hb h => by unfold From at h; omega))
          clear hf7
          go_wp2_with fail
          go_ret
          exact ⟨rfl, Hfz.out⟩
end Go.Proofs.YtanaompgapiikaaGreatDoor
