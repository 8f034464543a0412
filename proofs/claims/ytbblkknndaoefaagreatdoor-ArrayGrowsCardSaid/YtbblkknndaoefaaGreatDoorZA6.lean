/- coldplugref32.IDs. The owners as the reference gathers them. Plain. Arrays of members: the best member of each place; the array of an ID. Plain. Arrays as the reference builds them. Plain. clash. Insert of the reference. slices.Clone of strings. coldplugref32.In, coldplugmake.SameTexts. -/
import Derived.Test.YtbblkknndaoefaaGreatDoorZA5
import Derived.Test.YtbblkknndaoefaaGreatDoorZA4
import Derived.Test.YtbblkknndaoefaaGreatDoorZA3
import Derived.Test.YtbblkknndaoefaaGreatDoorZA2
import Derived.Laws.AppendOwnNone
namespace Go.Proofs.YtbblkknndaoefaaGreatDoor
open Go.RowKit Go.Maps
set_option linter.unusedVariables false

/-- The IDs, ascending, each once, as the reference gathers them. -/
def idsW (L : List Mem) : List ByteArray := L.foldl (fun o m => with32 o m.i) []
theorem idsW_snoc (L : List Mem) (m : Mem) : idsW (L ++ [m]) = with32 (idsW L) m.i := by simp [idsW, List.foldl_append]
theorem idsW_ok (L : List Mem) : (idsW L).Pairwise ltS ∧ (∀ y, y ∈ idsW L ↔ ∃ m ∈ L, m.i = y) ∧ (idsW L).length ≤ L.length := by
  refine rev_ind (P := fun L => (idsW L).Pairwise ltS ∧ (∀ y, y ∈ idsW L ↔ ∃ m ∈ L, m.i = y) ∧ (idsW L).length ≤ L.length) ?_ ?_ L
  · exact ⟨List.Pairwise.nil, by simp [idsW], by simp [idsW]⟩
  · intro l x ⟨h1, h2, h3⟩
    rw [idsW_snoc]
    obtain ⟨h4, h5⟩ := with32_ok x.i h1
    refine ⟨h4, fun y => ?_, ?_⟩
    · rw [h5, h2]
      constructor
      · rintro (rfl | ⟨m, hm, rfl⟩)
        · exact ⟨x, by simp, rfl⟩
        · exact ⟨m, by simp [hm], rfl⟩
      · rintro ⟨m, hm, rfl⟩
        rcases List.mem_append.1 hm with h | h
        · exact .inr ⟨m, h, rfl⟩
        · obtain rfl : m = x := by simpa using h
          exact .inl rfl
    · have := with32_len (idsW l) x.i
      simp only [List.length_append, List.length_cons, List.length_nil]
      omega
set_option maxRecDepth 100000 in
set_option maxHeartbeats 2000000 in
theorem ref_ids (a : Option Addr) (cap : Nat) (L : List Mem) (w : World) (hL : Mems w a cap L) (hb : L.length ≤ 100000) :
    Calls Tryz.prog 78 #[.slice a L.length cap] w fun e w' => (∃ a' c', e = .returned (.slice a' (idsW L).length c') ∧ Strs w' a' c' (idsW L) ∧ ∀ ad, a' = some ad → w.heap.size ≤ ad.block) ∧ Fr No w w' := by
  have hm := hL.lenmax
  go_enter Tryz.func78, Tryz.ntmps78
  go_wp2_with fail
  go_loopw [3, 4] (fun v i wr => ∃ (k : Nat) (av : Option Addr) (cv : Nat), k ≤ L.length ∧ v = .slice av (idsW (L.take k)).length cv ∧ i = .int .i64 (k : Int) ∧ Strs wr av cv (idsW (L.take k)) ∧ (∀ ad, av = some ad → w.heap.size ≤ ad.block) ∧ Fr No w wr) (fun _ i _ => L.length - (intOf i).toNat)
  case atStart => exact ⟨0, none, 0, by omega, rfl, rfl, Strs.nil _, (fun ad e => by cases e), Fr.refl _ _⟩
  case round =>
    obtain ⟨k, av, cv, hk, rfl, rfl, hS, hF, hf⟩ := hrel
    by_cases hlt : k < L.length
    · have hlt' : (k : Int) < L.length := by omega
      obtain ⟨b, off, m, rfl, hx, _, ⟨_, c1, _, _, _, _, _⟩, _⟩ := (hL.no hf (fun _ => id)).elem hlt
      have Htk : Hid (idsW (L.take (k + 1)) = with32 (idsW (L.take k)) m.i) := by unfold Hid; rw [List.take_add_one, hx]; exact idsW_snoc _ _
      have hok := idsW_ok (L.take k)
      have hl : (idsW (L.take k)).length ≤ 1000000 := by have := hok.2.2; rw [List.length_take] at this; omega
      have hw := ref_with32 av cv (idsW (L.take k)) m.i wr hS hok.1 hl
      have hsr := hf.size
      clear hx hok
      go_wp2_with fail
      refine hw.mono ?_
      rintro e w1 ⟨⟨a1, k1, rfl, hS1, hF1⟩, hf1⟩
      have H := Lib.hid (And.intro hS1 (And.intro (fun ad (e : a1 = some ad) => Nat.le_trans hsr (hF1 ad e)) (hf.step hf1 (fun _ _ h => h))))
      clear hS1 hF1 hf hf1 hw hS hF
      go_wp2_with fail
      go_roundw
      case rel => exact ⟨k + 1, a1, k1, by omega, by rw [Htk.out], by go_num, by rw [Htk.out]; exact H.out.1, H.out.2.1, H.out.2.2⟩
      case measure => simp [intOf]; omega
    · obtain rfl : k = L.length := by omega
      rw [List.take_length] at hS ⊢
      have H := Lib.hid (And.intro hS (And.intro hF hf))
      clear hS hF hf
      go_wp2_with fail
      go_ret
      exact ⟨⟨_, _, rfl, H.out.1, H.out.2.1⟩, H.out.2.2⟩
end Go.Proofs.YtbblkknndaoefaaGreatDoor
namespace Go.Proofs.YtbblkknndaoefaaGreatDoor
open Go.RowKit
set_option linter.unusedVariables false

theorem asc_of {l : List ByteArray} (h : l.Pairwise ltS) : AscS (l.map kb) := by
  refine List.pairwise_map.2 (h.imp (fun {x y} hxy => ?_))
  rw [ltS_iff] at hxy
  refine ⟨?_, fun e => ?_⟩
  · unfold leS
    exact decide_eq_true (List.not_lt.1 (fun h' => List.lt_irrefl _ (List.lt_trans hxy h')))
  · have e' : wbl x = wbl y := e
    rw [e'] at hxy
    exact List.lt_irrefl _ hxy
/-- The members with one inner text. -/
def goodL (L : List Mem) : List Mem := L.filter fun m => m.l.length == 1
theorem goodL_snoc (L : List Mem) (m : Mem) : goodL (L ++ [m]) = goodL L ++ (if m.l.length = 1 then [m] else []) := by
  unfold goodL
  rw [List.filter_append]
  by_cases h : m.l.length = 1 <;> simp [h]
theorem goodL_yes {L : List Mem} {k : Nat} {m : Mem} (h : L[k]? = some m) (h1 : m.l.length = 1) : goodL (L.take (k + 1)) = goodL (L.take k) ++ [m] := by
  rw [List.take_add_one, h, show (some m).toList = [m] from rfl, goodL_snoc, if_pos h1]
theorem goodL_no {L : List Mem} {k : Nat} {m : Mem} (h : L[k]? = some m) (h1 : ¬ m.l.length = 1) : goodL (L.take (k + 1)) = goodL (L.take k) := by
  rw [List.take_add_one, h, show (some m).toList = [m] from rfl, goodL_snoc, if_neg h1, List.append_nil]
theorem best_good (L : List Mem) : best (goodL L) = best L := by
  refine rev_ind (P := fun L => best (goodL L) = best L) rfl ?_ L
  intro l m ih
  rw [goodL_snoc, best_snoc]
  by_cases h : m.l.length = 1
  · rw [if_pos h, best_snoc, ih]
  · rw [if_neg h, List.append_nil, ih, bestS_skip h]
theorem ids33 (L : List Mem) : IsIds L (idsW (goodL L)) := by
  refine ⟨asc_of (idsW_ok _).1, fun x => ?_⟩
  rw [(idsW_ok _).2.1, best_some_iff]
  constructor
  · rintro ⟨m, hm, rfl⟩
    obtain ⟨h1, h2⟩ := List.mem_filter.1 hm
    exact ⟨m, h1, by simpa using h2, rfl⟩
  · rintro ⟨m, h1, h2, h3⟩
    exact ⟨m, List.mem_filter.2 ⟨h1, by simpa using h2⟩, kb_inj h3⟩
theorem bestS_other {g : List UInt8 → Option Mem} {m : Mem} {x : ByteArray} (h : m.i ≠ x) : bestS g m (kb x) = g (kb x) := by
  unfold bestS
  rw [if_neg]
  intro e
  simp only [Bool.and_eq_true, beq_iff_eq] at e
  exact h (kb_inj e.1.2).symm
/-- The owners, with the places of their inner texts as they stand in the list. -/
def ownF (L : List Mem) (ids : List ByteArray) : List Mem := ids.map fun x => (best L (kb x)).getD Mem.zero
theorem ownF_k (L : List Mem) (ids : List ByteArray) : (ownF L ids).map Mem.k = own1 L ids := by
  unfold ownF own1
  rw [List.map_map]; rfl
theorem goodL_len (L : List Mem) : (goodL L).length ≤ L.length := List.length_filter_le _ _
theorem goodL_mem {L : List Mem} {m : Mem} (h : m ∈ goodL L) : m ∈ L ∧ m.l.length = 1 := by
  obtain ⟨h1, h2⟩ := List.mem_filter.1 h
  exact ⟨h1, by simpa using h2⟩
theorem ownF_mem {L : List Mem} {x : ByteArray} (h : x ∈ idsW (goodL L)) : ∃ m, best L (kb x) = some m ∧ m ∈ L ∧ m.l.length = 1 ∧ m.i = x := by
  obtain ⟨m, hm⟩ := Option.isSome_iff_exists.1 (((ids33 L).mem x).1 h)
  obtain ⟨h1, h2, h3⟩ := best_mem L _ m hm
  exact ⟨m, hm, h1, h2, kb_inj h3⟩
end Go.Proofs.YtbblkknndaoefaaGreatDoor
namespace Go.Proofs.YtbblkknndaoefaaGreatDoor
open Go.RowKit
set_option linter.unusedVariables false

def best2S (good : Mem → Bool) (g : ByteArray × Int → Option Mem) (m : Mem) : ByteArray × Int → Option Mem := fun x =>
  if (good m && decide (x = (m.i, m.s)) && (match g x with | none => true | some o => ahead m o)) = true then some m else g x
/-- The best member of each place. -/
def best2 (good : Mem → Bool) (L : List Mem) : ByteArray × Int → Option Mem := L.foldl (best2S good) fun _ => none
section
variable {good : Mem → Bool}
theorem best2_snoc (L : List Mem) (m : Mem) : best2 good (L ++ [m]) = best2S good (best2 good L) m := by simp [best2, List.foldl_append]
theorem best2S_cases (g : ByteArray × Int → Option Mem) (m : Mem) (x : ByteArray × Int) : (best2S good g m x = some m ∧ good m = true ∧ x = (m.i, m.s) ∧ ∀ o, g x = some o → ahead m o = true) ∨ (best2S good g m x = g x ∧ (good m = true → x = (m.i, m.s) → ∃ o, g x = some o ∧ ahead m o = false)) := by
  by_cases h1 : good m = true
  · by_cases h2 : x = (m.i, m.s)
    · rcases hg : g x with _ | o
      · refine .inl ⟨?_, h1, h2, fun o ho => by cases ho⟩
        unfold best2S; rw [hg]; simp [h1, h2]
      · cases ha : ahead m o with
        | true =>
          refine .inl ⟨?_, h1, h2, fun o' ho => by cases ho; exact ha⟩
          unfold best2S; rw [hg]; simp [h1, h2, ha]
        | false =>
          refine .inr ⟨?_, fun _ _ => ⟨o, rfl, ha⟩⟩
          unfold best2S; rw [hg]; simp [ha]
    · refine .inr ⟨?_, fun _ h => absurd h h2⟩
      unfold best2S; rw [if_neg (by simp [h2])]
  · refine .inr ⟨?_, fun h => absurd h h1⟩
    unfold best2S; rw [if_neg (by simp [h1])]
theorem best2S_skip {g : ByteArray × Int → Option Mem} {m : Mem} (h : good m = false) : best2S good g m = g := by
  funext x; unfold best2S; rw [if_neg (by simp [h])]
theorem best2S_keep {g : ByteArray × Int → Option Mem} {m o : Mem} (hg : g (m.i, m.s) = some o) (h : ahead m o = false) : best2S good g m = g := by
  funext x; unfold best2S
  by_cases e : x = (m.i, m.s)
  · subst e; rw [hg]; simp [h]
  · rw [if_neg (by simp [e])]
theorem best2S_take {g : ByteArray × Int → Option Mem} {m : Mem} (h1 : good m = true) (h : ∀ o, g (m.i, m.s) = some o → ahead m o = true) : best2S good g m = fun x => if x = (m.i, m.s) then some m else g x := by
  funext x; unfold best2S
  by_cases e : x = (m.i, m.s)
  · subst e
    rw [if_pos rfl]
    rcases hg : g (m.i, m.s) with _ | o
    · simp [h1]
    · simp [h1, h o hg]
  · rw [if_neg (by simp [e]), if_neg e]
theorem best2_mem (L : List Mem) : ∀ x m, best2 good L x = some m → m ∈ L ∧ good m = true ∧ (m.i, m.s) = x := by
  refine rev_ind (P := fun L => ∀ x m, best2 good L x = some m → m ∈ L ∧ good m = true ∧ (m.i, m.s) = x) ?_ ?_ L
  · intro x m h; cases h
  · intro l y ih x m h
    rw [best2_snoc] at h
    rcases best2S_cases (best2 good l) y x with ⟨h1, h2, h3, _⟩ | ⟨h1, _⟩
    · rw [h1] at h; cases h
      exact ⟨by simp, h2, h3.symm⟩
    · rw [h1] at h
      obtain ⟨a, b⟩ := ih x m h
      exact ⟨by simp [a], b⟩
theorem best2_some (L : List Mem) : ∀ m ∈ L, good m = true → ∃ o, best2 good L (m.i, m.s) = some o := by
  refine rev_ind (P := fun L => ∀ m ∈ L, good m = true → ∃ o, best2 good L (m.i, m.s) = some o) ?_ ?_ L
  · intro m h; cases h
  · intro l y ih m hm h1
    rw [best2_snoc]
    rcases best2S_cases (best2 good l) y (m.i, m.s) with ⟨h2, _⟩ | ⟨h2, h3⟩
    · exact ⟨y, h2⟩
    · rw [h2]
      rcases List.mem_append.1 hm with hm | hm
      · exact ih m hm h1
      · obtain rfl : m = y := by simpa using hm
        obtain ⟨o, ho, _⟩ := h3 h1 rfl
        exact ⟨o, ho⟩
theorem best2_least (L : List Mem) : L.Pairwise (fun m o => m.p ≠ o.p) → ∀ m ∈ L, good m = true → ∀ o, best2 good L (m.i, m.s) = some o → m = o ∨ ahead o m = true := by
  refine rev_ind (P := fun L => L.Pairwise (fun m o => m.p ≠ o.p) → ∀ m ∈ L, good m = true → ∀ o, best2 good L (m.i, m.s) = some o → m = o ∨ ahead o m = true) ?_ ?_ L
  · intro _ m h; cases h
  · intro l y ih hp m hm h1 o ho
    obtain ⟨hp1, _, hp2⟩ := List.pairwise_append.1 hp
    rw [best2_snoc] at ho
    rcases best2S_cases (best2 good l) y (m.i, m.s) with ⟨h2, h3, h4, h5⟩ | ⟨h2, h3⟩
    · rw [h2] at ho; cases ho
      rcases List.mem_append.1 hm with hm | hm
      · obtain ⟨o', ho'⟩ := best2_some l m hm h1
        right
        rcases ih hp1 m hm h1 o' ho' with rfl | h6
        · exact h5 _ ho'
        · exact ahead_trans (h5 o' ho') h6
      · exact .inl (by simpa using hm)
    · rw [h2] at ho
      rcases List.mem_append.1 hm with hm | hm
      · exact ih hp1 m hm h1 o ho
      · obtain rfl : m = y := by simpa using hm
        obtain ⟨o', ho', h6⟩ := h3 h1 rfl
        rw [ho] at ho'; cases ho'
        exact .inr (ahead_total (Ne.symm (hp2 o (best2_mem l _ o ho).1 m (by simp))) h6)
theorem best2_order {L L' : List Mem} (hp : L.Pairwise (fun m o => m.p ≠ o.p)) (hp' : L'.Pairwise (fun m o => m.p ≠ o.p)) (h : ∀ m, m ∈ L ↔ m ∈ L') (x : ByteArray × Int) : best2 good L x = best2 good L' x := by
  rcases h1 : best2 good L x with _ | o
  · rcases h2 : best2 good L' x with _ | o'
    · rfl
    · exfalso
      obtain ⟨a, b, c⟩ := best2_mem L' x o' h2
      obtain ⟨z, hz⟩ := best2_some L o' ((h o').2 a) b
      rw [c, h1] at hz; cases hz
  · obtain ⟨a, b, c⟩ := best2_mem L x o h1
    obtain ⟨o', ho'⟩ := best2_some L' o ((h o).1 a) b
    rw [c] at ho'
    rw [ho']
    obtain ⟨a', b', c'⟩ := best2_mem L' x o' ho'
    rcases best2_least L' hp' o ((h o).1 a) b o' (by rw [c]; exact ho') with e | h3
    · rw [e]
    · rcases best2_least L hp o' ((h o').2 a') b' o (by rw [c']; exact h1) with e | h4
      · rw [e]
      · rw [ahead_asymm h3] at h4; cases h4
end

/-- A member has a path, and a slot and a total that may be. -/
def soundB (m : Mem) : Bool := !m.p.toList.isEmpty && (decide (1 ≤ m.s) && decide (m.s ≤ 16)) && (decide (1 ≤ m.t) && decide (m.t ≤ 16))

/-- An array: its ID, paths, total, least, count, inner texts. -/
structure Arr where
  i : ByteArray
  ps : List ByteArray
  t : Int
  e : Int
  n : Int
  l : List ByteArray
/-- The least slot of an ID. -/
def leastSlot (b : ByteArray × Int → Option Mem) (id : ByteArray) : Int := (((List.range 16).find? fun (k : Nat) => (b (id, (k : Int) + 1)).isSome).getD 0 : Nat) + 1
def firstOf (b : ByteArray × Int → Option Mem) (id : ByteArray) : Mem := (b (id, leastSlot b id)).getD Mem.zero
def pathAt (b : ByteArray × Int → Option Mem) (id : ByteArray) (k : Nat) : ByteArray := match b (id, (k : Int) + 1) with | some m => m.p | none => ⟨#[]⟩
/-- The array of an ID. -/
def buildA (b : ByteArray × Int → Option Mem) (id : ByteArray) : Arr :=
  ⟨id, (List.range (firstOf b id).t.toNat).map (pathAt b id), (firstOf b id).t, (firstOf b id).e, ((List.range (firstOf b id).t.toNat).filter fun (k : Nat) => (b (id, (k : Int) + 1)).isSome).length, (firstOf b id).l⟩
/-- ids are the IDs, ascending. -/
structure IsIds2 (b : ByteArray × Int → Option Mem) (ids : List ByteArray) : Prop where
  asc : AscS (ids.map kb)
  mem : ∀ x : ByteArray, x ∈ ids ↔ ∃ s : Int, (b (x, s)).isSome = true
theorem IsIds2.unique {b : ByteArray × Int → Option Mem} {ids ids' : List ByteArray} (h : IsIds2 b ids) (h' : IsIds2 b ids') : ids = ids' := by
  refine map_kb_inj (AscS.ext h.asc h'.asc fun x => ?_)
  rw [mem_kb, mem_kb, h.mem, h'.mem]
/-- The slots of an ID: each once. -/
structure IsSlots (b : ByteArray × Int → Option Mem) (id : ByteArray) (zs : List Int) : Prop where
  nodup : zs.Nodup
  mem : ∀ s : Int, s ∈ zs ↔ (b (id, s)).isSome = true
theorem leastSlot_min {b : ByteArray × Int → Option Mem} {id : ByteArray} {zs : List Int} (h : IsSlots b id zs) (hr : ∀ s ∈ zs, 1 ≤ s ∧ s ≤ 16) {m : Int} (hm : m ∈ zs) (hmin : ∀ s ∈ zs, m ≤ s) : leastSlot b id = m := by
  unfold leastSlot
  obtain ⟨h1, h2⟩ := hr m hm
  obtain ⟨k, rfl⟩ : ∃ k : Nat, m = (k : Int) + 1 := ⟨(m - 1).toNat, by omega⟩
  have hf : (List.range 16).find? (fun (k : Nat) => (b (id, (k : Int) + 1)).isSome) = some k := by
    rw [List.find?_range_eq_some]
    refine ⟨(h.mem _).1 hm, List.mem_range.2 (by omega), fun j hj => ?_⟩
    cases hb : (b (id, (j : Int) + 1)).isSome with
    | false => rfl
    | true =>
      have := hmin _ ((h.mem _).2 hb)
      omega
  rw [hf]; rfl
/-- The paths, when the slots zs have been seen. -/
def psJ (b : ByteArray × Int → Option Mem) (id : ByteArray) (T : Nat) (zs : List Int) : List ByteArray := (List.range T).map fun (k : Nat) => if ((k : Int) + 1) ∈ zs then pathAt b id k else ⟨#[]⟩
def cntJ (T : Int) (zs : List Int) : Nat := (zs.filter fun s => decide (s ≤ T)).length
theorem psJ_len (b : ByteArray × Int → Option Mem) (id : ByteArray) (T : Nat) (zs : List Int) : (psJ b id T zs).length = T := by simp [psJ]
theorem psJ_nil (b : ByteArray × Int → Option Mem) (id : ByteArray) (T : Nat) : psJ b id T [] = List.replicate T ⟨#[]⟩ := by
  unfold psJ
  simp only [List.not_mem_nil, if_false]
  rw [List.map_const', List.length_range]
theorem psJ_put (b : ByteArray × Int → Option Mem) (id : ByteArray) (T : Nat) (zs : List Int) (k : Nat) (hk : k < T) : psJ b id T (zs ++ [(k : Int) + 1]) = (psJ b id T zs).set k (pathAt b id k) := by
  apply List.ext_getElem?
  intro j
  rw [List.getElem?_set]
  unfold psJ
  by_cases hj : j < T
  · simp only [List.getElem?_map, List.getElem?_range hj, Option.map_some, List.length_map, List.length_range]
    by_cases e : k = j
    · subst e
      simp [hj]
    · have : ((j : Int) + 1 ∈ zs ++ [(k : Int) + 1]) ↔ (j : Int) + 1 ∈ zs := by
        simp; omega
      simp only [this, if_neg e]
  · have h1 : (List.range T)[j]? = none := List.getElem?_eq_none (by simp; omega)
    rw [List.getElem?_map, List.getElem?_map, h1]
    have e : k ≠ j := by omega
    simp [e]
theorem psJ_skip (b : ByteArray × Int → Option Mem) (id : ByteArray) (T : Nat) (zs : List Int) (s : Int) (hs : ¬ s ≤ T) : psJ b id T (zs ++ [s]) = psJ b id T zs := by
  unfold psJ
  refine List.map_congr_left (fun k hk => ?_)
  have hk' := List.mem_range.1 hk
  have : ((k : Int) + 1 ∈ zs ++ [s]) ↔ (k : Int) + 1 ∈ zs := by simp; omega
  simp only [this]
theorem psJ_full {b : ByteArray × Int → Option Mem} {id : ByteArray} {zs : List Int} (h : IsSlots b id zs) (T : Nat) : psJ b id T zs = (List.range T).map (pathAt b id) := by
  unfold psJ
  refine List.map_congr_left (fun k _ => ?_)
  split
  · rfl
  · rename_i hn
    rw [h.mem] at hn
    unfold pathAt
    rcases hb : b (id, (k : Int) + 1) with _ | m
    · rfl
    · rw [hb] at hn; simp at hn
theorem cntJ_full {b : ByteArray × Int → Option Mem} {id : ByteArray} {zs : List Int} (h : IsSlots b id zs) (hr : ∀ s ∈ zs, 1 ≤ s) (T : Nat) : cntJ T zs = ((List.range T).filter fun (k : Nat) => (b (id, (k : Int) + 1)).isSome).length := by
  unfold cntJ
  have hp : (zs.filter fun s => decide (s ≤ (T : Int))).Perm (((List.range T).filter fun (k : Nat) => (b (id, (k : Int) + 1)).isSome).map fun k : Nat => (k : Int) + 1) := by
    rw [List.perm_ext_iff_of_nodup]
    · intro s
      simp only [List.mem_filter, List.mem_map, List.mem_range, decide_eq_true_eq]
      constructor
      · rintro ⟨h1, h2⟩
        have h3 := hr s h1
        refine ⟨(s - 1).toNat, ⟨by omega, ?_⟩, by omega⟩
        rw [show (((s - 1).toNat : Nat) : Int) + 1 = s by omega]
        exact (h.mem s).1 h1
      · rintro ⟨k, ⟨h1, h2⟩, rfl⟩
        exact ⟨(h.mem _).2 h2, by omega⟩
    · exact h.nodup.sublist List.filter_sublist
    · refine List.pairwise_map.2 ((List.nodup_range.sublist List.filter_sublist).imp (fun {a b} hab e => hab (by omega)))
  rw [hp.length_eq, List.length_map]
theorem cntJ_snoc (T : Int) (zs : List Int) (s : Int) : cntJ T (zs ++ [s]) = cntJ T zs + (if s ≤ T then 1 else 0) := by
  unfold cntJ
  rw [List.filter_append, List.length_append]
  congr 1
  by_cases h : s ≤ T <;> simp [h]
theorem cntJ_le (T : Int) (zs : List Int) : cntJ T zs ≤ zs.length := List.length_filter_le _ _
end Go.Proofs.YtbblkknndaoefaaGreatDoor
namespace Go.Proofs.YtbblkknndaoefaaGreatDoor
open Go.RowKit
set_option linter.unusedVariables false

def allG : Mem → Bool := fun _ => true
section
variable {good : Mem → Bool}
theorem best2_all (L : List Mem) : best2 allG (L.filter good) = best2 good L := by
  refine rev_ind (P := fun L => best2 allG (L.filter good) = best2 good L) rfl ?_ L
  intro l m ih
  rw [List.filter_append, best2_snoc]
  cases h : good m with
  | true =>
    rw [show [m].filter good = [m] from by simp [h], best2_snoc, ih]
    funext x
    unfold best2S
    rw [h]; rfl
  | false =>
    rw [show [m].filter good = [] from by simp [h], List.append_nil, ih, best2S_skip h]
theorem best2S_other {g : ByteArray × Int → Option Mem} {m : Mem} {x : ByteArray × Int} (h : ¬ (m.i = x.1 ∧ m.s = x.2)) : best2S good g m x = g x := by
  unfold best2S
  rw [if_neg]
  intro e
  simp only [Bool.and_eq_true, decide_eq_true_eq] at e
  have e2 := e.1.2
  exact h ⟨by rw [e2], by rw [e2]⟩
theorem best2S_first {g : ByteArray × Int → Option Mem} {m : Mem} (h1 : good m = true) (hg : g (m.i, m.s) = none) : best2S good g m (m.i, m.s) = some m := by
  rw [best2S_take h1 (fun o ho => by rw [hg] at ho; cases ho)]
  exact if_pos rfl
theorem ids34 (L : List Mem) : IsIds2 (best2 good L) (idsW (L.filter good)) := by
  refine ⟨asc_of (idsW_ok _).1, fun x => ?_⟩
  rw [(idsW_ok _).2.1]
  constructor
  · rintro ⟨m, hm, rfl⟩
    obtain ⟨h1, h2⟩ := List.mem_filter.1 hm
    obtain ⟨o, ho⟩ := best2_some L m h1 h2
    exact ⟨m.s, by rw [ho]; rfl⟩
  · rintro ⟨s, hs⟩
    obtain ⟨m, hm⟩ := Option.isSome_iff_exists.1 hs
    obtain ⟨h1, h2, h3⟩ := best2_mem L _ m hm
    simp only [Prod.mk.injEq] at h3
    exact ⟨m, List.mem_filter.2 ⟨h1, h2⟩, h3.1⟩
end
/-- The member at the least slot, when the slots from 16 - n + 1 on have been looked at. -/
def upM (b : ByteArray × Int → Option Mem) (id : ByteArray) : Nat → Option Mem
  | 0 => none
  | n + 1 => match b (id, 16 - (n : Int)) with
    | some m => some m
    | none => upM b id n
theorem upM_some {b : ByteArray × Int → Option Mem} {id : ByteArray} {n : Nat} {m : Mem} (h : b (id, 16 - (n : Int)) = some m) : upM b id (n + 1) = some m := by unfold upM; rw [h]
theorem upM_none {b : ByteArray × Int → Option Mem} {id : ByteArray} {n : Nat} (h : b (id, 16 - (n : Int)) = none) : upM b id (n + 1) = upM b id n := by rw [upM, h]
theorem upM_inv (b : ByteArray × Int → Option Mem) (id : ByteArray) : ∀ n : Nat, n ≤ 16 →
    (∃ k : Nat, 16 - n ≤ k ∧ k < 16 ∧ (b (id, (k : Int) + 1)).isSome = true ∧ (∀ j : Nat, 16 - n ≤ j → j < k → (b (id, (j : Int) + 1)).isSome = false) ∧ upM b id n = b (id, (k : Int) + 1)) ∨
    ((∀ k : Nat, 16 - n ≤ k → k < 16 → (b (id, (k : Int) + 1)).isSome = false) ∧ upM b id n = none)
  | 0, _ => .inr ⟨fun k h1 h2 => by omega, rfl⟩
  | n + 1, hn => by
    have ih := upM_inv b id n (by omega)
    have e : (16 - (n : Int)) = ((15 - n : Nat) : Int) + 1 := by omega
    rcases hb : b (id, 16 - (n : Int)) with _ | m
    · rw [upM_none hb]
      have hb' : (b (id, ((15 - n : Nat) : Int) + 1)).isSome = false := by rw [← e, hb]; rfl
      rcases ih with ⟨k, h1, h2, h3, h4, h5⟩ | ⟨h1, h2⟩
      · refine .inl ⟨k, by omega, h2, h3, fun j hj1 hj2 => ?_, h5⟩
        by_cases hj : j = 15 - n
        · rw [hj]; exact hb'
        · exact h4 j (by omega) hj2
      · refine .inr ⟨fun k hk1 hk2 => ?_, h2⟩
        by_cases hk : k = 15 - n
        · rw [hk]; exact hb'
        · exact h1 k (by omega) hk2
    · rw [upM_some hb]
      refine .inl ⟨15 - n, by omega, by omega, ?_, fun j h1 h2 => by omega, ?_⟩
      · rw [← e, hb]; rfl
      · rw [← e, hb]
theorem upM_first (b : ByteArray × Int → Option Mem) (id : ByteArray) : (upM b id 16).getD Mem.zero = firstOf b id := by
  rcases upM_inv b id 16 (Nat.le_refl _) with ⟨k, _, h2, h3, h4, h5⟩ | ⟨h1, h2⟩
  · have hf : (List.range 16).find? (fun (k : Nat) => (b (id, (k : Int) + 1)).isSome) = some k := by
      rw [List.find?_range_eq_some]
      exact ⟨h3, List.mem_range.2 h2, fun j hj => by rw [h4 j (by omega) hj]; rfl⟩
    rw [h5]
    unfold firstOf leastSlot
    rw [hf]; rfl
  · have hf : (List.range 16).find? (fun (k : Nat) => (b (id, (k : Int) + 1)).isSome) = none := by
      rw [List.find?_eq_none]
      intro k hk
      rw [h1 k (by omega) (List.mem_range.1 hk)]
      decide
    rw [h2]
    unfold firstOf leastSlot
    rw [hf]
    have h3 := h1 0 (by omega) (by omega)
    simp only [Option.getD_none]
    rcases hb : b (id, ((0 : Nat) : Int) + 1) with _ | m
    · rfl
    · rw [hb] at h3; cases h3
/-- Paths and count of the first n slots. -/
def pathsN (b : ByteArray × Int → Option Mem) (id : ByteArray) (n : Nat) : List ByteArray := (List.range n).map (pathAt b id)
def cntN (b : ByteArray × Int → Option Mem) (id : ByteArray) (n : Nat) : Nat := ((List.range n).filter fun (k : Nat) => (b (id, (k : Int) + 1)).isSome).length
theorem pathsN_succ (b : ByteArray × Int → Option Mem) (id : ByteArray) (n : Nat) : pathsN b id (n + 1) = pathsN b id n ++ [pathAt b id n] := by
  unfold pathsN; rw [List.range_succ, List.map_append]; rfl
theorem pathsN_len (b : ByteArray × Int → Option Mem) (id : ByteArray) (n : Nat) : (pathsN b id n).length = n := by simp [pathsN]
theorem cntN_some {b : ByteArray × Int → Option Mem} {id : ByteArray} {n : Nat} {m : Mem} (h : b (id, (n : Int) + 1) = some m) : cntN b id (n + 1) = cntN b id n + 1 := by
  unfold cntN; rw [List.range_succ, List.filter_append]; simp [h]
theorem cntN_none {b : ByteArray × Int → Option Mem} {id : ByteArray} {n : Nat} (h : b (id, (n : Int) + 1) = none) : cntN b id (n + 1) = cntN b id n := by
  unfold cntN; rw [List.range_succ, List.filter_append]; simp [h]
theorem cntN_le (b : ByteArray × Int → Option Mem) (id : ByteArray) (n : Nat) : cntN b id n ≤ n := by
  unfold cntN
  exact Nat.le_trans (List.length_filter_le _ _) (by simp)
theorem pathAt_some {b : ByteArray × Int → Option Mem} {id : ByteArray} {n : Nat} {m : Mem} (h : b (id, (n : Int) + 1) = some m) : pathAt b id n = m.p := by unfold pathAt; rw [h]
theorem pathAt_none {b : ByteArray × Int → Option Mem} {id : ByteArray} {n : Nat} (h : b (id, (n : Int) + 1) = none) : pathAt b id n = ⟨#[]⟩ := by unfold pathAt; rw [h]
theorem buildA_eq (b : ByteArray × Int → Option Mem) (id : ByteArray) {T : Nat} (hT : (firstOf b id).t = (T : Int)) : buildA b id = ⟨id, pathsN b id T, (T : Int), (firstOf b id).e, (cntN b id T : Nat), (firstOf b id).l⟩ := by
  unfold buildA pathsN cntN
  rw [hT]
  simp only [Int.toNat_natCast]
end Go.Proofs.YtbblkknndaoefaaGreatDoor
namespace Go.Proofs.YtbblkknndaoefaaGreatDoor
open Go.RowKit Go.Maps
set_option linter.unusedVariables false

end Go.Proofs.YtbblkknndaoefaaGreatDoor
namespace Go.Proofs.YtbblkknndaoefaaGreatDoor
open Go.RowKit Go.Maps
set_option linter.unusedVariables false

/-- append onto a row of the call's own, the source nil or not. -/
theorem wpList_append_src {P : Program} {w : World} {ops : Array Oper} {rest : List Oper} {o : Oper} {a : Act} {Q : Exit → Act → World → Prop} (hgd : o.guard = none) (s x : Operand) (t : TypeId)
    (ho : o.op = .call { callee := .builtin .append, args := #[s, x], argTypes := #[t, t] })
    (base : Nat) (e : TypeId) (i : TypeInfo) (z : Value) (size bytes : Nat) (ht : P.underlying t = some (.slice e)) (hi : P.info? e = some i) (hz : i.zero = some z)
    (hsize : i.size = size) (hby : i.bytes = bytes) (hzs : z.cells.size = size) (hsz : 0 < size)
    (v : Value) (n : Nat) (xs : List Value) (hs : a.eval s = v) (hown : w.ownsRow base e size v n xs)
    (A : Option Addr) (m c : Nat) (news : List Value) (hx : a.eval x = .slice A m c) (hA : A = none → m = 0 ∧ c = 0) (hl : news.length = m * size)
    (hnews : ∀ ad, A = some ad → ∀ j u, news[j]? = some u → w.cell? (ad.add j) = some u) (h1 : ∀ u ∈ news, u.oneCell' = true)
    (h63 : n + m ≤ maxLen) (hbytes : (n + m) * bytes ≤ 140737488355328) (hbase : base ≤ w.heap.size)
    (h : ∀ v' w', w'.ownsRow base e size v' (n + m) (xs ++ news) → w.grownBy w' v.ownBlock → wpList P ops Q rest (a.put o.dst v') w') : wpList P ops Q (o :: rest) a w := by
  cases A with
  | none =>
    obtain ⟨rfl, rfl⟩ := hA rfl
    have hn : news = [] := List.eq_nil_of_length_eq_zero (by simpa using hl)
    subst hn
    exact wpList_append_own_none hgd s x t ho base e i size ht hi v n xs hs hown hx (h v w (by simpa using hown) (World.grownBy.refl w _))
  | some ad =>
    exact wpList_append_own w hgd s x t ho base e i z size bytes ht hi hz hsize hby hzs hsz v n xs hs hown ad m c news hx hl (hnews ad rfl) h1 h63 hbytes hbase (fun v' w' h2 h3 _ => h v' w' h2 h3)

theorem one_cell {w : World} {b : Nat} {v : Value} (h : w.cell? ⟨b, 0, none⟩ = some v) : ∀ j u, [v][j]? = some u → w.cell? ((⟨b, 0, none⟩ : Addr).add j) = some u := by
  intro j u hj
  match j, hj with
  | 0, hj => simp at hj; subst hj; rw [Addr.add_lit]; exact h

theorem flat_inv : ∀ (l : List Dev) (j : Nat) (u : Value), (flat l)[j]? = some u → ∃ i d jj, l[i]? = some d ∧ jj < 10 ∧ j = i * 10 + jj ∧ u = d.cell jj := by
  intro l j u h
  have hlt : j < (flat l).length := (List.getElem?_eq_some_iff.1 h).1
  rw [flat_len] at hlt
  have hi : j / 10 < l.length := by omega
  refine ⟨j / 10, l[j / 10], j % 10, List.getElem?_eq_getElem hi, by omega, by omega, ?_⟩
  have h1 := flat_at l (j / 10) l[j / 10] (List.getElem?_eq_getElem hi) (j % 10) (by omega)
  rw [show j / 10 * 10 + j % 10 = j from by omega, h] at h1
  exact Option.some.inj h1
theorem Devs.cell_of {W : World} {ad : Addr} {cap : Nat} {ds : List Dev} (h : Devs W (some ad) cap ds) {i : Nat} {d : Dev} (hd : ds[i]? = some d) {j : Nat} (hj : j < 10) : W.cell? (ad.add (i * 10 + j)) = some (d.cell j) := by
  obtain ⟨h1, _, h3⟩ := h.cell ad rfl (by intro e; subst e; simp at hd)
  obtain ⟨b, o, sp⟩ := ad
  simp at h1; subst h1
  rw [Addr.add_lit]; exact h3 i d hd j hj
theorem Devs.src_take {W : World} {a : Option Addr} {cap : Nat} {ds : List Dev} (h : Devs W a cap ds) (k : Nat) : ∀ ad, a = some ad → ∀ j u, (flat (ds.take k))[j]? = some u → W.cell? (ad.add j) = some u := by
  intro ad e j u hu
  subst e
  obtain ⟨i, d, jj, h1, h2, rfl, rfl⟩ := flat_inv _ _ _ hu
  refine h.cell_of ?_ h2
  rw [List.getElem?_take] at h1
  split at h1
  · exact h1
  · cases h1
theorem Devs.src_drop {W : World} {a : Option Addr} {cap : Nat} {ds : List Dev} (h : Devs W a cap ds) (k : Nat) : ∀ ad, a = some ad → ∀ j u, (flat (ds.drop k))[j]? = some u → W.cell? ((ad.add (k * 10)).add j) = some u := by
  intro ad e j u hu
  subst e
  obtain ⟨i, d, jj, h1, h2, rfl, rfl⟩ := flat_inv _ _ _ hu
  rw [List.getElem?_drop] at h1
  have h3 := h.cell_of h1 h2
  obtain ⟨hsp, _, _⟩ := h.cell ad rfl (by intro e; subst e; simp at h1)
  obtain ⟨b, o, sp⟩ := ad
  simp only at hsp
  subst hsp
  rw [Addr.add_lit] at h3
  rw [Addr.add_lit, Addr.add_lit, ← h3]
  congr 2
  omega

theorem own_fr {W w1 : World} {base : Nat} {e : TypeId} {size : Nat} {v : Value} {n : Nat} {xs : List Value} (h : W.ownsRow base e size v n xs) (hg : W.grownBy w1 v.ownBlock) : Fr (From base) W w1 :=
  (Fr.of_grown hg).mono (fun b _ e => ownsRow_blk h e)
theorem Devs.keep {W W' : World} {a : Option Addr} {cap : Nat} {ds : List Dev} (h : Devs W a cap ds) (hf : Fr (From W.heap.size) W W') : Devs W' a cap ds :=
  h.fr hf (fun ad e hne hS => by have := (h.cell ad e hne).2.1; unfold From at hS; omega)
theorem cells_fr {W W' : World} {b : Nat} {xs : List Value} (h : ∀ j u, xs[j]? = some u → W.cell? ((⟨b, 0, none⟩ : Addr).add j) = some u) (hf : Fr No W W') : ∀ j u, xs[j]? = some u → W'.cell? ((⟨b, 0, none⟩ : Addr).add j) = some u :=
  fun j u hu => hf.cell (h j u hu) id
theorem flat_ins (ds : List Dev) (q : Nat) (d : Dev) : flat (ds.take q) ++ d.vals.toList ++ flat (ds.drop q) = flat (insAt ds q d) := by
  unfold flat insAt
  rw [List.flatMap_append, List.flatMap_cons, List.append_assoc]
theorem ins_end {wr w0 W : World} {a' : Option Addr} {n c' : Nat} {xs : List Value} {T E : TypeId} (h0 : Fr No wr w0) (hf : Fr (From w0.heap.size) w0 W) (hb : W.heap[wr.heap.size]? = some (.cells #[.slice none 0 0] T)) (ho : W.ownsRow w0.heap.size E 10 (.slice a' n c') n xs) (hs : wr.heap.size < w0.heap.size) :
    (W.setCell ⟨wr.heap.size, 0, none⟩ (.slice a' n c')).heap[wr.heap.size]? = some (.cells #[.slice a' n c'] T) ∧ (W.setCell ⟨wr.heap.size, 0, none⟩ (.slice a' n c')).ownsRow wr.heap.size E 10 (.slice a' n c') n xs ∧ Fr (From wr.heap.size) wr (W.setCell ⟨wr.heap.size, 0, none⟩ (.slice a' n c')) := by
  have hx : Fr (Is wr.heap.size) W (W.setCell ⟨wr.heap.size, 0, none⟩ (.slice a' n c')) := Fr.setCell (S := Is wr.heap.size) (p := ⟨wr.heap.size, 0, none⟩) (Fr.refl _ _) (fun _ => rfl) _
  refine ⟨block_setCell hb 0 _, ownsRow_base (ownsRow_fr ho hx (fun b hb e => by unfold Is at e; omega)) (by omega), ?_⟩
  have h1 : Fr (From wr.heap.size) wr w0 := h0.mono (fun _ _ h => h.elim)
  exact (h1.step hf (fun b hb h => by unfold From at *; omega)).step hx (fun b hb e => by unfold Is at e; unfold From; omega)

section
variable {w W W' : World} {a : Option Addr} {n cap : Nat} {d : Dev}
end

end Go.Proofs.YtbblkknndaoefaaGreatDoor
namespace Go.Proofs.YtbblkknndaoefaaGreatDoor
open Go.RowKit Go.Maps
set_option linter.unusedVariables false
theorem eql_nilS (W : World) (a : Option Addr) (n c : Nat) : (binOp .eql 33 (.slice a n c) (.slice none 0 0)).run Tryz.prog W = .ok (.bool a.isNone) W := Lib.run_eql_slice_nil W 33 9 a n c 0 0 Tryz.underlying33
theorem Strs.src' {W : World} {a : Option Addr} {cap : Nat} {l : List ByteArray} (h : Strs W a cap l) : ∀ ad, a = some ad → ∀ j u, (l.map Value.string)[j]? = some u → W.cell? (ad.add j) = some u := by
  intro ad e j u hu
  rw [List.getElem?_map] at hu
  obtain ⟨x, hx, rfl⟩ := Option.map_eq_some_iff.1 hu
  obtain ⟨h1, _, h3⟩ := h.cell ad e (by intro e; subst e; simp at hx)
  obtain ⟨b, o, sp⟩ := ad
  simp only at h1; subst h1
  rw [Addr.add_lit]
  exact h3 j x hx
set_option maxRecDepth 100000 in
set_option maxHeartbeats 1000000 in
theorem strs_clone (a : Option Addr) (cap : Nat) (l : List ByteArray) (w : World) (hl : Strs w a cap l) (hb : l.length ≤ 1000000) :
    Calls Tryz.prog 77 #[.slice a l.length cap] w fun e w' => (∃ a' c', e = .returned (.slice a' l.length c') ∧ Strs w' a' c' l ∧ BlkT w' a' 9 ∧ ∀ ad, a' = some ad → w.heap.size ≤ ad.block) ∧ Fr No w w' := by
  obtain ⟨i0, hi, hz0, hz1, hz2⟩ := info_parts infoS
  cases a with
  | none =>
    obtain ⟨rfl, rfl⟩ := hl.isNil rfl
    have hq := eql_nilS
    go_enter Tryz.func77, Tryz.ntmps77
    go_wp2_with fail
    go_ret
    exact ⟨⟨none, 0, rfl, Strs.nil _, BlkT.none _ _, fun _ e => by cases e⟩, Fr.refl _ _⟩
  | some ad =>
    have hx : Fr No w (w.alloc (.cells #[] 9)) := (Fr.refl _ _).alloc _
    have hlx := hl.no hx (fun _ => id)
    have hq := eql_nilS
    go_enter Tryz.func77, Tryz.ntmps77
    have own0 : (w.alloc (.cells #[] 9)).ownsRow w.heap.size 9 1 (.slice (some ⟨w.heap.size, 0, none⟩) 0 0) 0 [] :=
      ⟨rfl, .inr ⟨w.heap.size, 0, #[], rfl, Nat.le_refl _, block_alloc _ _, Nat.le_refl _, by unfold maxLen; omega, rfl, rfl⟩⟩
    go_wp2_with (at_builtin; refine wpList_append_src rfl _ _ 33 rfl w.heap.size 9 i0 (.string ByteArray.empty) 1 16 Tryz.underlying33 hi hz0 hz1 hz2 rfl (by decide) _ 0 [] rfl own0 (some ad) l.length _ (l.map Value.string) rfl (fun e => by cases e) (by simp) (fun ad' e => hlx.src' ad' e) (strs_one l) (by unfold maxLen; omega) (by omega) (by first | omega | (simp; done) | (simp; omega)) ?_; intro v' w1 own1 gr1)
    go_ret
    simp only [Nat.zero_add, List.nil_append] at own1
    obtain ⟨a', c', hv, h1, h2⟩ := Strs.of_own own1
    subst hv
    exact ⟨⟨a', c', rfl, h1, own_typ own1, h2⟩, ((Fr.refl No w).alloc _).step (own_fr own0 gr1) (fun b hb h => by unfold From at h; omega)⟩
end Go.Proofs.YtbblkknndaoefaaGreatDoor
namespace Go.Proofs.YtbblkknndaoefaaGreatDoor
open Go.RowKit Go.Maps
set_option linter.unusedVariables false

def hasS (l : List ByteArray) (s : ByteArray) : Bool := l.any fun x => x.toList == s.toList
def IdxS (l : List ByteArray) (s : ByteArray) (e : Ending) : Prop := ∃ i : Int, e = .returned (.int .i64 i) ∧ decide (0 ≤ i) = hasS l s

theorem hasS_at {l : List ByteArray} {s : ByteArray} {k : Nat} {x : ByteArray} (h : l[k]? = some x) (h2 : (x.toList == s.toList) = true) : hasS l s = true := by
  unfold hasS; rw [List.any_eq_true]; exact ⟨x, List.mem_of_getElem? h, h2⟩
theorem hasS_no {l : List ByteArray} {s : ByteArray} (h : ∀ x ∈ l, (x.toList == s.toList) = false) : hasS l s = false := by
  unfold hasS; rw [List.any_eq_false]; intro x hx; simp [h x hx]

set_option maxHeartbeats 1000000 in
theorem ref_in32 (a : Option Addr) (cap : Nat) (l : List ByteArray) (s : ByteArray) (w : World) (hl : Strs w a cap l) :
    Calls Tryz.prog 81 #[.slice a l.length cap, .string s] w fun e w' => e = .returned (.bool (hasS l s)) ∧ Fr No w w' := by
  have hm := hl.lenmax
  go_enter Tryz.func81, Tryz.ntmps81
  go_wp2_with fail
  go_loop [5] (fun i => ∃ k : Nat, k ≤ l.length ∧ i = .int .i64 k ∧ Hid (∀ x ∈ l.take k, (x.toList == s.toList) = false)) (fun i => l.length - (intOf i).toNat)
  case atStart => exact ⟨0, by omega, rfl, by unfold Hid; simp⟩
  case round =>
    obtain ⟨k, hk, rfl, hno⟩ := hrel
    by_cases hlt : k < l.length
    · have hlt' : (k : Int) < l.length := by omega
      obtain ⟨b, off, x, rfl, hx, hc⟩ := hl.at hlt
      have Hx := Lib.hid hx
      clear hx
      rcases he : (x.toList == s.toList) with _ | _
      · go_wp2_with fail
        go_round
        case rel =>
          refine ⟨k + 1, by omega, by go_num, ?_⟩
          unfold Hid
          intro y hy
          rw [List.take_add_one, Hx.out] at hy
          rcases List.mem_append.1 hy with h | h
          · exact hno.out y h
          · simp at h; subst h; exact he
        case measure => simp [intOf]; omega
      · have Hg : Hid (hasS l s = true) := hasS_at Hx.out he
        go_wp2_with fail
        go_ret
        exact ⟨ret_bool Hg.out.symm, Fr.refl _ _⟩
    · obtain rfl : k = l.length := by omega
      have h := hno.out
      rw [List.take_of_length_le (by omega)] at h
      have Hg : Hid (hasS l s = false) := hasS_no h
      go_wp2_with fail
      go_ret
      exact ⟨ret_bool Hg.out.symm, Fr.refl _ _⟩

def sameT (l l' : List ByteArray) : Bool := decide (l.map (·.toList) = l'.map (·.toList))

set_option maxHeartbeats 1000000 in
theorem same_texts (a a' : Option Addr) (cap cap' : Nat) (l l' : List ByteArray) (w : World) (hl : Strs w a cap l) (hl' : Strs w a' cap' l') :
    Calls Tryz.prog 25 #[.slice a l.length cap, .slice a' l'.length cap'] w fun e w' => e = .returned (.bool (sameT l l')) ∧ Fr No w w' := by
  have hm := hl.lenmax
  have hm' := hl'.lenmax
  by_cases hlen : l.length = l'.length
  · have hlb : ((l.length : Int) != l'.length) = false := by simp [hlen]
    have Hlen := Lib.hid hlen
    clear hlen
    go_enter Tryz.func25, Tryz.ntmps25
    go_wp2_with fail
    go_loopw [5] (fun i wr => ∃ k : Nat, k ≤ l.length ∧ i = .int .i64 (k : Int) ∧ Hid ((l.take k).map (·.toList) = (l'.take k).map (·.toList)) ∧ Fr No w wr) (fun i _ => l.length - (intOf i).toNat)
    case atStart => exact ⟨0, by omega, rfl, by unfold Hid; simp, Fr.refl _ _⟩
    case round =>
      obtain ⟨k, hk, rfl, hp, hf⟩ := hrel
      by_cases hlt : k < l.length
      · have hlt1 : (k : Int) < l.length := by omega
        have hlt2 : (k : Int) < l'.length := by have := Hlen.out; omega
        have hlt3 : k < l'.length := by omega
        go_wp2_with fail
        refine region_sig No [(0, false), (1, false), (2, false), (3, false), (4, false), (5, false), (6, false), (7, false), (8, false)] (by kernel_rfl) (by kernel_rfl) (fun w0 hf0 => ?_)
        have hf1 := hf.step hf0 (fun _ _ h => h)
        obtain ⟨b, off, x, rfl, hx, c0⟩ := (hl.no hf1 (fun _ => id)).at hlt
        obtain ⟨b', off', x', rfl, hx', c1⟩ := (hl'.no hf1 (fun _ => id)).at hlt3
        have g0 : ∀ g : Gr No w0, g.W.cell? ⟨b, off + k, none⟩ = some (.string x) := fun g => g.fr.cell c0 id
        have g1 : ∀ g : Gr No w0, g.W.cell? ⟨b', off' + k, none⟩ = some (.string x') := fun g => g.fr.cell c1 id
        have Hx := Lib.hid hx
        have Hx' := Lib.hid hx'
        clear c0 c1 hx hx'
        repeat (apply sig_q; exact rfl; exact rfl; exact rfl; intro K hK; go_big_quiet_op; go_big_quiet_on)
        refine sig_end ?_
        rcases he : (x.toList == x'.toList) with _ | _
        · have Hs : Hid (sameT l l' = false) := by
            unfold Hid sameT
            rw [decide_eq_false_iff_not]
            intro h
            have h1 : (l.map (·.toList))[k]? = (l'.map (·.toList))[k]? := by rw [h]
            rw [List.getElem?_map, List.getElem?_map, Hx.out, Hx'.out] at h1
            simp at h1
            rw [h1] at he
            simp at he
          go_wp2_with fail
          go_ret
          exact ⟨ret_bool Hs.out.symm, hf1⟩
        · have He := Lib.hid he
          go_wp2_with fail
          go_roundw
          case rel =>
            refine ⟨k + 1, by omega, by go_num, ?_, hf1⟩
            unfold Hid
            rw [List.take_add_one, List.take_add_one, Hx.out, Hx'.out, List.map_append, List.map_append, hp.out]
            have := He.out
            simp at this
            simp [this]
          case measure => simp [intOf]; omega
      · obtain rfl : k = l.length := by omega
        have Hs : Hid (sameT l l' = true) := by
          unfold Hid sameT
          have h := hp.out
          rw [List.take_length, Hlen.out, List.take_length] at h
          simpa using h
        go_wp2_with fail
        go_ret
        exact ⟨ret_bool Hs.out.symm, hf⟩
  · have hlb : ((l.length : Int) != l'.length) = true := by simp; omega
    have Hs : Hid (sameT l l' = false) := by
      unfold Hid sameT
      rw [decide_eq_false_iff_not]
      intro h
      have := congrArg List.length h
      simp at this
      exact hlen this
    clear hlen
    go_enter Tryz.func25, Tryz.ntmps25
    go_wp2_with fail
    go_ret
    exact ⟨ret_bool Hs.out.symm, Fr.refl _ _⟩
end Go.Proofs.YtbblkknndaoefaaGreatDoor
