/- Arrays of members: the best member of each place; the array of an ID. Plain. slices.Min, the keys of a table, Sound. Sound; volume's good members. Arrays in memory: slices of api.Array. -/
import Derived.Test.YtcibciippghooaaGreatDoorZP1
import Derived.Test.YtcibciippghooaaGreatDoorShelf2
import Derived.Test.YtcibciippghooaaGreatDoorZL20
namespace Go.Proofs.YtcibciippghooaaGreatDoor
open Go.RowKit
set_option linter.unusedVariables false

def best2S (good : Mem → Bool) (g : ByteArray × Int → Option Mem) (m : Mem) : ByteArray × Int → Option Mem := fun x =>
  if (good m && decide (x = (m.i, m.s)) && (match g x with | none => true | some o => ahead m o)) = true then some m else g x
/-- The best member of each place. -/
def best2 (good : Mem → Bool) (L : List Mem) : ByteArray × Int → Option Mem := L.foldl (best2S good) fun _ => none
section
variable {good : Mem → Bool}
theorem best2_snoc (L : List Mem) (m : Mem) : best2 good (L ++ [m]) = best2S good (best2 good L) m := by simp [best2, List.foldl_append]
theorem best2S_cases (g : ByteArray × Int → Option Mem) (m : Mem) (x : ByteArray × Int) : (best2S good g m x = some m ∧ good m = true ∧ x = (m.i, m.s) ∧ ∀ o, g x = some o → ahead m o = true) ∨ (best2S good g m x = g x ∧ (good m = true → x = (m.i, m.s) → ∃ o, g x = some o ∧ ahead m o = false)) := by
  by_cases h1 : good m = true
  · by_cases h2 : x = (m.i, m.s)
    · rcases hg : g x with _ | o
      · refine .inl ⟨?_, h1, h2, fun o ho => by cases ho⟩
        unfold best2S; rw [hg]; simp [h1, h2]
      · cases ha : ahead m o with
        | true =>
          refine .inl ⟨?_, h1, h2, fun o' ho => by cases ho; exact ha⟩
          unfold best2S; rw [hg]; simp [h1, h2, ha]
        | false =>
          refine .inr ⟨?_, fun _ _ => ⟨o, rfl, ha⟩⟩
          unfold best2S; rw [hg]; simp [ha]
    · refine .inr ⟨?_, fun _ h => absurd h h2⟩
      unfold best2S; rw [if_neg (by simp [h2])]
  · refine .inr ⟨?_, fun h => absurd h h1⟩
    unfold best2S; rw [if_neg (by simp [h1])]
theorem best2S_skip {g : ByteArray × Int → Option Mem} {m : Mem} (h : good m = false) : best2S good g m = g := by
  funext x; unfold best2S; rw [if_neg (by simp [h])]
theorem best2S_keep {g : ByteArray × Int → Option Mem} {m o : Mem} (hg : g (m.i, m.s) = some o) (h : ahead m o = false) : best2S good g m = g := by
  funext x; unfold best2S
  by_cases e : x = (m.i, m.s)
  · subst e; rw [hg]; simp [h]
  · rw [if_neg (by simp [e])]
theorem best2S_take {g : ByteArray × Int → Option Mem} {m : Mem} (h1 : good m = true) (h : ∀ o, g (m.i, m.s) = some o → ahead m o = true) : best2S good g m = fun x => if x = (m.i, m.s) then some m else g x := by
  funext x; unfold best2S
  by_cases e : x = (m.i, m.s)
  · subst e
    rw [if_pos rfl]
    rcases hg : g (m.i, m.s) with _ | o
    · simp [h1]
    · simp [h1, h o hg]
  · rw [if_neg (by simp [e]), if_neg e]
theorem best2_mem (L : List Mem) : ∀ x m, best2 good L x = some m → m ∈ L ∧ good m = true ∧ (m.i, m.s) = x := by
  refine rev_ind (P := fun L => ∀ x m, best2 good L x = some m → m ∈ L ∧ good m = true ∧ (m.i, m.s) = x) ?_ ?_ L
  · intro x m h; cases h
  · intro l y ih x m h
    rw [best2_snoc] at h
    rcases best2S_cases (best2 good l) y x with ⟨h1, h2, h3, _⟩ | ⟨h1, _⟩
    · rw [h1] at h; cases h
      exact ⟨by simp, h2, h3.symm⟩
    · rw [h1] at h
      obtain ⟨a, b⟩ := ih x m h
      exact ⟨by simp [a], b⟩
theorem best2_some (L : List Mem) : ∀ m ∈ L, good m = true → ∃ o, best2 good L (m.i, m.s) = some o := by
  refine rev_ind (P := fun L => ∀ m ∈ L, good m = true → ∃ o, best2 good L (m.i, m.s) = some o) ?_ ?_ L
  · intro m h; cases h
  · intro l y ih m hm h1
    rw [best2_snoc]
    rcases best2S_cases (best2 good l) y (m.i, m.s) with ⟨h2, _⟩ | ⟨h2, h3⟩
    · exact ⟨y, h2⟩
    · rw [h2]
      rcases List.mem_append.1 hm with hm | hm
      · exact ih m hm h1
      · obtain rfl : m = y := by simpa using hm
        obtain ⟨o, ho, _⟩ := h3 h1 rfl
        exact ⟨o, ho⟩
theorem best2_least (L : List Mem) : L.Pairwise (fun m o => m.p ≠ o.p) → ∀ m ∈ L, good m = true → ∀ o, best2 good L (m.i, m.s) = some o → m = o ∨ ahead o m = true := by
  refine rev_ind (P := fun L => L.Pairwise (fun m o => m.p ≠ o.p) → ∀ m ∈ L, good m = true → ∀ o, best2 good L (m.i, m.s) = some o → m = o ∨ ahead o m = true) ?_ ?_ L
  · intro _ m h; cases h
  · intro l y ih hp m hm h1 o ho
    obtain ⟨hp1, _, hp2⟩ := List.pairwise_append.1 hp
    rw [best2_snoc] at ho
    rcases best2S_cases (best2 good l) y (m.i, m.s) with ⟨h2, h3, h4, h5⟩ | ⟨h2, h3⟩
    · rw [h2] at ho; cases ho
      rcases List.mem_append.1 hm with hm | hm
      · obtain ⟨o', ho'⟩ := best2_some l m hm h1
        right
        rcases ih hp1 m hm h1 o' ho' with rfl | h6
        · exact h5 _ ho'
        · exact ahead_trans (h5 o' ho') h6
      · exact .inl (by simpa using hm)
    · rw [h2] at ho
      rcases List.mem_append.1 hm with hm | hm
      · exact ih hp1 m hm h1 o ho
      · obtain rfl : m = y := by simpa using hm
        obtain ⟨o', ho', h6⟩ := h3 h1 rfl
        rw [ho] at ho'; cases ho'
        exact .inr (ahead_total (Ne.symm (hp2 o (best2_mem l _ o ho).1 m (by simp))) h6)
theorem best2_order {L L' : List Mem} (hp : L.Pairwise (fun m o => m.p ≠ o.p)) (hp' : L'.Pairwise (fun m o => m.p ≠ o.p)) (h : ∀ m, m ∈ L ↔ m ∈ L') (x : ByteArray × Int) : best2 good L x = best2 good L' x := by
  rcases h1 : best2 good L x with _ | o
  · rcases h2 : best2 good L' x with _ | o'
    · rfl
    · exfalso
      obtain ⟨a, b, c⟩ := best2_mem L' x o' h2
      obtain ⟨z, hz⟩ := best2_some L o' ((h o').2 a) b
      rw [c, h1] at hz; cases hz
  · obtain ⟨a, b, c⟩ := best2_mem L x o h1
    obtain ⟨o', ho'⟩ := best2_some L' o ((h o).1 a) b
    rw [c] at ho'
    rw [ho']
    obtain ⟨a', b', c'⟩ := best2_mem L' x o' ho'
    rcases best2_least L' hp' o ((h o).1 a) b o' (by rw [c]; exact ho') with e | h3
    · rw [e]
    · rcases best2_least L hp o' ((h o').2 a') b' o (by rw [c']; exact h1) with e | h4
      · rw [e]
      · rw [ahead_asymm h3] at h4; cases h4
end

/-- A member has a path, and a slot and a total that may be. -/
def soundB (m : Mem) : Bool := !m.p.toList.isEmpty && (decide (1 ≤ m.s) && decide (m.s ≤ 16)) && (decide (1 ≤ m.t) && decide (m.t ≤ 16))

/-- An array: its ID, paths, total, least, count, inner texts. -/
structure Arr where
  i : ByteArray
  ps : List ByteArray
  t : Int
  e : Int
  n : Int
  l : List ByteArray
/-- The least slot of an ID. -/
def leastSlot (b : ByteArray × Int → Option Mem) (id : ByteArray) : Int := (((List.range 16).find? fun (k : Nat) => (b (id, (k : Int) + 1)).isSome).getD 0 : Nat) + 1
def firstOf (b : ByteArray × Int → Option Mem) (id : ByteArray) : Mem := (b (id, leastSlot b id)).getD Mem.zero
def pathAt (b : ByteArray × Int → Option Mem) (id : ByteArray) (k : Nat) : ByteArray := match b (id, (k : Int) + 1) with | some m => m.p | none => ⟨#[]⟩
/-- The array of an ID. -/
def buildA (b : ByteArray × Int → Option Mem) (id : ByteArray) : Arr :=
  ⟨id, (List.range (firstOf b id).t.toNat).map (pathAt b id), (firstOf b id).t, (firstOf b id).e, ((List.range (firstOf b id).t.toNat).filter fun (k : Nat) => (b (id, (k : Int) + 1)).isSome).length, (firstOf b id).l⟩
/-- ids are the IDs, ascending. -/
structure IsIds2 (b : ByteArray × Int → Option Mem) (ids : List ByteArray) : Prop where
  asc : AscS (ids.map kb)
  mem : ∀ x : ByteArray, x ∈ ids ↔ ∃ s : Int, (b (x, s)).isSome = true
theorem IsIds2.unique {b : ByteArray × Int → Option Mem} {ids ids' : List ByteArray} (h : IsIds2 b ids) (h' : IsIds2 b ids') : ids = ids' := by
  refine map_kb_inj (AscS.ext h.asc h'.asc fun x => ?_)
  rw [mem_kb, mem_kb, h.mem, h'.mem]
/-- The slots of an ID: each once. -/
structure IsSlots (b : ByteArray × Int → Option Mem) (id : ByteArray) (zs : List Int) : Prop where
  nodup : zs.Nodup
  mem : ∀ s : Int, s ∈ zs ↔ (b (id, s)).isSome = true
theorem leastSlot_min {b : ByteArray × Int → Option Mem} {id : ByteArray} {zs : List Int} (h : IsSlots b id zs) (hr : ∀ s ∈ zs, 1 ≤ s ∧ s ≤ 16) {m : Int} (hm : m ∈ zs) (hmin : ∀ s ∈ zs, m ≤ s) : leastSlot b id = m := by
  unfold leastSlot
  obtain ⟨h1, h2⟩ := hr m hm
  obtain ⟨k, rfl⟩ : ∃ k : Nat, m = (k : Int) + 1 := ⟨(m - 1).toNat, by omega⟩
  have hf : (List.range 16).find? (fun (k : Nat) => (b (id, (k : Int) + 1)).isSome) = some k := by
    rw [List.find?_range_eq_some]
    refine ⟨(h.mem _).1 hm, List.mem_range.2 (by omega), fun j hj => ?_⟩
    cases hb : (b (id, (j : Int) + 1)).isSome with
    | false => rfl
    | true =>
      have := hmin _ ((h.mem _).2 hb)
      omega
  rw [hf]; rfl
/-- The paths, when the slots zs have been seen. -/
def psJ (b : ByteArray × Int → Option Mem) (id : ByteArray) (T : Nat) (zs : List Int) : List ByteArray := (List.range T).map fun (k : Nat) => if ((k : Int) + 1) ∈ zs then pathAt b id k else ⟨#[]⟩
def cntJ (T : Int) (zs : List Int) : Nat := (zs.filter fun s => decide (s ≤ T)).length
theorem psJ_len (b : ByteArray × Int → Option Mem) (id : ByteArray) (T : Nat) (zs : List Int) : (psJ b id T zs).length = T := by simp [psJ]
theorem psJ_nil (b : ByteArray × Int → Option Mem) (id : ByteArray) (T : Nat) : psJ b id T [] = List.replicate T ⟨#[]⟩ := by
  unfold psJ
  simp only [List.not_mem_nil, if_false]
  rw [List.map_const', List.length_range]
theorem psJ_put (b : ByteArray × Int → Option Mem) (id : ByteArray) (T : Nat) (zs : List Int) (k : Nat) (hk : k < T) : psJ b id T (zs ++ [(k : Int) + 1]) = (psJ b id T zs).set k (pathAt b id k) := by
  apply List.ext_getElem?
  intro j
  rw [List.getElem?_set]
  unfold psJ
  by_cases hj : j < T
  · simp only [List.getElem?_map, List.getElem?_range hj, Option.map_some, List.length_map, List.length_range]
    by_cases e : k = j
    · subst e
      simp [hj]
    · have : ((j : Int) + 1 ∈ zs ++ [(k : Int) + 1]) ↔ (j : Int) + 1 ∈ zs := by
        simp; omega
      simp only [this, if_neg e]
  · have h1 : (List.range T)[j]? = none := List.getElem?_eq_none (by simp; omega)
    rw [List.getElem?_map, List.getElem?_map, h1]
    have e : k ≠ j := by omega
    simp [e]
theorem psJ_skip (b : ByteArray × Int → Option Mem) (id : ByteArray) (T : Nat) (zs : List Int) (s : Int) (hs : ¬ s ≤ T) : psJ b id T (zs ++ [s]) = psJ b id T zs := by
  unfold psJ
  refine List.map_congr_left (fun k hk => ?_)
  have hk' := List.mem_range.1 hk
  have : ((k : Int) + 1 ∈ zs ++ [s]) ↔ (k : Int) + 1 ∈ zs := by simp; omega
  simp only [this]
theorem psJ_full {b : ByteArray × Int → Option Mem} {id : ByteArray} {zs : List Int} (h : IsSlots b id zs) (T : Nat) : psJ b id T zs = (List.range T).map (pathAt b id) := by
  unfold psJ
  refine List.map_congr_left (fun k _ => ?_)
  split
  · rfl
  · rename_i hn
    rw [h.mem] at hn
    unfold pathAt
    rcases hb : b (id, (k : Int) + 1) with _ | m
    · rfl
    · rw [hb] at hn; simp at hn
theorem cntJ_full {b : ByteArray × Int → Option Mem} {id : ByteArray} {zs : List Int} (h : IsSlots b id zs) (hr : ∀ s ∈ zs, 1 ≤ s) (T : Nat) : cntJ T zs = ((List.range T).filter fun (k : Nat) => (b (id, (k : Int) + 1)).isSome).length := by
  unfold cntJ
  have hp : (zs.filter fun s => decide (s ≤ (T : Int))).Perm (((List.range T).filter fun (k : Nat) => (b (id, (k : Int) + 1)).isSome).map fun k : Nat => (k : Int) + 1) := by
    rw [List.perm_ext_iff_of_nodup]
    · intro s
      simp only [List.mem_filter, List.mem_map, List.mem_range, decide_eq_true_eq]
      constructor
      · rintro ⟨h1, h2⟩
        have h3 := hr s h1
        refine ⟨(s - 1).toNat, ⟨by omega, ?_⟩, by omega⟩
        rw [show (((s - 1).toNat : Nat) : Int) + 1 = s by omega]
        exact (h.mem s).1 h1
      · rintro ⟨k, ⟨h1, h2⟩, rfl⟩
        exact ⟨(h.mem _).2 h2, by omega⟩
    · exact h.nodup.sublist List.filter_sublist
    · refine List.pairwise_map.2 ((List.nodup_range.sublist List.filter_sublist).imp (fun {a b} hab e => hab (by omega)))
  rw [hp.length_eq, List.length_map]
theorem cntJ_snoc (T : Int) (zs : List Int) (s : Int) : cntJ T (zs ++ [s]) = cntJ T zs + (if s ≤ T then 1 else 0) := by
  unfold cntJ
  rw [List.filter_append, List.length_append]
  congr 1
  by_cases h : s ≤ T <;> simp [h]
theorem cntJ_le (T : Int) (zs : List Int) : cntJ T zs ≤ zs.length := List.length_filter_le _ _
end Go.Proofs.YtcibciippghooaaGreatDoor
namespace Go.Proofs.YtcibciippghooaaGreatDoor
open Go.RowKit Go.Maps Go.Sort Go.Shelf
set_option linter.unusedVariables false

set_option maxRecDepth 100000 in
set_option maxHeartbeats 1000000 in
theorem sl_min (a : Option Addr) (cap : Nat) (l : List Int) (w : World) (hl : Ints w a cap l) (hne : 1 ≤ l.length) :
    Calls Tryz.prog 74 #[.slice a l.length cap] w fun e w' => (∃ m, e = .returned (.int .i64 m) ∧ m ∈ l ∧ ∀ x ∈ l, m ≤ x) ∧ w = w' := by
  have hn : ¬ (l.length : Int) < 1 := by omega
  have hm := hl.lenmax
  have hn0 : (0 : Int) < l.length := by omega
  obtain ⟨b, off, x0, rfl, hx0, hc0⟩ := hl.at (k := 0) (by omega)
  rw [Nat.add_zero] at hc0
  have Hx0 := Lib.hid hx0
  clear hx0
  go_enter Tryz.func74, Tryz.ntmps74
  go_wp2_with fail
  go_loop [3, 4] (fun v i => ∃ (k : Nat) (m : Int), 1 ≤ k ∧ k ≤ l.length ∧ v = .int .i64 m ∧ i = .int .i64 (k : Int) ∧ Hid (m ∈ l.take k ∧ ∀ x ∈ l.take k, m ≤ x)) (fun _ i => l.length - (intOf i).toNat)
  case atStart => 
    refine ⟨1, x0, by omega, hne, rfl, rfl, ?_⟩
    unfold Hid
    have : l.take 1 = [x0] := by rw [List.take_add_one, Hx0.out]; rfl
    rw [this]; simp
  case round =>
    obtain ⟨k, m, hk1, hk, rfl, rfl, Hm⟩ := hrel
    by_cases hlt : k < l.length
    · have hlt' : (k : Int) < l.length := by omega
      obtain ⟨b', off', x, e, hx, hc⟩ := hl.at hlt
      cases e
      have Htk : Hid (l.take (k + 1) = l.take k ++ [x]) := by unfold Hid; rw [List.take_add_one, hx]; rfl
      clear hx
      by_cases hmx : m ≤ x
      · have hmin : min m x = m := by omega
        go_wp2_with fail
        go_round
        case rel =>
          refine ⟨k + 1, m, by omega, by omega, by first | rfl | (rw [if_pos hmx]), by go_num, ?_⟩
          unfold Hid
          rw [Htk.out]
          obtain ⟨h1, h2⟩ := Hm.out
          refine ⟨by simp [h1], fun y hy => ?_⟩
          rcases List.mem_append.1 hy with h | h
          · exact h2 y h
          · obtain rfl : y = x := by simpa using h
            exact hmx
        case measure => simp [intOf]; omega
      · have hmin : min m x = x := by omega
        go_wp2_with fail
        go_round
        case rel =>
          refine ⟨k + 1, x, by omega, by omega, by first | rfl | (rw [if_neg hmx]), by go_num, ?_⟩
          unfold Hid
          rw [Htk.out]
          obtain ⟨h1, h2⟩ := Hm.out
          refine ⟨by simp, fun y hy => ?_⟩
          rcases List.mem_append.1 hy with h | h
          · have := h2 y h; omega
          · obtain rfl : y = x := by simpa using h
            omega
        case measure => simp [intOf]; omega
    · obtain rfl : k = l.length := by omega
      have h := Hm.out
      rw [List.take_length] at h
      have Hr := Lib.hid h
      clear h Hm
      go_wp2_with fail
      go_ret
      exact ⟨⟨m, rfl, Hr.out.1, Hr.out.2⟩, rfl⟩

set_option maxHeartbeats 1000000 in
theorem tb_keys (mb : Option Nat) (w : World) : Calls Tryz.prog 104 #[.map mb] w fun e w' => e = .returned (.func (.func 143) #[] #[.pointer (some ⟨w.heap.size, 0, none⟩)]) ∧ w' = w.alloc (.cells #[.map mb] 119) :=
  (callsIn_wide (n := 5)).1 (AnyZ.keys_in Tryz.keysT Fence.wide 5 trivial rfl mb w)

set_option maxHeartbeats 1000000 in
theorem tb_sorted (mb Bm base : Nat) (f : List UInt8 → List Int) (N : Nat) (w : World) (hs : GMap w base mb f N) (hN : N ≤ 1099511627776) (hB : w.cell? ⟨Bm, 0, none⟩ = some (.map (some mb))) (hBl : Bm < w.heap.size) :
    Calls Tryz.prog 39 #[.func (.func 143) #[] #[.pointer (some ⟨Bm, 0, none⟩)]] w fun e w' =>
      (∃ a cap ids, e = .returned (.slice a ids.length cap) ∧ Strs w' a cap ids ∧ AscS (ids.map kb) ∧ (∀ x : ByteArray, x ∈ ids ↔ (f (kb x)) ≠ []) ∧ ids.length ≤ N ∧ ∀ ad, a = some ad → w.heap.size ≤ ad.block) ∧ Fr No w w' := by
  obtain ⟨D, n, hn, hg, _, hf⟩ := hs
  obtain ⟨es, clock, hbk, Ft, hes, hD, _⟩ := hg
  have hown : w.ownsMap Tryz.prog 9 (rowElem w base 3 .i64) mb n D := ⟨es, clock, hbk, Ft, hes, hD⟩
  clear hbk Ft hes hD
  have hsz := hown.size_le
  have hmax : Maps.size D ≤ maxLen := by unfold maxLen; omega
  have hbytes : Maps.size D * 16 ≤ 140737488355328 := by omega
  have hmem := mem_strKeys hown Tryz.underlying9
  have hnd := nodup_strKeys hown lawS Tryz.underlying9
  have hlen := strKeys_len D
  have hseq : SeqGives Fence.wide 2 Tryz.prog 143 #[.pointer (some ⟨Bm, 0, none⟩)] encStr (fun ss => ss.Perm (strKeys D)) (Maps.size D) w :=
    AnyZ.keys_gives (ρ := Tryz.keysT_ren) { Tryz.keysT with } Fence.wide _ trivial rfl (by omega) Bm mb n D _ hBl hB hown
  have cS := AnyZ.sorted_in Tryz.sortedS Fence.wide 5 trivial trivial trivial trivial rfl (by omega) (sortsS _) (enters_of Tryz.func63 (by kernel_rfl) rfl) 143 #[.pointer (some ⟨Bm, 0, none⟩)] trivial (enters_of Tryz.func143 (by kernel_rfl) rfl) _ _ hmax hbytes _ hseq
  refine ((callsIn_wide (n := 5)).1 cS).mono ?_
  rintro e w' ⟨v, ss, rfl, hperm, hrow, _, hb⟩
  have hp : (ss.mergeSort (fun x y => decide (x ≤ y))).Perm (strKeys D) := (List.mergeSort_perm ss _).trans hperm
  obtain ⟨L, hL⟩ : ∃ L, L = (ss.mergeSort (fun x y => decide (x ≤ y))) := ⟨_, rfl⟩
  have hl : (L.map bk).length = ss.length := by rw [hL]; simp
  have e1 : L.map encStr = (L.map bk).map Value.string := by rw [List.map_map]; rfl
  rw [← hL] at hp hrow
  rw [← hl, e1] at hrow
  obtain ⟨a, cap, rfl, h1, h2⟩ := Strs.of_own hrow
  have e2 : (L.map bk).map kb = L := by
    rw [List.map_map]
    have : kb ∘ bk = id := by funext x; exact kb_bk x
    rw [this, List.map_id]
  refine ⟨⟨a, cap, L.map bk, rfl, h1, ?_, fun x => ?_, ?_, h2⟩, Fr.of_below_size hb⟩
  · rw [e2, hL]; exact ascS_sorted (hperm.nodup_iff.2 hnd)
  · have hfx : f (kb x) ≠ [] ↔ has D (.string (kb x)) = true := by rw [hf]; cases f (kb x) <;> simp
    rw [hfx, ← hmem, ← hp.mem_iff]
    constructor
    · intro h
      obtain ⟨y, hy, rfl⟩ := List.mem_map.1 h
      rwa [kb_bk]
    · intro h
      exact List.mem_map.2 ⟨_, h, bk_kb x⟩
  · rw [List.length_map, hp.length_eq]; omega

set_option maxHeartbeats 1000000 in
theorem table_keys (mb base : Nat) (f : List UInt8 → List Int) (N : Nat) (w : World) (hs : GMap w base mb f N) (hN : N ≤ 1099511627776) :
    Calls Tryz.prog 73 #[.map (some mb)] w fun e w' =>
      (∃ a cap ids, e = .returned (.slice a ids.length cap) ∧ Strs w' a cap ids ∧ AscS (ids.map kb) ∧ (∀ x : ByteArray, x ∈ ids ↔ (f (kb x)) ≠ []) ∧ ids.length ≤ N ∧ ∀ ad, a = some ad → w.heap.size ≤ ad.block) ∧ Fr No w w' := by
  have hmb : mb < w.heap.size := hs.lt
  have hx : Fr No w (w.alloc (.cells #[.map (some mb)] 119)) := (Fr.refl _ _).alloc _
  have hs1 : GMap (w.alloc (.cells #[.map (some mb)] 119)) base mb f N := hs.grown (World.grownBy_alloc w _ none) (by simp) (fun j hj => by cases hj)
  have q1 := block_alloc w (.cells #[.map (some mb)] 119)
  have hsz : w.heap.size < (w.alloc (.cells #[.map (some mb)] 119)).heap.size := by simp
  go_enter Tryz.func73, Tryz.ntmps73
  go_wp2_with fail
  refine (tb_keys _ _).mono ?_
  rintro en w1 ⟨rfl, rfl⟩
  go_wp2_with fail
  generalize w.alloc (.cells #[.map (some mb)] 119) = W1 at *
  refine (tb_sorted mb w.heap.size base f N W1 hs1 hN (cell_of_block q1 0) hsz).mono ?_
  rintro en w2 ⟨⟨ia, ic, ids, rfl, hS, hasc, hmem, hln, hfresh⟩, hf2⟩
  have H := Lib.hid (And.intro hS (And.intro hasc (And.intro hmem (And.intro hfresh (hx.step hf2 (fun _ _ h => h))))))
  clear hS hasc hmem hfresh hf2 hs1 q1 hx
  go_wp2_with fail
  go_ret
  exact ⟨⟨ia, ic, ids, rfl, H.out.1, H.out.2.1, H.out.2.2.1, hln, fun ad e => by have := H.out.2.2.2.1 ad e; omega⟩, H.out.2.2.2.2⟩
end Go.Proofs.YtcibciippghooaaGreatDoor
namespace Go.Proofs.YtcibciippghooaaGreatDoor
open Go.RowKit Go.Maps
set_option linter.unusedVariables false

set_option maxRecDepth 100000 in
set_option maxHeartbeats 2000000 in
theorem g_sound (p i : ByteArray) (r s t e : Int) (v : Value) (w : World) :
    Calls Tryz.prog 49 #[.agg #[.string p, .string i, .int .i64 r, .int .i64 s, .int .i64 t, .int .i64 e, v]] w fun en w' => en = .returned (.bool (!p.toList.isEmpty && (decide (1 ≤ s) && decide (s ≤ 16)) && (decide (1 ≤ t) && decide (t ≤ 16)))) ∧ Fr No w w' := by
  have hx : Fr No w (w.alloc (.cells #[.string p, .string i, .int .i64 r, .int .i64 s, .int .i64 t, .int .i64 e, v] 31)) := (Fr.refl _ _).alloc _
  have Hx := Lib.hid hx
  clear hx
  obtain ⟨b, hb⟩ : ∃ b, b = (!p.toList.isEmpty && (decide (1 ≤ s) && decide (s ≤ 16)) && (decide (1 ≤ t) && decide (t ≤ 16))) := ⟨_, rfl⟩
  rw [← hb]
  have Hb := Lib.hid hb
  clear hb
  go_enter Tryz.func49, Tryz.ntmps49
  rcases h1 : p.toList.isEmpty with _ | _
  · by_cases h2 : 1 ≤ s
    · by_cases h3 : s ≤ 16
      · by_cases h4 : 1 ≤ t
        · by_cases h5 : t ≤ 16
          · go_wp2_with fail
            go_ret
            exact ⟨by rw [Hb.out, h1]; simp [h2, h3, h4, h5], Hx.out⟩
          · go_wp2_with fail
            go_ret
            exact ⟨by rw [Hb.out, h1]; simp [h5], Hx.out⟩
        · go_wp2_with fail
          go_ret
          exact ⟨by rw [Hb.out, h1]; simp; omega, Hx.out⟩
      · go_wp2_with fail
        go_ret
        exact ⟨by rw [Hb.out, h1]; simp; omega, Hx.out⟩
    · go_wp2_with fail
      go_ret
      exact ⟨by rw [Hb.out, h1]; simp; omega, Hx.out⟩
  · go_wp2_with fail
    go_ret
    exact ⟨by rw [Hb.out, h1]; simp, Hx.out⟩

set_option maxRecDepth 100000 in
set_option maxHeartbeats 1000000 in
theorem v_good (p i : ByteArray) (r s t e : Int) (v : Value) (w : World) :
    Calls Tryz.prog 48 #[.agg #[.string p, .string i, .int .i64 r, .int .i64 s, .int .i64 t, .int .i64 e, v]] w fun en w' => en = .returned (.bool (!p.toList.isEmpty && (decide (1 ≤ s) && decide (s ≤ 16)) && (decide (1 ≤ t) && decide (t ≤ 16)))) ∧ Fr No w w' := by
  have hx : Fr No w (w.alloc (.cells #[.string p, .string i, .int .i64 r, .int .i64 s, .int .i64 t, .int .i64 e, v] 31)) := (Fr.refl _ _).alloc _
  have hs := g_sound p i r s t e v (w.alloc (.cells #[.string p, .string i, .int .i64 r, .int .i64 s, .int .i64 t, .int .i64 e, v] 31))
  have Hx := Lib.hid hx
  clear hx
  go_enter Tryz.func48, Tryz.ntmps48
  go_wp2_with fail
  refine hs.mono ?_
  rintro en w1 ⟨rfl, hf1⟩
  have H := Lib.hid (Hx.out.step hf1 (fun _ _ h => h))
  clear hf1 hs
  obtain ⟨b, hb⟩ : ∃ b, b = (!p.toList.isEmpty && (decide (1 ≤ s) && decide (s ≤ 16)) && (decide (1 ≤ t) && decide (t ≤ 16))) := ⟨_, rfl⟩
  rw [← hb]
  have Hb := Lib.hid hb
  clear hb
  go_wp2_with fail
  go_ret
  exact ⟨by rw [← Hb.out]; rfl, H.out⟩
end Go.Proofs.YtcibciippghooaaGreatDoor
namespace Go.Proofs.YtcibciippghooaaGreatDoor
open Go.RowKit Go.Maps
set_option linter.unusedVariables false

/-- An array with the places of its paths and its inner texts. -/
structure ArrM extends Arr where
  pa : Option Addr
  pc : Nat
  la : Option Addr
  lc : Nat
def ArrM.vals (m : ArrM) : Array Value := #[.string m.i, .slice m.pa m.ps.length m.pc, .int .i64 m.t, .int .i64 m.e, .int .i64 m.n, .slice m.la m.l.length m.lc]
structure Arrs (w : World) (a : Option Addr) (cap : Nat) (L : List ArrM) : Prop where
  len : L.length ≤ cap
  max : cap ≤ maxLen
  isNil : a = none → L = [] ∧ cap = 0
  ok : ∀ m ∈ L, Strs w m.pa m.pc m.ps ∧ Strs w m.la m.lc m.l
  cell : ∀ ad, a = some ad → L ≠ [] → ad.spot = none ∧ ad.block < w.heap.size ∧ ∀ i m, L[i]? = some m → ∀ j, j < 6 → w.cell? ⟨ad.block, ad.off + (i * 6 + j), none⟩ = m.vals[j]?
/-- The seven cells of a member at (b, o). -/
structure ArrAt (w : World) (b o : Nat) (m : ArrM) : Prop where
  c0 : w.cell? ⟨b, o, none⟩ = some (.string m.i)
  c1 : w.cell? ⟨b, o + 1, none⟩ = some (.slice m.pa m.ps.length m.pc)
  c2 : w.cell? ⟨b, o + 2, none⟩ = some (.int .i64 m.t)
  c3 : w.cell? ⟨b, o + 3, none⟩ = some (.int .i64 m.e)
  c4 : w.cell? ⟨b, o + 4, none⟩ = some (.int .i64 m.n)
  c5 : w.cell? ⟨b, o + 5, none⟩ = some (.slice m.la m.l.length m.lc)
theorem Arrs.elem {w : World} {a : Option Addr} {cap : Nat} {L : List ArrM} (h : Arrs w a cap L) {k : Nat} (hk : k < L.length) :
    ∃ b off m, a = some ⟨b, off, none⟩ ∧ L[k]? = some m ∧ (Strs w m.pa m.pc m.ps ∧ Strs w m.la m.lc m.l) ∧ ArrAt w b (off + k * 6) m ∧ b < w.heap.size := by
  cases a with
  | none => obtain ⟨rfl, _⟩ := h.isNil rfl; simp at hk
  | some ad =>
    obtain ⟨b, off, sp⟩ := ad
    obtain ⟨h1, h2, h3⟩ := h.cell _ rfl (by intro e; subst e; simp at hk)
    simp at h1; subst h1
    have hc := h3 k _ (List.getElem?_eq_getElem hk)
    exact ⟨b, off, L[k], rfl, List.getElem?_eq_getElem hk, h.ok _ (List.getElem_mem hk), ⟨hc 0 (by omega), hc 1 (by omega), hc 2 (by omega), hc 3 (by omega), hc 4 (by omega), hc 5 (by omega)⟩, h2⟩
theorem Arrs.lenmax {w : World} {a : Option Addr} {cap : Nat} {L : List ArrM} (h : Arrs w a cap L) : L.length ≤ 9223372036854775807 := by
  have h1 := h.len; have h2 := h.max; unfold maxLen at h2; omega
theorem Arrs.fr {S : Nat → Prop} {w w' : World} {a : Option Addr} {cap : Nat} {L : List ArrM} (h : Arrs w a cap L) (hf : Fr S w w') (hS : ∀ ad, a = some ad → L ≠ [] → ¬ S ad.block) (hM : ∀ m ∈ L, (∀ ad, m.pa = some ad → m.ps ≠ [] → ¬ S ad.block) ∧ ∀ ad, m.la = some ad → m.l ≠ [] → ¬ S ad.block) : Arrs w' a cap L :=
  ⟨h.len, h.max, h.isNil, fun m hm => ⟨(h.ok m hm).1.fr hf (hM m hm).1, (h.ok m hm).2.fr hf (hM m hm).2⟩, fun ad e hne => by
    obtain ⟨h1, h2, h3⟩ := h.cell ad e hne
    refine ⟨h1, Nat.lt_of_lt_of_le h2 hf.size, fun i m hi j hj => ?_⟩
    rw [← h3 i m hi j hj]
    exact World.cell?_of_block (hf.block _ h2 (hS ad e hne))⟩
theorem Arrs.no {S : Nat → Prop} {w w' : World} {a : Option Addr} {cap : Nat} {L : List ArrM} (h : Arrs w a cap L) (hf : Fr S w w') (hS : ∀ k, ¬ S k) : Arrs w' a cap L := h.fr hf (fun _ _ _ => hS _) (fun _ _ => ⟨fun _ _ _ => hS _, fun _ _ _ => hS _⟩)
theorem Arrs.keep {S : Nat → Prop} {w w' : World} {a : Option Addr} {cap : Nat} {L : List ArrM} (h : Arrs w a cap L) (hf : Fr S w w') (hS : ∀ b, b < w.heap.size → ¬ S b) : Arrs w' a cap L :=
  h.fr hf (fun ad e hne => hS _ (h.cell ad e hne).2.1) (fun m hm => ⟨fun ad e hne => hS _ ((h.ok m hm).1.cell ad e hne).2.1, fun ad e hne => hS _ ((h.ok m hm).2.cell ad e hne).2.1⟩)
theorem Arrs.nil (w : World) : Arrs w none 0 [] := ⟨by simp, by simp, fun _ => ⟨rfl, rfl⟩, by simp, fun _ e _ => by cases e⟩
theorem infoAr : (Tryz.prog.info? 58).map (fun i => (i.zero, i.size, i.bytes)) = some (some (.agg #[.string ByteArray.empty, .slice none 0 0, .int .i64 0, .int .i64 0, .int .i64 0, .slice none 0 0]), 6, 88) := by kernel_rfl
def arflat (L : List ArrM) : List Value := L.flatMap (fun m => m.vals.toList)
theorem arflat_snoc (L : List ArrM) (m : ArrM) : arflat (L ++ [m]) = arflat L ++ m.vals.toList := by simp [arflat]
theorem arvals_one (m : ArrM) : ∀ u ∈ m.vals.toList, u.oneCell' = true := by
  intro u hu
  simp [ArrM.vals] at hu
  rcases hu with rfl | rfl | rfl | rfl | rfl | rfl <;> rfl
theorem arflat_at : ∀ (L : List ArrM) (i : Nat) (m : ArrM), L[i]? = some m → ∀ j, j < 6 → (arflat L)[i * 6 + j]? = m.vals[j]?
  | [], i, m, h, j, hj => by simp at h
  | x :: t, 0, m, h, j, hj => by
    simp at h; subst h
    have : arflat (x :: t) = x.vals.toList ++ arflat t := by simp [arflat]
    rw [this, List.getElem?_append_left (by simp [ArrM.vals]; omega)]
    simp
  | x :: t, i + 1, m, h, j, hj => by
    have : arflat (x :: t) = x.vals.toList ++ arflat t := by simp [arflat]
    rw [this, List.getElem?_append_right (by simp [ArrM.vals]; omega), show (i + 1) * 6 + j - x.vals.toList.length = i * 6 + j from by simp [ArrM.vals]; omega]
    exact arflat_at t i m (by simpa using h) j hj
theorem arflat_len (L : List ArrM) : (arflat L).length = L.length * 6 := by
  induction L with
  | nil => rfl
  | cons d t ih =>
    have : arflat (d :: t) = d.vals.toList ++ arflat t := by simp [arflat]
    rw [this, List.length_append, ih]
    simp [ArrM.vals]; omega
theorem Arrs.of_own {w : World} {base : Nat} {e : TypeId} {v : Value} {L : List ArrM} (h : w.ownsRow base e 6 v L.length (arflat L)) (hok : ∀ m ∈ L, Strs w m.pa m.pc m.ps ∧ Strs w m.la m.lc m.l) :
    ∃ a cap, v = .slice a L.length cap ∧ Arrs w a cap L ∧ ∀ ad, a = some ad → base ≤ ad.block := by
  obtain ⟨_, ⟨rfl, h2⟩ | ⟨g, cap, cur, rfl, hg, hb, h1, h2, h3, h4⟩⟩ := h
  · have : L = [] := List.eq_nil_of_length_eq_zero h2
    subst this
    exact ⟨none, 0, rfl, Arrs.nil w, fun _ e => by cases e⟩
  · refine ⟨some ⟨g, 0, none⟩, cap, rfl, ⟨h1, h2, (fun e => by cases e), hok, ?_⟩, fun ad e => by cases e; exact hg⟩
    intro ad e hne
    cases e
    refine ⟨rfl, lt_of_block hb, fun i m hi j hj => ?_⟩
    rw [cell_of_block hb]
    simp only [Nat.zero_add]
    have hlt : i < L.length := (List.getElem?_eq_some_iff.1 hi).1
    have e1 : (cur.toList.take (L.length * 6))[i * 6 + j]? = (arflat L)[i * 6 + j]? := by rw [h4]
    rw [List.getElem?_take_of_lt (by omega), arflat_at L i m hi j hj] at e1
    rw [← Array.getElem?_toList, e1]
/-- Arrays of the call's own: their texts lie in new blocks of texts. -/
def AFresh (w : World) (base : Nat) (L : List ArrM) : Prop := ∀ m ∈ L, (Strs w m.pa m.pc m.ps ∧ Strs w m.la m.lc m.l) ∧ (BlkT w m.pa 9 ∧ BlkT w m.la 9) ∧ (∀ ad, m.pa = some ad → base ≤ ad.block) ∧ ∀ ad, m.la = some ad → base ≤ ad.block
theorem AFresh.fr {S : Nat → Prop} {w w' : World} {base : Nat} {L : List ArrM} (h : AFresh w base L) (hf : Fr S w w') (hS : ∀ b, base ≤ b → b < w.heap.size → ¬ S b) : AFresh w' base L := fun m hm => by
  obtain ⟨⟨h1, h2⟩, ⟨h3, h4⟩, h5, h6⟩ := h m hm
  have hk : ∀ ad, m.pa = some ad → ¬ S ad.block := fun ad e => by obtain ⟨cs, hc⟩ := h3 ad e; exact hS _ (h5 ad e) (lt_of_block hc)
  have hk2 : ∀ ad, m.la = some ad → ¬ S ad.block := fun ad e => by obtain ⟨cs, hc⟩ := h4 ad e; exact hS _ (h6 ad e) (lt_of_block hc)
  exact ⟨⟨h1.fr hf (fun ad e _ => hk ad e), h2.fr hf (fun ad e _ => hk2 ad e)⟩, ⟨h3.fr hf hk, h4.fr hf hk2⟩, h5, h6⟩
theorem AFresh.own {w w' : World} {base b0 : Nat} {L : List ArrM} {v : Value} {n : Nat} {xs : List Value} (h : AFresh w base L) (ho : w.ownsRow b0 58 6 v n xs) (hf : Fr (fun b => v.ownBlock = some b) w w') : AFresh w' base L := fun m hm => by
  obtain ⟨⟨h1, h2⟩, ⟨h3, h4⟩, h5, h6⟩ := h m hm
  have hk := BlkT.ne ho h3 (by decide)
  have hk2 := BlkT.ne ho h4 (by decide)
  exact ⟨⟨h1.fr hf (fun ad e _ => hk ad e), h2.fr hf (fun ad e _ => hk2 ad e)⟩, ⟨h3.fr hf hk, h4.fr hf hk2⟩, h5, h6⟩
theorem AFresh.snoc {w : World} {base : Nat} {L : List ArrM} {m : ArrM} (h : AFresh w base L) (h1 : Strs w m.pa m.pc m.ps ∧ Strs w m.la m.lc m.l) (h2 : BlkT w m.pa 9 ∧ BlkT w m.la 9) (h3 : (∀ ad, m.pa = some ad → base ≤ ad.block) ∧ ∀ ad, m.la = some ad → base ≤ ad.block) : AFresh w base (L ++ [m]) := fun x hx => by
  rcases List.mem_append.1 hx with hx | hx
  · exact h x hx
  · obtain rfl : x = m := by simpa using hx
    exact ⟨h1, h2, h3⟩
end Go.Proofs.YtcibciippghooaaGreatDoor
