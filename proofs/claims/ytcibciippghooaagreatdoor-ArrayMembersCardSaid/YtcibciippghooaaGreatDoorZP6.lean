/- The owners as the reference gathers them. Plain. The expired deadlines. Whole, Enough, Must, Want; later, after. The deadlines after a look. -/
import Derived.Test.YtcibciippghooaaGreatDoorZP5
import Derived.Test.YtcibciippghooaaGreatDoorZP1
import Derived.Test.YtcibciippghooaaGreatDoorZL19
import Derived.Test.YtcibciippghooaaGreatDoorShelf3
import Derived.Test.YtcibciippghooaaGreatDoorZP2
import Derived.Test.YtcibciippghooaaGreatDoorZL20
import Derived.Laws.EntriesVeiled
namespace Go.Proofs.YtcibciippghooaaGreatDoor
open Go.RowKit
set_option linter.unusedVariables false

theorem asc_of {l : List ByteArray} (h : l.Pairwise ltS) : AscS (l.map kb) := by
  refine List.pairwise_map.2 (h.imp (fun {x y} hxy => ?_))
  rw [ltS_iff] at hxy
  refine ⟨?_, fun e => ?_⟩
  · unfold leS
    exact decide_eq_true (List.not_lt.1 (fun h' => List.lt_irrefl _ (List.lt_trans hxy h')))
  · have e' : wbl x = wbl y := e
    rw [e'] at hxy
    exact List.lt_irrefl _ hxy
/-- The members with one inner text. -/
def goodL (L : List Mem) : List Mem := L.filter fun m => m.l.length == 1
theorem goodL_snoc (L : List Mem) (m : Mem) : goodL (L ++ [m]) = goodL L ++ (if m.l.length = 1 then [m] else []) := by
  unfold goodL
  rw [List.filter_append]
  by_cases h : m.l.length = 1 <;> simp [h]
theorem goodL_yes {L : List Mem} {k : Nat} {m : Mem} (h : L[k]? = some m) (h1 : m.l.length = 1) : goodL (L.take (k + 1)) = goodL (L.take k) ++ [m] := by
  rw [List.take_add_one, h, show (some m).toList = [m] from rfl, goodL_snoc, if_pos h1]
theorem goodL_no {L : List Mem} {k : Nat} {m : Mem} (h : L[k]? = some m) (h1 : ¬ m.l.length = 1) : goodL (L.take (k + 1)) = goodL (L.take k) := by
  rw [List.take_add_one, h, show (some m).toList = [m] from rfl, goodL_snoc, if_neg h1, List.append_nil]
theorem best_good (L : List Mem) : best (goodL L) = best L := by
  refine rev_ind (P := fun L => best (goodL L) = best L) rfl ?_ L
  intro l m ih
  rw [goodL_snoc, best_snoc]
  by_cases h : m.l.length = 1
  · rw [if_pos h, best_snoc, ih]
  · rw [if_neg h, List.append_nil, ih, bestS_skip h]
theorem ids33 (L : List Mem) : IsIds L (idsW (goodL L)) := by
  refine ⟨asc_of (idsW_ok _).1, fun x => ?_⟩
  rw [(idsW_ok _).2.1, best_some_iff]
  constructor
  · rintro ⟨m, hm, rfl⟩
    obtain ⟨h1, h2⟩ := List.mem_filter.1 hm
    exact ⟨m, h1, by simpa using h2, rfl⟩
  · rintro ⟨m, h1, h2, h3⟩
    exact ⟨m, List.mem_filter.2 ⟨h1, by simpa using h2⟩, kb_inj h3⟩
theorem bestS_other {g : List UInt8 → Option Mem} {m : Mem} {x : ByteArray} (h : m.i ≠ x) : bestS g m (kb x) = g (kb x) := by
  unfold bestS
  rw [if_neg]
  intro e
  simp only [Bool.and_eq_true, beq_iff_eq] at e
  exact h (kb_inj e.1.2).symm
/-- The owners, with the places of their inner texts as they stand in the list. -/
def ownF (L : List Mem) (ids : List ByteArray) : List Mem := ids.map fun x => (best L (kb x)).getD Mem.zero
theorem ownF_k (L : List Mem) (ids : List ByteArray) : (ownF L ids).map Mem.k = own1 L ids := by
  unfold ownF own1
  rw [List.map_map]; rfl
theorem goodL_len (L : List Mem) : (goodL L).length ≤ L.length := List.length_filter_le _ _
theorem goodL_mem {L : List Mem} {m : Mem} (h : m ∈ goodL L) : m ∈ L ∧ m.l.length = 1 := by
  obtain ⟨h1, h2⟩ := List.mem_filter.1 h
  exact ⟨h1, by simpa using h2⟩
theorem ownF_mem {L : List Mem} {x : ByteArray} (h : x ∈ idsW (goodL L)) : ∃ m, best L (kb x) = some m ∧ m ∈ L ∧ m.l.length = 1 ∧ m.i = x := by
  obtain ⟨m, hm⟩ := Option.isSome_iff_exists.1 (((ids33 L).mem x).1 h)
  obtain ⟨h1, h2, h3⟩ := best_mem L _ m hm
  exact ⟨m, hm, h1, h2, kb_inj h3⟩
end Go.Proofs.YtcibciippghooaaGreatDoor
namespace Go.Proofs.YtcibciippghooaaGreatDoor
open Go.RowKit Go.Maps Go.Sort Go.Shelf
set_option linter.unusedVariables false

set_option maxHeartbeats 1000000 in
theorem b_keys (mb : Option Nat) (w : World) : Calls Tryz.prog 60 #[.map mb] w fun e w' => e = .returned (.func (.func 82) #[] #[.pointer (some ⟨w.heap.size, 0, none⟩)]) ∧ w' = w.alloc (.cells #[.map mb] 99) :=
  (callsIn_wide (n := 5)).1 (AnyZ.keys_in Tryz.keysB Fence.wide 5 trivial rfl mb w)

set_option maxHeartbeats 1000000 in
theorem b_sorted (mb Bm : Nat) (g : List UInt8 → Option Value) (N : Nat) (w : World) (hs : VMap w mb g N) (hN : N ≤ 1099511627776) (hB : w.cell? ⟨Bm, 0, none⟩ = some (.map (some mb))) (hBl : Bm < w.heap.size) :
    Calls Tryz.prog 39 #[.func (.func 82) #[] #[.pointer (some ⟨Bm, 0, none⟩)]] w fun e w' =>
      (∃ a cap ids, e = .returned (.slice a ids.length cap) ∧ Strs w' a cap ids ∧ AscS (ids.map kb) ∧ (∀ x : ByteArray, x ∈ ids ↔ (g (kb x)).isSome = true) ∧ ids.length ≤ N ∧ ∀ ad, a = some ad → w.heap.size ≤ ad.block) ∧ Fr No w w' := by
  obtain ⟨D, n, hn, hown, hf, _⟩ := hs
  have hsz := hown.size_le
  have hmax : Maps.size D ≤ maxLen := by unfold maxLen; omega
  have hbytes : Maps.size D * 16 ≤ 140737488355328 := by omega
  have hmem := mem_strKeys hown Tryz.underlying9
  have hnd := nodup_strKeys hown lawS Tryz.underlying9
  have hlen := strKeys_len D
  have hseq : SeqGives Fence.wide 2 Tryz.prog 82 #[.pointer (some ⟨Bm, 0, none⟩)] encStr (fun ss => ss.Perm (strKeys D)) (Maps.size D) w :=
    AnyZ.keys_gives (ρ := Tryz.keysB_ren) { Tryz.keysB with } Fence.wide _ trivial rfl (by omega) Bm mb n D _ hBl hB hown
  have cS := AnyZ.sorted_in Tryz.sortedS Fence.wide 5 trivial trivial trivial trivial rfl (by omega) (sortsS _) (enters_of Tryz.func63 (by kernel_rfl) rfl) 82 #[.pointer (some ⟨Bm, 0, none⟩)] trivial (enters_of Tryz.func82 (by kernel_rfl) rfl) _ _ hmax hbytes _ hseq
  refine ((callsIn_wide (n := 5)).1 cS).mono ?_
  rintro e w' ⟨v, ss, rfl, hperm, hrow, _, hb⟩
  have hp : (ss.mergeSort (fun x y => decide (x ≤ y))).Perm (strKeys D) := (List.mergeSort_perm ss _).trans hperm
  obtain ⟨L, hL⟩ : ∃ L, L = (ss.mergeSort (fun x y => decide (x ≤ y))) := ⟨_, rfl⟩
  have hl : (L.map bk).length = ss.length := by rw [hL]; simp
  have e1 : L.map encStr = (L.map bk).map Value.string := by rw [List.map_map]; rfl
  rw [← hL] at hp hrow
  rw [← hl, e1] at hrow
  obtain ⟨a, cap, rfl, h1, h2⟩ := Strs.of_own hrow
  have e2 : (L.map bk).map kb = L := by
    rw [List.map_map]
    have : kb ∘ bk = id := by funext x; exact kb_bk x
    rw [this, List.map_id]
  refine ⟨⟨a, cap, L.map bk, rfl, h1, ?_, fun x => ?_, ?_, h2⟩, Fr.of_below_size hb⟩
  · rw [e2, hL]; exact ascS_sorted (hperm.nodup_iff.2 hnd)
  · rw [← hf, ← hmem, ← hp.mem_iff]
    constructor
    · intro h
      obtain ⟨y, hy, rfl⟩ := List.mem_map.1 h
      rwa [kb_bk]
    · intro h
      exact List.mem_map.2 ⟨_, h, bk_kb x⟩
  · rw [List.length_map, hp.length_eq]; omega

/-- ids are the IDs whose deadline has passed, ascending. -/
structure ExpIds (D : List Dl) (now : Int) (ids : List ByteArray) : Prop where
  asc : AscS (ids.map kb)
  mem : ∀ x : ByteArray, x ∈ ids ↔ ∃ d ∈ D, d.a ≤ now ∧ d.i = x
theorem ExpIds.unique {D : List Dl} {now : Int} {ids ids' : List ByteArray} (h : ExpIds D now ids) (h' : ExpIds D now ids') : ids = ids' := by
  refine map_kb_inj (AscS.ext h.asc h'.asc fun x => ?_)
  rw [mem_kb, mem_kb, h.mem, h'.mem]
/-- What Expired answers. -/
def ExpR (w : World) (D : List Dl) (now : Int) (e : Ending) (w' : World) : Prop := ∃ (a' : Option Addr) (c' : Nat) (ids : List ByteArray), e = .returned (.slice a' ids.length c') ∧ Strs w' a' c' ids ∧ ExpIds D now ids ∧ ids.length ≤ D.length
def expG (D : List Dl) (now : Int) : List UInt8 → Option Value := fun x => if (D.any fun d => decide (d.a ≤ now) && decide (kb d.i = x)) = true then some (.bool true) else none
theorem expG_nil (now : Int) : expG [] now = fun _ => none := by funext x; simp [expG]
theorem expG_put (D : List Dl) (now : Int) (d : Dl) (h : d.a ≤ now) : updS (expG D now) (kb d.i) (.bool true) = expG (D ++ [d]) now := by
  funext x
  unfold updS expG
  by_cases e : x = kb d.i
  · subst e; simp [h]
  · have e' : ¬ kb d.i = x := fun h => e h.symm
    simp [e, e']
theorem expG_skip (D : List Dl) (now : Int) (d : Dl) (h : ¬ d.a ≤ now) : expG D now = expG (D ++ [d]) now := by
  funext x
  unfold expG
  simp [h]
theorem expG_some (D : List Dl) (now : Int) (x : ByteArray) : (expG D now (kb x)).isSome = true ↔ ∃ d ∈ D, d.a ≤ now ∧ d.i = x := by
  unfold expG
  constructor
  · intro h
    split at h
    · rename_i h1
      obtain ⟨d, hd, h2⟩ := List.any_eq_true.1 h1
      simp only [Bool.and_eq_true, decide_eq_true_eq] at h2
      exact ⟨d, hd, h2.1, kb_inj h2.2⟩
    · cases h
  · rintro ⟨d, hd, h1, rfl⟩
    rw [if_pos]
    · rfl
    · exact List.any_eq_true.2 ⟨d, hd, by simp [h1]⟩

set_option maxRecDepth 100000 in
set_option maxHeartbeats 2000000 in
theorem a_expired (a : Option Addr) (cap : Nat) (D : List Dl) (now : Int) (w : World) (hD : Dls w a cap D) (hb : D.length ≤ 100000) (hi : ∀ d ∈ D, d.i.size ≤ maxLen) :
    Calls Tryz.prog 36 #[.slice a D.length cap, .int .i64 now] w fun e w' => ExpR w D now e w' ∧ Fr No w w' := by
  have hmm := @run_makeMap Tryz.prog
  have hx : Fr No w (w.alloc (.map #[] 0)) := (Fr.refl _ _).alloc _
  have hI0 := VMap.made w
  have hs0 : w.heap.size < (w.alloc (.map #[] 0)).heap.size := by simp
  go_enter Tryz.func36, Tryz.ntmps36
  go_wp2_with fail
  clear hmm
  generalize w.alloc (.map #[] 0) = W0 at *
  go_loopw [11] (fun i wr => ∃ k : Nat, k ≤ D.length ∧ i = .int .i64 (k : Int) ∧ VMap wr w.heap.size (expG (D.take k) now) k ∧ Fr (From w.heap.size) w wr ∧ w.heap.size < wr.heap.size) (fun i _ => D.length - (intOf i).toNat)
  case atStart => exact ⟨0, by omega, rfl, by rw [List.take_zero, expG_nil]; exact hI0, hx.mono (fun _ _ h => h.elim), hs0⟩
  case round =>
    obtain ⟨k, hk, rfl, hI, hf, hsr⟩ := hrel
    by_cases hlt : k < D.length
    · have hlt' : (k : Int) < D.length := by omega
      obtain ⟨b, off, d, rfl, hdk, ⟨c0, c1⟩, _⟩ := (hD.keep hf (fun b hb h => by unfold From at h; omega)).elem hlt
      have hdw := hi d (List.mem_of_getElem? hdk)
      have Hup : Hid (D.take (k + 1) = D.take k ++ [d]) := by unfold Hid; rw [List.take_add_one, hdk]; rfl
      have hal : Fr No wr (wr.alloc (.cells #[.string d.i, .int .i64 d.a] 68)) := (Fr.refl _ _).alloc _
      have z0 : (wr.alloc (.cells #[.string d.i, .int .i64 d.a] 68)).cell? ⟨wr.heap.size, 0, none⟩ = some (.string d.i) := cell_of_block (block_alloc _ _) 0
      have z1 : (wr.alloc (.cells #[.string d.i, .int .i64 d.a] 68)).cell? ⟨wr.heap.size, 1, none⟩ = some (.int .i64 d.a) := cell_of_block (block_alloc _ _) 1
      have hIa := hI.fr hal id
      have hfa := hf.step hal (fun _ _ h => h.elim)
      have hsa := hal.size
      clear hdk hI hf hal
      by_cases h1 : d.a ≤ now
      · have Hf := Lib.hid hfa
        have Hp := Lib.hid (expG_put (D.take k) now d h1)
        clear hfa
        go_wp2_with (at_mapUpdate; refine wp_vmap_put rfl _ _ _ 99 4 rfl Tryz.underlying99 w.heap.size _ k (by unfold maxLen; omega) d.i hdw (.bool true) rfl hIa rfl rfl ?_; intro w1 hI1 hg1)
        rw [Hp.out, ← Hup.out] at hI1
        have hs1 := hg1.size
        have H := Lib.hid (And.intro hI1 (Hf.out.step hg1 (fun b hb e => by unfold Is at e; unfold From; omega)))
        clear hI1 hg1 hIa
        go_roundw
        case rel => exact ⟨k + 1, by omega, by go_num, H.out.1, H.out.2, by omega⟩
        case measure => simp [intOf]; omega
      · have hI1 : VMap (wr.alloc (.cells #[.string d.i, .int .i64 d.a] 68)) w.heap.size (expG (D.take (k + 1)) now) k := by rw [Hup.out, ← expG_skip _ _ _ h1]; exact hIa
        have hI2 : VMap (wr.alloc (.cells #[.string d.i, .int .i64 d.a] 68)) w.heap.size (expG (D.take (k + 1)) now) (k + 1) := hI1.mono (by omega)
        have H := Lib.hid (And.intro hI2 hfa)
        clear hI1 hI2 hIa hfa
        go_wp2_with fail
        go_roundw
        case rel => exact ⟨k + 1, by omega, by go_num, H.out.1, H.out.2, by omega⟩
        case measure => simp [intOf]; omega
    · obtain rfl : k = D.length := by omega
      rw [List.take_length] at hI
      have hx1 : Fr No wr (wr.alloc (.cells #[.map (some w.heap.size)] 99)) := (Fr.refl _ _).alloc _
      have q1 := block_alloc wr (.cells #[.map (some w.heap.size)] 99)
      have hI1 := hI.fr hx1 id
      have hs1 : wr.heap.size < (wr.alloc (.cells #[.map (some w.heap.size)] 99)).heap.size := by simp
      have Hf1 := Lib.hid (hf.step hx1 (fun _ _ h => h.elim))
      go_wp2_with fail
      refine (b_keys _ _).mono ?_
      rintro en w1 ⟨rfl, rfl⟩
      have hst := b_sorted w.heap.size wr.heap.size _ D.length _ hI1 (by omega) (cell_of_block q1 0) hs1
      clear hI hf hx1 q1 hI1
      go_wp2_with fail
      refine hst.mono ?_
      rintro en w2 ⟨⟨ia, ic, ids, rfl, hS, hasc, hmem, hln, _⟩, hf2⟩
      have H := Lib.hid (And.intro hS (And.intro (ExpIds.mk (D := D) (now := now) hasc (fun x => by rw [hmem, expG_some])) (And.intro hln ((Hf1.out.step hf2 (fun _ _ h => h.elim)).mono (T := No) (fun b hb h => by unfold From at h; omega)))))
      clear hS hasc hmem hln hf2 hst
      go_wp2_with fail
      go_ret
      exact ⟨⟨_, _, ids, rfl, H.out.1, H.out.2.1, H.out.2.2.1⟩, H.out.2.2.2⟩

def expW (D : List Dl) (now : Int) : List ByteArray := D.foldl (fun o d => if d.a ≤ now then with32 o d.i else o) []
theorem expW_take {D : List Dl} {k : Nat} {d : Dl} (now : Int) (h : D[k]? = some d) : expW (D.take (k + 1)) now = if d.a ≤ now then with32 (expW (D.take k) now) d.i else expW (D.take k) now := by
  unfold expW; rw [List.take_add_one, h, List.foldl_append]; rfl
theorem expW_ok (D : List Dl) (now : Int) : (expW D now).Pairwise ltS ∧ (∀ y, y ∈ expW D now ↔ ∃ d ∈ D, d.a ≤ now ∧ d.i = y) ∧ (expW D now).length ≤ D.length := by
  have e : ∀ (l : List Dl) (d : Dl), expW (l ++ [d]) now = if d.a ≤ now then with32 (expW l now) d.i else expW l now := fun l d => by unfold expW; rw [List.foldl_append]; rfl
  have key : ∀ l : List Dl, (expW l.reverse now).Pairwise ltS ∧ (∀ y, y ∈ expW l.reverse now ↔ ∃ d ∈ l.reverse, d.a ≤ now ∧ d.i = y) ∧ (expW l.reverse now).length ≤ l.length := by
    intro l
    induction l with
    | nil => exact ⟨List.Pairwise.nil, by simp [expW], by simp [expW]⟩
    | cons x t ih =>
      obtain ⟨h1, h2, h3⟩ := ih
      rw [List.reverse_cons, e]
      by_cases hx : x.a ≤ now
      · rw [if_pos hx]
        obtain ⟨h4, h5⟩ := with32_ok x.i h1
        refine ⟨h4, fun y => ?_, ?_⟩
        · rw [h5, h2]
          constructor
          · rintro (rfl | ⟨d, hd, h6, rfl⟩)
            · exact ⟨x, by simp, hx, rfl⟩
            · exact ⟨d, List.mem_append.2 (.inl hd), h6, rfl⟩
          · rintro ⟨d, hd, h6, rfl⟩
            rcases List.mem_append.1 hd with h | h
            · exact .inr ⟨d, h, h6, rfl⟩
            · obtain rfl : d = x := by simpa using h
              exact .inl rfl
        · have := with32_len (expW t.reverse now) x.i
          rw [List.length_cons]; omega
      · rw [if_neg hx]
        refine ⟨h1, fun y => ?_, by rw [List.length_cons]; omega⟩
        rw [h2]
        constructor
        · rintro ⟨d, hd, h6⟩
          exact ⟨d, List.mem_append.2 (.inl hd), h6⟩
        · rintro ⟨d, hd, h6⟩
          rcases List.mem_append.1 hd with h | h
          · exact ⟨d, h, h6⟩
          · obtain rfl : d = x := by simpa using h
            exact absurd h6.1 hx
  have := key D.reverse
  simpa using this
theorem expW_ids (D : List Dl) (now : Int) : ExpIds D now (expW D now) := ⟨asc_of (expW_ok D now).1, (expW_ok D now).2.1⟩

end Go.Proofs.YtcibciippghooaaGreatDoor
namespace Go.Proofs.YtcibciippghooaaGreatDoor
open Go.RowKit Go.Maps
set_option linter.unusedVariables false

/-- An array must exist. -/
def mustB (t e n : Int) (ex xp : Bool) : Bool := decide (n = t) || (decide (e ≤ n) && (ex || xp))
def mdT : ByteArray := ⟨#[109, 100, 45]⟩
/-- The device of an array. -/
def mdOf (gi : ByteArray) (ins : List ByteArray) (r : Int) : Vir := ⟨⟨#[]⟩, mdT ++ gi, ins.headD ⟨#[]⟩, r⟩
theorem set4 {W : World} {b : Nat} {cs : Array Value} {T : TypeId} (h : W.heap[b]? = some (.cells cs T)) (hs : cs.size = 4) (v0 v1 v2 v3 : Value) :
    ((((W.setCell ⟨b, 0, none⟩ v0).setCell ⟨b, 1, none⟩ v1).setCell ⟨b, 2, none⟩ v2).setCell ⟨b, 3, none⟩ v3).heap[b]? = some (.cells #[v0, v1, v2, v3] T) ∧ Fr (Is b) W ((((W.setCell ⟨b, 0, none⟩ v0).setCell ⟨b, 1, none⟩ v1).setCell ⟨b, 2, none⟩ v2).setCell ⟨b, 3, none⟩ v3) := by
  have fs : ∀ {a w : World} (h : Fr (Is b) a w) (i : Nat) (v : Value), Fr (Is b) a (w.setCell ⟨b, i, none⟩ v) := fun h i v => h.setCell (p := ⟨b, i, none⟩) (fun _ => rfl) v
  refine ⟨?_, fs (fs (fs (fs (Fr.refl _ _) _ _) _ _) _ _) _ _⟩
  obtain ⟨l⟩ := cs
  match l, hs with
  | [_, _, _, _], _ =>
    have h0 := block_setCell h 0 v0
    have h1 := block_setCell h0 1 v1
    have h2 := block_setCell h1 2 v2
    exact block_setCell h2 3 v3
def laterV (now wait : Int) : Int := if now + wait ≤ 1073741824 then now + wait else 1073741824

set_option maxRecDepth 100000 in
set_option maxHeartbeats 1000000 in
theorem a_whole (gi : ByteArray) (t e n : Int) (pa : Option Addr) (pn pc : Nat) (la : Option Addr) (lc : Nat) (ins : List ByteArray) (w : World) :
    Calls Tryz.prog 54 #[.agg #[.string gi, .slice pa pn pc, .int .i64 t, .int .i64 e, .int .i64 n, .slice la ins.length lc]] w fun en w' => en = .returned (.bool (decide (n = t))) ∧ Fr No w w' := by
  have hx : Fr No w (w.alloc (.cells #[.string gi, .slice pa pn pc, .int .i64 t, .int .i64 e, .int .i64 n, .slice la ins.length lc] 58)) := (Fr.refl _ _).alloc _
  have q0 := block_alloc w (.cells #[.string gi, .slice pa pn pc, .int .i64 t, .int .i64 e, .int .i64 n, .slice la ins.length lc] 58)
  obtain ⟨W0, hW0⟩ : ∃ W0, W0 = w.alloc (.cells #[.string gi, .slice pa pn pc, .int .i64 t, .int .i64 e, .int .i64 n, .slice la ins.length lc] 58) := ⟨_, rfl⟩
  rw [← hW0] at hx q0
  have y0 : W0.cell? ⟨w.heap.size, 0, none⟩ = some (.string gi) := cell_of_block q0 0
  have y1 : W0.cell? ⟨w.heap.size, 1, none⟩ = some (.slice pa pn pc) := cell_of_block q0 1
  have y2 : W0.cell? ⟨w.heap.size, 2, none⟩ = some (.int .i64 t) := cell_of_block q0 2
  have y3 : W0.cell? ⟨w.heap.size, 3, none⟩ = some (.int .i64 e) := cell_of_block q0 3
  have y4 : W0.cell? ⟨w.heap.size, 4, none⟩ = some (.int .i64 n) := cell_of_block q0 4
  have y5 : W0.cell? ⟨w.heap.size, 5, none⟩ = some (.slice la ins.length lc) := cell_of_block q0 5
  have Hx := Lib.hid hx
  clear hx q0
  go_enter Tryz.func54, Tryz.ntmps54
  go_upto_region 1 with (fail)
  rw [← hW0]
  clear hW0
  by_cases h : n = t
  · have hb : (n == t) = true := by simpa using h
    have Hd : Hid (decide (n = t) = true) := decide_eq_true h
    clear h
    go_wp2_with fail
    go_ret
    exact ⟨by rw [Hd.out]; rfl, Hx.out⟩
  · have hb : (n == t) = false := by simpa using h
    have Hd : Hid (decide (n = t) = false) := decide_eq_false h
    clear h
    go_wp2_with fail
    go_ret
    exact ⟨by rw [Hd.out]; rfl, Hx.out⟩
set_option maxRecDepth 100000 in
set_option maxHeartbeats 1000000 in
theorem a_enough (gi : ByteArray) (t e n : Int) (pa : Option Addr) (pn pc : Nat) (la : Option Addr) (lc : Nat) (ins : List ByteArray) (w : World) :
    Calls Tryz.prog 59 #[.agg #[.string gi, .slice pa pn pc, .int .i64 t, .int .i64 e, .int .i64 n, .slice la ins.length lc]] w fun en w' => en = .returned (.bool (decide (e ≤ n))) ∧ Fr No w w' := by
  have hx : Fr No w (w.alloc (.cells #[.string gi, .slice pa pn pc, .int .i64 t, .int .i64 e, .int .i64 n, .slice la ins.length lc] 58)) := (Fr.refl _ _).alloc _
  have q0 := block_alloc w (.cells #[.string gi, .slice pa pn pc, .int .i64 t, .int .i64 e, .int .i64 n, .slice la ins.length lc] 58)
  obtain ⟨W0, hW0⟩ : ∃ W0, W0 = w.alloc (.cells #[.string gi, .slice pa pn pc, .int .i64 t, .int .i64 e, .int .i64 n, .slice la ins.length lc] 58) := ⟨_, rfl⟩
  rw [← hW0] at hx q0
  have y0 : W0.cell? ⟨w.heap.size, 0, none⟩ = some (.string gi) := cell_of_block q0 0
  have y1 : W0.cell? ⟨w.heap.size, 1, none⟩ = some (.slice pa pn pc) := cell_of_block q0 1
  have y2 : W0.cell? ⟨w.heap.size, 2, none⟩ = some (.int .i64 t) := cell_of_block q0 2
  have y3 : W0.cell? ⟨w.heap.size, 3, none⟩ = some (.int .i64 e) := cell_of_block q0 3
  have y4 : W0.cell? ⟨w.heap.size, 4, none⟩ = some (.int .i64 n) := cell_of_block q0 4
  have y5 : W0.cell? ⟨w.heap.size, 5, none⟩ = some (.slice la ins.length lc) := cell_of_block q0 5
  have Hx := Lib.hid hx
  clear hx q0
  go_enter Tryz.func59, Tryz.ntmps59
  go_upto_region 1 with (fail)
  rw [← hW0]
  clear hW0
  by_cases h : e ≤ n
  · have Hd : Hid (decide (e ≤ n) = true) := decide_eq_true h
    go_wp2_with fail
    go_ret
    exact ⟨by rw [Hd.out]; rfl, Hx.out⟩
  · have Hd : Hid (decide (e ≤ n) = false) := decide_eq_false h
    go_wp2_with fail
    go_ret
    exact ⟨by rw [Hd.out]; rfl, Hx.out⟩
set_option maxRecDepth 100000 in
set_option maxHeartbeats 2000000 in
theorem a_must (gi : ByteArray) (t e n : Int) (pa : Option Addr) (pn pc : Nat) (la : Option Addr) (lc : Nat) (ins : List ByteArray) (ex xp : Bool) (w : World) :
    Calls Tryz.prog 35 #[.agg #[.string gi, .slice pa pn pc, .int .i64 t, .int .i64 e, .int .i64 n, .slice la ins.length lc], .bool ex, .bool xp] w fun en w' => en = .returned (.bool (mustB t e n ex xp)) ∧ Fr No w w' := by
  have hx : Fr No w (w.alloc (.cells #[.string gi, .slice pa pn pc, .int .i64 t, .int .i64 e, .int .i64 n, .slice la ins.length lc] 58)) := (Fr.refl _ _).alloc _
  have q0 := block_alloc w (.cells #[.string gi, .slice pa pn pc, .int .i64 t, .int .i64 e, .int .i64 n, .slice la ins.length lc] 58)
  obtain ⟨W0, hW0⟩ : ∃ W0, W0 = w.alloc (.cells #[.string gi, .slice pa pn pc, .int .i64 t, .int .i64 e, .int .i64 n, .slice la ins.length lc] 58) := ⟨_, rfl⟩
  rw [← hW0] at hx q0
  have y0 : W0.cell? ⟨w.heap.size, 0, none⟩ = some (.string gi) := cell_of_block q0 0
  have y1 : W0.cell? ⟨w.heap.size, 1, none⟩ = some (.slice pa pn pc) := cell_of_block q0 1
  have y2 : W0.cell? ⟨w.heap.size, 2, none⟩ = some (.int .i64 t) := cell_of_block q0 2
  have y3 : W0.cell? ⟨w.heap.size, 3, none⟩ = some (.int .i64 e) := cell_of_block q0 3
  have y4 : W0.cell? ⟨w.heap.size, 4, none⟩ = some (.int .i64 n) := cell_of_block q0 4
  have y5 : W0.cell? ⟨w.heap.size, 5, none⟩ = some (.slice la ins.length lc) := cell_of_block q0 5
  have hw := a_whole gi t e n pa pn pc la lc ins W0
  have hcl : ∀ W : World, Fr No W0 W → W.heap[w.heap.size]? = some (.cells #[.string gi, .slice pa pn pc, .int .i64 t, .int .i64 e, .int .i64 n, .slice la ins.length lc] 58) := fun W hf => hf.heap q0 id
  have Hcl := Lib.hid hcl
  have Hx := Lib.hid hx
  obtain ⟨rb, hrb⟩ : ∃ rb, rb = mustB t e n ex xp := ⟨_, rfl⟩
  rw [← hrb]
  have Hrb := Lib.hid hrb
  clear hx q0 hcl hrb
  go_enter Tryz.func35, Tryz.ntmps35
  go_upto_region 1 with (fail)
  rw [← hW0]
  clear hW0
  go_wp2_with fail
  refine hw.mono ?_
  rintro en w1 ⟨rfl, hf1⟩
  clear y0 y1 y2 y3 y4 y5
  have hq := Hcl.out w1 hf1
  have y0 := cell_of_block hq 0
  have y1 := cell_of_block hq 1
  have y2 := cell_of_block hq 2
  have y3 := cell_of_block hq 3
  have y4 := cell_of_block hq 4
  have y5 := cell_of_block hq 5
  have Hf1 := Lib.hid (Hx.out.step hf1 (fun _ _ h => h))
  have he := a_enough gi t e n pa pn pc la lc ins w1
  clear hw hf1 hq
  cases h1 : decide (n = t) with
  | true =>
    have Hv : Hid (rb = true) := by unfold Hid; rw [Hrb.out, mustB, h1]; rfl
    clear h1 he
    go_wp2_with fail
    go_ret
    exact ⟨by rw [Hv.out]; rfl, Hf1.out⟩
  | false =>
    have Hm : Hid (rb = (decide (e ≤ n) && (ex || xp))) := by unfold Hid; rw [Hrb.out, mustB, h1]; rfl
    clear h1
    go_wp2_with fail
    refine he.mono ?_
    rintro en w2 ⟨rfl, hf2⟩
    have Hf2 := Lib.hid (Hf1.out.step hf2 (fun _ _ h => h))
    clear he hf2 y0 y1 y2 y3 y4 y5
    cases h2 : decide (e ≤ n) with
    | false =>
      have Hv : Hid (rb = false) := by unfold Hid; rw [Hm.out, h2]; rfl
      clear h2
      go_wp2_with fail
      go_ret
      exact ⟨by rw [Hv.out]; rfl, Hf2.out⟩
    | true =>
      have Hv : Hid (rb = (ex || xp)) := by unfold Hid; rw [Hm.out, h2]; rfl
      clear h2
      cases ex <;> cases xp <;>
        (go_wp2_with fail
         go_ret
         exact ⟨by rw [Hv.out]; rfl, Hf2.out⟩)
end Go.Proofs.YtcibciippghooaaGreatDoor
namespace Go.Proofs.YtcibciippghooaaGreatDoor
open Go.RowKit Go.Maps
set_option linter.unusedVariables false

/-- The deadline of an ID. -/
def isD (gi : ByteArray) (d : Dl) : Bool := d.i.toList == gi.toList
def dlOf (D : List Dl) (now wait : Int) (gi : ByteArray) : Dl := (D.find? (isD gi)).getD ⟨gi, laterV now wait⟩
def watchF (D : List Dl) (ex : List ByteArray) (now wait : Int) (A : Arr) : List Dl := if (decide (A.n = A.t) || hasS ex A.i) = true then [] else [dlOf D now wait A.i]
def watchL (D : List Dl) (L : List Arr) (ex : List ByteArray) (now wait : Int) : List Dl := L.flatMap (watchF D ex now wait)
theorem watchL_snoc (D : List Dl) (L : List Arr) (A : Arr) (ex : List ByteArray) (now wait : Int) : watchL D (L ++ [A]) ex now wait = watchL D L ex now wait ++ watchF D ex now wait A := by simp [watchL]
def WatchR (D : List Dl) (L : List Arr) (ex : List ByteArray) (now wait : Int) (e : Ending) (w' : World) : Prop := ∃ (a' : Option Addr) (c' : Nat) (V : List Dl), e = .returned (.slice a' V.length c') ∧ Dls w' a' c' V ∧ V = watchL D L ex now wait

set_option maxHeartbeats 1000000 in
theorem a_later (now wait : Int) (w : World) (h1 : 0 ≤ now) (h2 : now ≤ 1073741824) (h3 : 0 ≤ wait) (h4 : wait ≤ 2147483648) :
    Calls Tryz.prog 56 #[.int .i64 now, .int .i64 wait] w fun e w' => e = .returned (.int .i64 (laterV now wait)) ∧ w' = w := by
  obtain ⟨v, hv⟩ : ∃ v, v = laterV now wait := ⟨_, rfl⟩
  rw [← hv]
  have Hv := Lib.hid hv
  clear hv
  go_enter Tryz.func56, Tryz.ntmps56
  by_cases hw : 0 < wait
  · by_cases hb : 1073741824 - wait < now
    · have Hx : Hid (v = 1073741824) := by unfold Hid; rw [Hv.out, laterV, if_neg (by omega)]
      go_wp2_with fail
      go_ret
      exact ⟨by rw [Hx.out]; rfl, rfl⟩
    · have Hx : Hid (v = now + wait) := by unfold Hid; rw [Hv.out, laterV, if_pos (by omega)]
      have hmin : min (now + wait) 1073741824 = now + wait := by omega
      go_wp2_with fail
      go_ret
      exact ⟨by rw [Hx.out]; first | rfl | (simp; omega), rfl⟩
  · have Hx : Hid (v = now + wait) := by unfold Hid; rw [Hv.out, laterV, if_pos (by omega)]
    have hmin : min (now + wait) 1073741824 = now + wait := by omega
    go_wp2_with fail
    go_ret
    exact ⟨by rw [Hx.out]; first | rfl | (simp; omega), rfl⟩
set_option maxHeartbeats 1000000 in
theorem strs_index (a : Option Addr) (cap : Nat) (l : List ByteArray) (s : ByteArray) (w : World) (hl : Strs w a cap l) :
    Calls Tryz.prog 81 #[.slice a l.length cap, .string s] w fun e w' => IdxS l s e ∧ Fr No w w' := by
  have hm := hl.lenmax
  go_enter Tryz.func81, Tryz.ntmps81
  go_wp2_with fail
  go_loop [8] (fun i => ∃ k : Nat, k ≤ l.length ∧ i = .int .i64 k ∧ Hid (∀ x ∈ l.take k, (x.toList == s.toList) = false)) (fun i => l.length - (intOf i).toNat)
  case atStart => exact ⟨0, by omega, rfl, by unfold Hid; simp⟩
  case round =>
    obtain ⟨k, hk, rfl, hno⟩ := hrel
    by_cases hlt : k < l.length
    · have hlt' : (k : Int) < l.length := by omega
      obtain ⟨b, off, x, rfl, hx, hc⟩ := hl.at hlt
      have Hx := Lib.hid hx
      clear hx
      rcases he : (s.toList == x.toList) with _ | _
      · have he' : (x.toList == s.toList) = false := by rw [Bool.beq_comm]; exact he
        have He' := Lib.hid he'
        clear he'
        go_wp2_with fail
        go_round
        case rel =>
          refine ⟨k + 1, by omega, by go_num, ?_⟩
          unfold Hid
          intro y hy
          rw [List.take_add_one, Hx.out] at hy
          rcases List.mem_append.1 hy with h | h
          · exact hno.out y h
          · simp at h; subst h; exact He'.out
        case measure => simp [intOf]; omega
      · have Hg : Hid (hasS l s = true) := hasS_at Hx.out (by rw [Bool.beq_comm]; exact he)
        go_wp2_with fail
        go_ret
        exact ⟨⟨k, rfl, by rw [Hg.out]; simp⟩, Fr.refl _ _⟩
    · obtain rfl : k = l.length := by omega
      have h := hno.out
      rw [List.take_of_length_le (by omega)] at h
      have Hg : Hid (hasS l s = false) := hasS_no h
      go_wp2_with fail
      go_ret
      exact ⟨⟨-1, rfl, by rw [Hg.out]; rfl⟩, Fr.refl _ _⟩

set_option maxHeartbeats 1000000 in
theorem strs_contains (a : Option Addr) (cap : Nat) (l : List ByteArray) (s : ByteArray) (w : World) (hl : Strs w a cap l) :
    Calls Tryz.prog 55 #[.slice a l.length cap, .string s] w fun e w' => e = .returned (.bool (hasS l s)) ∧ Fr No w w' := by
  go_enter Tryz.func55, Tryz.ntmps55
  go_wp2_with fail
  refine (strs_index a cap l s _ hl).mono ?_
  rintro e w1 ⟨⟨i, rfl, hi⟩, hf1⟩
  have Hi := Lib.hid hi
  clear hi
  go_wp2_with fail
  go_ret
  exact ⟨ret_bool Hi.out, hf1⟩


set_option maxHeartbeats 1000000 in
theorem watch_has (bt : Nat) (di gi : ByteArray) (da : Int) (w : World) (hb : w.cell? ⟨bt, 0, none⟩ = some (.string gi)) :
    Calls Tryz.prog 58 #[.agg #[.string di, .int .i64 da], .pointer (some ⟨bt, 0, none⟩)] w fun e w' => e = .returned (.bool (di.toList == gi.toList)) ∧ Fr No w w' := by
  have hx : Fr No w (w.alloc (.cells #[.string di, .int .i64 da] 68)) := (Fr.refl _ _).alloc _
  have q0 := block_alloc w (.cells #[.string di, .int .i64 da] 68)
  have hb1 := hx.cell hb id
  have x0 : (w.alloc (.cells #[.string di, .int .i64 da] 68)).cell? ⟨w.heap.size, 0, none⟩ = some (.string di) := cell_of_block q0 0
  rcases hv : (di.toList == gi.toList) with _ | _
  · have Hx := Lib.hid hx
    clear hx q0
    go_enter Tryz.func58, Tryz.ntmps58
    go_wp2_with fail
    go_ret
    exact ⟨rfl, Hx.out⟩
  · have Hx := Lib.hid hx
    clear hx q0
    go_enter Tryz.func58, Tryz.ntmps58
    go_wp2_with fail
    go_ret
    exact ⟨rfl, Hx.out⟩
/-- The first deadline of an ID, by its place. -/
def IdxD (D : List Dl) (gi : ByteArray) (e : Ending) : Prop := (e = .returned (.int .i64 (-1)) ∧ D.find? (isD gi) = none) ∨ ∃ (k : Nat) (d : Dl), e = .returned (.int .i64 (k : Int)) ∧ D[k]? = some d ∧ D.find? (isD gi) = some d
theorem find_snoc {p : Dl → Bool} : ∀ {l : List Dl} {d : Dl} (r : List Dl), l.find? p = none → p d = true → (l ++ d :: r).find? p = some d := fun r h1 h2 => by
  rw [List.find?_append, h1]; simp [h2]
set_option maxRecDepth 100000 in
set_option maxHeartbeats 2000000 in
theorem watch_idx (bt : Nat) (a : Option Addr) (cap : Nat) (D : List Dl) (gi : ByteArray) (w : World) (hb : w.cell? ⟨bt, 0, none⟩ = some (.string gi)) (hD : Dls w a cap D) :
    Calls Tryz.prog 57 #[.slice a D.length cap, .func (.func 58) #[] #[.pointer (some ⟨bt, 0, none⟩)]] w fun e w' => IdxD D gi e ∧ Fr No w w' := by
  have hm := hD.lenmax
  go_enter Tryz.func57, Tryz.ntmps57
  go_wp2_with fail
  go_loopw [8] (fun i wr => ∃ k : Nat, k ≤ D.length ∧ i = .int .i64 (k : Int) ∧ Hid ((D.take k).find? (isD gi) = none) ∧ Fr No w wr) (fun i _ => D.length - (intOf i).toNat)
  case atStart => exact ⟨0, by omega, rfl, by unfold Hid; simp, Fr.refl _ _⟩
  case round =>
    obtain ⟨k, hk, rfl, hno, hf⟩ := hrel
    by_cases hlt : k < D.length
    · have hlt' : (k : Int) < D.length := by omega
      obtain ⟨b, off, d, rfl, hdk, ⟨c0, c1⟩, _⟩ := (hD.no hf (fun _ => id)).elem hlt
      have hh := watch_has bt d.i gi d.a wr (hf.cell hb id)
      have Hdk := Lib.hid hdk
      have Hsp : Hid (D = D.take k ++ d :: D.drop (k + 1)) := by
        unfold Hid
        obtain ⟨h1, h2⟩ := List.getElem?_eq_some_iff.1 hdk
        rw [← h2, ← List.drop_eq_getElem_cons h1, List.take_append_drop]
      have Htk : Hid (D.take (k + 1) = D.take k ++ [d]) := by unfold Hid; rw [List.take_add_one, hdk]; rfl
      clear hdk
      go_wp2_with fail
      refine hh.mono ?_
      rintro e w1 ⟨rfl, hf1⟩
      have Hf := Lib.hid (hf.step hf1 (fun _ _ h => h))
      clear hh hf1 hf c0 c1
      rcases hv : (d.i.toList == gi.toList) with _ | _
      · have Hn : Hid ((D.take (k + 1)).find? (isD gi) = none) := by
          unfold Hid
          rw [Htk.out, List.find?_append, hno.out]
          have : isD gi d = false := hv
          simp [this]
        clear hv
        go_wp2_with fail
        go_roundw
        case rel => exact ⟨k + 1, by omega, by go_num, Hn, Hf.out⟩
        case measure => simp [intOf]; omega
      · have Hr : Hid (D.find? (isD gi) = some d) := by
          unfold Hid
          rw [Hsp.out]
          exact find_snoc _ hno.out hv
        clear hv
        go_wp2_with fail
        go_ret
        exact ⟨.inr ⟨k, d, rfl, Hdk.out, Hr.out⟩, Hf.out⟩
    · obtain rfl : k = D.length := by omega
      have h := hno.out
      rw [List.take_length] at h
      have Hn := Lib.hid h
      clear h
      go_wp2_with fail
      go_ret
      exact ⟨.inl ⟨rfl, Hn.out⟩, hf⟩

end Go.Proofs.YtcibciippghooaaGreatDoor
