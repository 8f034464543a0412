/- The expired deadlines. Whole, Enough, Must, Want; later, after. -/
import Derived.Test.YtbblkknndaoefaaGreatDoorZA20
import Derived.Test.YtbblkknndaoefaaGreatDoorZA6
import Derived.Test.YtbblkknndaoefaaGreatDoorZA4
import Derived.Test.YtbblkknndaoefaaGreatDoorShelf3
import Derived.Test.YtbblkknndaoefaaGreatDoorZA12
import Derived.Test.YtbblkknndaoefaaGreatDoorZA7
namespace Go.Proofs.YtbblkknndaoefaaGreatDoor
open Go.RowKit Go.Maps Go.Sort Go.Shelf
set_option linter.unusedVariables false

set_option maxHeartbeats 1000000 in
theorem b_keys (mb : Option Nat) (w : World) : Calls Tryz.prog 102 #[.map mb] w fun e w' => e = .returned (.func (.func 130) #[] #[.pointer (some ⟨w.heap.size, 0, none⟩)]) ∧ w' = w.alloc (.cells #[.map mb] 126) :=
  (callsIn_wide (n := 5)).1 (AnyZ.keys_in Tryz.keysB Fence.wide 5 trivial rfl mb w)

set_option maxHeartbeats 1000000 in
theorem b_sorted (mb Bm : Nat) (g : List UInt8 → Option Value) (N : Nat) (w : World) (hs : VMap w mb g N) (hN : N ≤ 1099511627776) (hB : w.cell? ⟨Bm, 0, none⟩ = some (.map (some mb))) (hBl : Bm < w.heap.size) :
    Calls Tryz.prog 75 #[.func (.func 130) #[] #[.pointer (some ⟨Bm, 0, none⟩)]] w fun e w' =>
      (∃ a cap ids, e = .returned (.slice a ids.length cap) ∧ Strs w' a cap ids ∧ AscS (ids.map kb) ∧ (∀ x : ByteArray, x ∈ ids ↔ (g (kb x)).isSome = true) ∧ ids.length ≤ N ∧ ∀ ad, a = some ad → w.heap.size ≤ ad.block) ∧ Fr No w w' := by
  obtain ⟨D, n, hn, hown, hf, _⟩ := hs
  have hsz := hown.size_le
  have hmax : Maps.size D ≤ maxLen := by unfold maxLen; omega
  have hbytes : Maps.size D * 16 ≤ 140737488355328 := by omega
  have hmem := mem_strKeys hown Tryz.underlying9
  have hnd := nodup_strKeys hown lawS Tryz.underlying9
  have hlen := strKeys_len D
  have hseq : SeqGives Fence.wide 2 Tryz.prog 130 #[.pointer (some ⟨Bm, 0, none⟩)] encStr (fun ss => ss.Perm (strKeys D)) (Maps.size D) w :=
    AnyZ.keys_gives (ρ := Tryz.keysB_ren) { Tryz.keysB with } Fence.wide _ trivial rfl (by omega) Bm mb n D _ hBl hB hown
  have cS := AnyZ.sorted_in Tryz.sortedS Fence.wide 5 trivial trivial trivial trivial rfl (by omega) (sortsS _) (enters_of Tryz.func106 (by kernel_rfl) rfl) 130 #[.pointer (some ⟨Bm, 0, none⟩)] trivial (enters_of Tryz.func130 (by kernel_rfl) rfl) _ _ hmax hbytes _ hseq
  refine ((callsIn_wide (n := 5)).1 cS).mono ?_
  rintro e w' ⟨v, ss, rfl, hperm, hrow, _, hb⟩
  have hp : (ss.mergeSort (fun x y => decide (x ≤ y))).Perm (strKeys D) := (List.mergeSort_perm ss _).trans hperm
  obtain ⟨L, hL⟩ : ∃ L, L = (ss.mergeSort (fun x y => decide (x ≤ y))) := ⟨_, rfl⟩
  have hl : (L.map bk).length = ss.length := by rw [hL]; simp
  have e1 : L.map encStr = (L.map bk).map Value.string := by rw [List.map_map]; rfl
  rw [← hL] at hp hrow
  rw [← hl, e1] at hrow
  obtain ⟨a, cap, rfl, h1, h2⟩ := Strs.of_own hrow
  have e2 : (L.map bk).map kb = L := by
    rw [List.map_map]
    have : kb ∘ bk = id := by funext x; exact kb_bk x
    rw [this, List.map_id]
  refine ⟨⟨a, cap, L.map bk, rfl, h1, ?_, fun x => ?_, ?_, h2⟩, Fr.of_below_size hb⟩
  · rw [e2, hL]; exact ascS_sorted (hperm.nodup_iff.2 hnd)
  · rw [← hf, ← hmem, ← hp.mem_iff]
    constructor
    · intro h
      obtain ⟨y, hy, rfl⟩ := List.mem_map.1 h
      rwa [kb_bk]
    · intro h
      exact List.mem_map.2 ⟨_, h, bk_kb x⟩
  · rw [List.length_map, hp.length_eq]; omega

/-- ids are the IDs whose deadline has passed, ascending. -/
structure ExpIds (D : List Dl) (now : Int) (ids : List ByteArray) : Prop where
  asc : AscS (ids.map kb)
  mem : ∀ x : ByteArray, x ∈ ids ↔ ∃ d ∈ D, d.a ≤ now ∧ d.i = x
theorem ExpIds.unique {D : List Dl} {now : Int} {ids ids' : List ByteArray} (h : ExpIds D now ids) (h' : ExpIds D now ids') : ids = ids' := by
  refine map_kb_inj (AscS.ext h.asc h'.asc fun x => ?_)
  rw [mem_kb, mem_kb, h.mem, h'.mem]
/-- What Expired answers. -/
def ExpR (w : World) (D : List Dl) (now : Int) (e : Ending) (w' : World) : Prop := ∃ (a' : Option Addr) (c' : Nat) (ids : List ByteArray), e = .returned (.slice a' ids.length c') ∧ Strs w' a' c' ids ∧ ExpIds D now ids ∧ ids.length ≤ D.length
def expG (D : List Dl) (now : Int) : List UInt8 → Option Value := fun x => if (D.any fun d => decide (d.a ≤ now) && decide (kb d.i = x)) = true then some (.bool true) else none
theorem expG_nil (now : Int) : expG [] now = fun _ => none := by funext x; simp [expG]
theorem expG_put (D : List Dl) (now : Int) (d : Dl) (h : d.a ≤ now) : updS (expG D now) (kb d.i) (.bool true) = expG (D ++ [d]) now := by
  funext x
  unfold updS expG
  by_cases e : x = kb d.i
  · subst e; simp [h]
  · have e' : ¬ kb d.i = x := fun h => e h.symm
    simp [e, e']
theorem expG_skip (D : List Dl) (now : Int) (d : Dl) (h : ¬ d.a ≤ now) : expG D now = expG (D ++ [d]) now := by
  funext x
  unfold expG
  simp [h]
theorem expG_some (D : List Dl) (now : Int) (x : ByteArray) : (expG D now (kb x)).isSome = true ↔ ∃ d ∈ D, d.a ≤ now ∧ d.i = x := by
  unfold expG
  constructor
  · intro h
    split at h
    · rename_i h1
      obtain ⟨d, hd, h2⟩ := List.any_eq_true.1 h1
      simp only [Bool.and_eq_true, decide_eq_true_eq] at h2
      exact ⟨d, hd, h2.1, kb_inj h2.2⟩
    · cases h
  · rintro ⟨d, hd, h1, rfl⟩
    rw [if_pos]
    · rfl
    · exact List.any_eq_true.2 ⟨d, hd, by simp [h1]⟩

set_option maxRecDepth 100000 in
set_option maxHeartbeats 2000000 in
theorem a_expired (a : Option Addr) (cap : Nat) (D : List Dl) (now : Int) (w : World) (hD : Dls w a cap D) (hb : D.length ≤ 100000) (hi : ∀ d ∈ D, d.i.size ≤ maxLen) :
    Calls Tryz.prog 60 #[.slice a D.length cap, .int .i64 now] w fun e w' => ExpR w D now e w' ∧ Fr No w w' := by
  have hmm := @run_makeMap Tryz.prog
  have hx : Fr No w (w.alloc (.map #[] 0)) := (Fr.refl _ _).alloc _
  have hI0 := VMap.made w
  have hs0 : w.heap.size < (w.alloc (.map #[] 0)).heap.size := by simp
  go_enter Tryz.func60, Tryz.ntmps60
  go_wp2_with fail
  clear hmm
  generalize w.alloc (.map #[] 0) = W0 at *
  go_loopw [11] (fun i wr => ∃ k : Nat, k ≤ D.length ∧ i = .int .i64 (k : Int) ∧ VMap wr w.heap.size (expG (D.take k) now) k ∧ Fr (From w.heap.size) w wr ∧ w.heap.size < wr.heap.size) (fun i _ => D.length - (intOf i).toNat)
  case atStart => exact ⟨0, by omega, rfl, by rw [List.take_zero, expG_nil]; exact hI0, hx.mono (fun _ _ h => h.elim), hs0⟩
  case round =>
    obtain ⟨k, hk, rfl, hI, hf, hsr⟩ := hrel
    by_cases hlt : k < D.length
    · have hlt' : (k : Int) < D.length := by omega
      obtain ⟨b, off, d, rfl, hdk, ⟨c0, c1⟩, _⟩ := (hD.keep hf (fun b hb h => by unfold From at h; omega)).elem hlt
      have hdw := hi d (List.mem_of_getElem? hdk)
      have Hup : Hid (D.take (k + 1) = D.take k ++ [d]) := by unfold Hid; rw [List.take_add_one, hdk]; rfl
      have hal : Fr No wr (wr.alloc (.cells #[.string d.i, .int .i64 d.a] 81)) := (Fr.refl _ _).alloc _
      have z0 : (wr.alloc (.cells #[.string d.i, .int .i64 d.a] 81)).cell? ⟨wr.heap.size, 0, none⟩ = some (.string d.i) := cell_of_block (block_alloc _ _) 0
      have z1 : (wr.alloc (.cells #[.string d.i, .int .i64 d.a] 81)).cell? ⟨wr.heap.size, 1, none⟩ = some (.int .i64 d.a) := cell_of_block (block_alloc _ _) 1
      have hIa := hI.fr hal id
      have hfa := hf.step hal (fun _ _ h => h.elim)
      have hsa := hal.size
      clear hdk hI hf hal
      by_cases h1 : d.a ≤ now
      · have Hf := Lib.hid hfa
        have Hp := Lib.hid (expG_put (D.take k) now d h1)
        clear hfa
        go_wp2_with (at_mapUpdate; refine wp_vmap_put rfl _ _ _ 126 4 rfl Tryz.underlying126 w.heap.size _ k (by unfold maxLen; omega) d.i hdw (.bool true) rfl hIa rfl rfl ?_; intro w1 hI1 hg1)
        rw [Hp.out, ← Hup.out] at hI1
        have hs1 := hg1.size
        have H := Lib.hid (And.intro hI1 (Hf.out.step hg1 (fun b hb e => by unfold Is at e; unfold From; omega)))
        clear hI1 hg1 hIa
        go_roundw
        case rel => exact ⟨k + 1, by omega, by go_num, H.out.1, H.out.2, by omega⟩
        case measure => simp [intOf]; omega
      · have hI1 : VMap (wr.alloc (.cells #[.string d.i, .int .i64 d.a] 81)) w.heap.size (expG (D.take (k + 1)) now) k := by rw [Hup.out, ← expG_skip _ _ _ h1]; exact hIa
        have hI2 : VMap (wr.alloc (.cells #[.string d.i, .int .i64 d.a] 81)) w.heap.size (expG (D.take (k + 1)) now) (k + 1) := hI1.mono (by omega)
        have H := Lib.hid (And.intro hI2 hfa)
        clear hI1 hI2 hIa hfa
        go_wp2_with fail
        go_roundw
        case rel => exact ⟨k + 1, by omega, by go_num, H.out.1, H.out.2, by omega⟩
        case measure => simp [intOf]; omega
    · obtain rfl : k = D.length := by omega
      rw [List.take_length] at hI
      have hx1 : Fr No wr (wr.alloc (.cells #[.map (some w.heap.size)] 126)) := (Fr.refl _ _).alloc _
      have q1 := block_alloc wr (.cells #[.map (some w.heap.size)] 126)
      have hI1 := hI.fr hx1 id
      have hs1 : wr.heap.size < (wr.alloc (.cells #[.map (some w.heap.size)] 126)).heap.size := by simp
      have Hf1 := Lib.hid (hf.step hx1 (fun _ _ h => h.elim))
      go_wp2_with fail
      refine (b_keys _ _).mono ?_
      rintro en w1 ⟨rfl, rfl⟩
      have hst := b_sorted w.heap.size wr.heap.size _ D.length _ hI1 (by omega) (cell_of_block q1 0) hs1
      clear hI hf hx1 q1 hI1
      go_wp2_with fail
      refine hst.mono ?_
      rintro en w2 ⟨⟨ia, ic, ids, rfl, hS, hasc, hmem, hln, _⟩, hf2⟩
      have H := Lib.hid (And.intro hS (And.intro (ExpIds.mk (D := D) (now := now) hasc (fun x => by rw [hmem, expG_some])) (And.intro hln ((Hf1.out.step hf2 (fun _ _ h => h.elim)).mono (T := No) (fun b hb h => by unfold From at h; omega)))))
      clear hS hasc hmem hln hf2 hst
      go_wp2_with fail
      go_ret
      exact ⟨⟨_, _, ids, rfl, H.out.1, H.out.2.1, H.out.2.2.1⟩, H.out.2.2.2⟩

def expW (D : List Dl) (now : Int) : List ByteArray := D.foldl (fun o d => if d.a ≤ now then with32 o d.i else o) []
theorem expW_take {D : List Dl} {k : Nat} {d : Dl} (now : Int) (h : D[k]? = some d) : expW (D.take (k + 1)) now = if d.a ≤ now then with32 (expW (D.take k) now) d.i else expW (D.take k) now := by
  unfold expW; rw [List.take_add_one, h, List.foldl_append]; rfl
theorem expW_ok (D : List Dl) (now : Int) : (expW D now).Pairwise ltS ∧ (∀ y, y ∈ expW D now ↔ ∃ d ∈ D, d.a ≤ now ∧ d.i = y) ∧ (expW D now).length ≤ D.length := by
  have e : ∀ (l : List Dl) (d : Dl), expW (l ++ [d]) now = if d.a ≤ now then with32 (expW l now) d.i else expW l now := fun l d => by unfold expW; rw [List.foldl_append]; rfl
  have key : ∀ l : List Dl, (expW l.reverse now).Pairwise ltS ∧ (∀ y, y ∈ expW l.reverse now ↔ ∃ d ∈ l.reverse, d.a ≤ now ∧ d.i = y) ∧ (expW l.reverse now).length ≤ l.length := by
    intro l
    induction l with
    | nil => exact ⟨List.Pairwise.nil, by simp [expW], by simp [expW]⟩
    | cons x t ih =>
      obtain ⟨h1, h2, h3⟩ := ih
      rw [List.reverse_cons, e]
      by_cases hx : x.a ≤ now
      · rw [if_pos hx]
        obtain ⟨h4, h5⟩ := with32_ok x.i h1
        refine ⟨h4, fun y => ?_, ?_⟩
        · rw [h5, h2]
          constructor
          · rintro (rfl | ⟨d, hd, h6, rfl⟩)
            · exact ⟨x, by simp, hx, rfl⟩
            · exact ⟨d, List.mem_append.2 (.inl hd), h6, rfl⟩
          · rintro ⟨d, hd, h6, rfl⟩
            rcases List.mem_append.1 hd with h | h
            · exact .inr ⟨d, h, h6, rfl⟩
            · obtain rfl : d = x := by simpa using h
              exact .inl rfl
        · have := with32_len (expW t.reverse now) x.i
          rw [List.length_cons]; omega
      · rw [if_neg hx]
        refine ⟨h1, fun y => ?_, by rw [List.length_cons]; omega⟩
        rw [h2]
        constructor
        · rintro ⟨d, hd, h6⟩
          exact ⟨d, List.mem_append.2 (.inl hd), h6⟩
        · rintro ⟨d, hd, h6⟩
          rcases List.mem_append.1 hd with h | h
          · exact ⟨d, h, h6⟩
          · obtain rfl : d = x := by simpa using h
            exact absurd h6.1 hx
  have := key D.reverse
  simpa using this
theorem expW_ids (D : List Dl) (now : Int) : ExpIds D now (expW D now) := ⟨asc_of (expW_ok D now).1, (expW_ok D now).2.1⟩

set_option maxRecDepth 100000 in
set_option maxHeartbeats 2000000 in
theorem r_expired (a : Option Addr) (cap : Nat) (D : List Dl) (now : Int) (w : World) (hD : Dls w a cap D) (hb : D.length ≤ 100000) :
    Calls Tryz.prog 61 #[.slice a D.length cap, .int .i64 now] w fun e w' => ExpR w D now e w' ∧ Fr No w w' := by
  have hm := hD.lenmax
  go_enter Tryz.func61, Tryz.ntmps61
  go_wp2_with fail
  go_loopw [5, 6] (fun v i wr => ∃ (k : Nat) (X : List ByteArray) (av : Option Addr) (cv : Nat), k ≤ D.length ∧ v = .slice av X.length cv ∧ i = .int .i64 (k : Int) ∧ Strs wr av cv X ∧ Hid (X = expW (D.take k) now) ∧ Fr No w wr) (fun _ i _ => D.length - (intOf i).toNat)
  case atStart => exact ⟨0, [], none, 0, by omega, rfl, rfl, Strs.nil _, by unfold Hid; simp [expW], Fr.refl _ _⟩
  case round =>
    obtain ⟨k, X, av, cv, hk, rfl, rfl, hX, HX, hf⟩ := hrel
    have hok := expW_ok (D.take k) now
    rw [← HX.out] at hok
    have hxl : X.length ≤ 1000000 := by have := hok.2.2; rw [List.length_take] at this; omega
    by_cases hlt : k < D.length
    · have hlt' : (k : Int) < D.length := by omega
      obtain ⟨b, off, d, rfl, hdk, ⟨c0, c1⟩, _⟩ := (hD.no hf (fun _ => id)).elem hlt
      have Htk := Lib.hid (expW_take now hdk)
      clear hdk
      by_cases h1 : d.a ≤ now
      · have hw := ref_with32 av cv X d.i wr hX hok.1 hxl
        have HX' : Hid (with32 X d.i = expW (D.take (k + 1)) now) := by unfold Hid; rw [Htk.out, if_pos h1, HX.out]
        clear hok
        go_wp2_with fail
        refine hw.mono ?_
        rintro e w1 ⟨⟨a1, k1, rfl, hS1, _⟩, hf1⟩
        have H := Lib.hid (And.intro hS1 (hf.step hf1 (fun _ _ h => h)))
        clear hS1 hf1 hf hw hX
        go_wp2_with fail
        go_roundw
        case rel => exact ⟨k + 1, with32 X d.i, a1, k1, by omega, rfl, by go_num, H.out.1, HX', H.out.2⟩
        case measure => simp [intOf]; omega
      · have HX' : Hid (X = expW (D.take (k + 1)) now) := by unfold Hid; rw [Htk.out, if_neg h1, HX.out]
        clear hok
        go_wp2_with fail
        go_roundw
        case rel => exact ⟨k + 1, X, av, cv, by omega, rfl, by go_num, hX, HX', hf⟩
        case measure => simp [intOf]; omega
    · obtain rfl : k = D.length := by omega
      have hXe := HX.out
      rw [List.take_length] at hXe
      have H := Lib.hid (And.intro hX (And.intro (show ExpIds D now X by rw [hXe]; exact expW_ids D now) (And.intro (show X.length ≤ D.length by rw [hXe]; exact (expW_ok D now).2.2) hf)))
      clear hX hf hXe HX hok
      go_wp2_with fail
      go_ret
      exact ⟨⟨_, _, X, rfl, H.out.1, H.out.2.1, H.out.2.2.1⟩, H.out.2.2.2⟩
end Go.Proofs.YtbblkknndaoefaaGreatDoor
namespace Go.Proofs.YtbblkknndaoefaaGreatDoor
open Go.RowKit Go.Maps
set_option linter.unusedVariables false

/-- An array must exist. -/
def mustB (t e n : Int) (ex xp : Bool) : Bool := decide (n = t) || (decide (e ≤ n) && (ex || xp))
def mdT : ByteArray := ⟨#[109, 100, 45]⟩
/-- The device of an array. -/
def mdOf (gi : ByteArray) (ins : List ByteArray) (r : Int) : Vir := ⟨⟨#[]⟩, mdT ++ gi, ins.headD ⟨#[]⟩, r⟩
theorem set4 {W : World} {b : Nat} {cs : Array Value} {T : TypeId} (h : W.heap[b]? = some (.cells cs T)) (hs : cs.size = 4) (v0 v1 v2 v3 : Value) :
    ((((W.setCell ⟨b, 0, none⟩ v0).setCell ⟨b, 1, none⟩ v1).setCell ⟨b, 2, none⟩ v2).setCell ⟨b, 3, none⟩ v3).heap[b]? = some (.cells #[v0, v1, v2, v3] T) ∧ Fr (Is b) W ((((W.setCell ⟨b, 0, none⟩ v0).setCell ⟨b, 1, none⟩ v1).setCell ⟨b, 2, none⟩ v2).setCell ⟨b, 3, none⟩ v3) := by
  have fs : ∀ {a w : World} (h : Fr (Is b) a w) (i : Nat) (v : Value), Fr (Is b) a (w.setCell ⟨b, i, none⟩ v) := fun h i v => h.setCell (p := ⟨b, i, none⟩) (fun _ => rfl) v
  refine ⟨?_, fs (fs (fs (fs (Fr.refl _ _) _ _) _ _) _ _) _ _⟩
  obtain ⟨l⟩ := cs
  match l, hs with
  | [_, _, _, _], _ =>
    have h0 := block_setCell h 0 v0
    have h1 := block_setCell h0 1 v1
    have h2 := block_setCell h1 2 v2
    exact block_setCell h2 3 v3
def laterV (now wait : Int) : Int := if now + wait ≤ 1073741824 then now + wait else 1073741824

set_option maxRecDepth 100000 in
set_option maxHeartbeats 1000000 in
theorem a_whole (gi : ByteArray) (t e n : Int) (pa : Option Addr) (pn pc : Nat) (la : Option Addr) (lc : Nat) (ins : List ByteArray) (w : World) :
    Calls Tryz.prog 62 #[.agg #[.string gi, .slice pa pn pc, .int .i64 t, .int .i64 e, .int .i64 n, .slice la ins.length lc]] w fun en w' => en = .returned (.bool (decide (n = t))) ∧ Fr No w w' := by
  have hx : Fr No w (w.alloc (.cells #[.string gi, .slice pa pn pc, .int .i64 t, .int .i64 e, .int .i64 n, .slice la ins.length lc] 42)) := (Fr.refl _ _).alloc _
  have q0 := block_alloc w (.cells #[.string gi, .slice pa pn pc, .int .i64 t, .int .i64 e, .int .i64 n, .slice la ins.length lc] 42)
  obtain ⟨W0, hW0⟩ : ∃ W0, W0 = w.alloc (.cells #[.string gi, .slice pa pn pc, .int .i64 t, .int .i64 e, .int .i64 n, .slice la ins.length lc] 42) := ⟨_, rfl⟩
  rw [← hW0] at hx q0
  have y0 : W0.cell? ⟨w.heap.size, 0, none⟩ = some (.string gi) := cell_of_block q0 0
  have y1 : W0.cell? ⟨w.heap.size, 1, none⟩ = some (.slice pa pn pc) := cell_of_block q0 1
  have y2 : W0.cell? ⟨w.heap.size, 2, none⟩ = some (.int .i64 t) := cell_of_block q0 2
  have y3 : W0.cell? ⟨w.heap.size, 3, none⟩ = some (.int .i64 e) := cell_of_block q0 3
  have y4 : W0.cell? ⟨w.heap.size, 4, none⟩ = some (.int .i64 n) := cell_of_block q0 4
  have y5 : W0.cell? ⟨w.heap.size, 5, none⟩ = some (.slice la ins.length lc) := cell_of_block q0 5
  have Hx := Lib.hid hx
  clear hx q0
  go_enter Tryz.func62, Tryz.ntmps62
  go_upto_region 1 with (fail)
  rw [← hW0]
  clear hW0
  by_cases h : n = t
  · have hb : (n == t) = true := by simpa using h
    have Hd : Hid (decide (n = t) = true) := decide_eq_true h
    clear h
    go_wp2_with fail
    go_ret
    exact ⟨by rw [Hd.out]; rfl, Hx.out⟩
  · have hb : (n == t) = false := by simpa using h
    have Hd : Hid (decide (n = t) = false) := decide_eq_false h
    clear h
    go_wp2_with fail
    go_ret
    exact ⟨by rw [Hd.out]; rfl, Hx.out⟩
set_option maxRecDepth 100000 in
set_option maxHeartbeats 1000000 in
theorem a_enough (gi : ByteArray) (t e n : Int) (pa : Option Addr) (pn pc : Nat) (la : Option Addr) (lc : Nat) (ins : List ByteArray) (w : World) :
    Calls Tryz.prog 66 #[.agg #[.string gi, .slice pa pn pc, .int .i64 t, .int .i64 e, .int .i64 n, .slice la ins.length lc]] w fun en w' => en = .returned (.bool (decide (e ≤ n))) ∧ Fr No w w' := by
  have hx : Fr No w (w.alloc (.cells #[.string gi, .slice pa pn pc, .int .i64 t, .int .i64 e, .int .i64 n, .slice la ins.length lc] 42)) := (Fr.refl _ _).alloc _
  have q0 := block_alloc w (.cells #[.string gi, .slice pa pn pc, .int .i64 t, .int .i64 e, .int .i64 n, .slice la ins.length lc] 42)
  obtain ⟨W0, hW0⟩ : ∃ W0, W0 = w.alloc (.cells #[.string gi, .slice pa pn pc, .int .i64 t, .int .i64 e, .int .i64 n, .slice la ins.length lc] 42) := ⟨_, rfl⟩
  rw [← hW0] at hx q0
  have y0 : W0.cell? ⟨w.heap.size, 0, none⟩ = some (.string gi) := cell_of_block q0 0
  have y1 : W0.cell? ⟨w.heap.size, 1, none⟩ = some (.slice pa pn pc) := cell_of_block q0 1
  have y2 : W0.cell? ⟨w.heap.size, 2, none⟩ = some (.int .i64 t) := cell_of_block q0 2
  have y3 : W0.cell? ⟨w.heap.size, 3, none⟩ = some (.int .i64 e) := cell_of_block q0 3
  have y4 : W0.cell? ⟨w.heap.size, 4, none⟩ = some (.int .i64 n) := cell_of_block q0 4
  have y5 : W0.cell? ⟨w.heap.size, 5, none⟩ = some (.slice la ins.length lc) := cell_of_block q0 5
  have Hx := Lib.hid hx
  clear hx q0
  go_enter Tryz.func66, Tryz.ntmps66
  go_upto_region 1 with (fail)
  rw [← hW0]
  clear hW0
  by_cases h : e ≤ n
  · have Hd : Hid (decide (e ≤ n) = true) := decide_eq_true h
    go_wp2_with fail
    go_ret
    exact ⟨by rw [Hd.out]; rfl, Hx.out⟩
  · have Hd : Hid (decide (e ≤ n) = false) := decide_eq_false h
    go_wp2_with fail
    go_ret
    exact ⟨by rw [Hd.out]; rfl, Hx.out⟩
set_option maxRecDepth 100000 in
set_option maxHeartbeats 2000000 in
theorem a_must (gi : ByteArray) (t e n : Int) (pa : Option Addr) (pn pc : Nat) (la : Option Addr) (lc : Nat) (ins : List ByteArray) (ex xp : Bool) (w : World) :
    Calls Tryz.prog 53 #[.agg #[.string gi, .slice pa pn pc, .int .i64 t, .int .i64 e, .int .i64 n, .slice la ins.length lc], .bool ex, .bool xp] w fun en w' => en = .returned (.bool (mustB t e n ex xp)) ∧ Fr No w w' := by
  have hx : Fr No w (w.alloc (.cells #[.string gi, .slice pa pn pc, .int .i64 t, .int .i64 e, .int .i64 n, .slice la ins.length lc] 42)) := (Fr.refl _ _).alloc _
  have q0 := block_alloc w (.cells #[.string gi, .slice pa pn pc, .int .i64 t, .int .i64 e, .int .i64 n, .slice la ins.length lc] 42)
  obtain ⟨W0, hW0⟩ : ∃ W0, W0 = w.alloc (.cells #[.string gi, .slice pa pn pc, .int .i64 t, .int .i64 e, .int .i64 n, .slice la ins.length lc] 42) := ⟨_, rfl⟩
  rw [← hW0] at hx q0
  have y0 : W0.cell? ⟨w.heap.size, 0, none⟩ = some (.string gi) := cell_of_block q0 0
  have y1 : W0.cell? ⟨w.heap.size, 1, none⟩ = some (.slice pa pn pc) := cell_of_block q0 1
  have y2 : W0.cell? ⟨w.heap.size, 2, none⟩ = some (.int .i64 t) := cell_of_block q0 2
  have y3 : W0.cell? ⟨w.heap.size, 3, none⟩ = some (.int .i64 e) := cell_of_block q0 3
  have y4 : W0.cell? ⟨w.heap.size, 4, none⟩ = some (.int .i64 n) := cell_of_block q0 4
  have y5 : W0.cell? ⟨w.heap.size, 5, none⟩ = some (.slice la ins.length lc) := cell_of_block q0 5
  have hw := a_whole gi t e n pa pn pc la lc ins W0
  have hcl : ∀ W : World, Fr No W0 W → W.heap[w.heap.size]? = some (.cells #[.string gi, .slice pa pn pc, .int .i64 t, .int .i64 e, .int .i64 n, .slice la ins.length lc] 42) := fun W hf => hf.heap q0 id
  have Hcl := Lib.hid hcl
  have Hx := Lib.hid hx
  obtain ⟨rb, hrb⟩ : ∃ rb, rb = mustB t e n ex xp := ⟨_, rfl⟩
  rw [← hrb]
  have Hrb := Lib.hid hrb
  clear hx q0 hcl hrb
  go_enter Tryz.func53, Tryz.ntmps53
  go_upto_region 1 with (fail)
  rw [← hW0]
  clear hW0
  go_wp2_with fail
  refine hw.mono ?_
  rintro en w1 ⟨rfl, hf1⟩
  clear y0 y1 y2 y3 y4 y5
  have hq := Hcl.out w1 hf1
  have y0 := cell_of_block hq 0
  have y1 := cell_of_block hq 1
  have y2 := cell_of_block hq 2
  have y3 := cell_of_block hq 3
  have y4 := cell_of_block hq 4
  have y5 := cell_of_block hq 5
  have Hf1 := Lib.hid (Hx.out.step hf1 (fun _ _ h => h))
  have he := a_enough gi t e n pa pn pc la lc ins w1
  clear hw hf1 hq
  cases h1 : decide (n = t) with
  | true =>
    have Hv : Hid (rb = true) := by unfold Hid; rw [Hrb.out, mustB, h1]; rfl
    clear h1 he
    go_wp2_with fail
    go_ret
    exact ⟨by rw [Hv.out]; rfl, Hf1.out⟩
  | false =>
    have Hm : Hid (rb = (decide (e ≤ n) && (ex || xp))) := by unfold Hid; rw [Hrb.out, mustB, h1]; rfl
    clear h1
    go_wp2_with fail
    refine he.mono ?_
    rintro en w2 ⟨rfl, hf2⟩
    have Hf2 := Lib.hid (Hf1.out.step hf2 (fun _ _ h => h))
    clear he hf2 y0 y1 y2 y3 y4 y5
    cases h2 : decide (e ≤ n) with
    | false =>
      have Hv : Hid (rb = false) := by unfold Hid; rw [Hm.out, h2]; rfl
      clear h2
      go_wp2_with fail
      go_ret
      exact ⟨by rw [Hv.out]; rfl, Hf2.out⟩
    | true =>
      have Hv : Hid (rb = (ex || xp)) := by unfold Hid; rw [Hm.out, h2]; rfl
      clear h2
      cases ex <;> cases xp <;>
        (go_wp2_with fail
         go_ret
         exact ⟨by rw [Hv.out]; rfl, Hf2.out⟩)
set_option maxRecDepth 100000 in
set_option maxHeartbeats 2000000 in
theorem a_want (gi : ByteArray) (t e n rd : Int) (pa : Option Addr) (pn pc : Nat) (la : Option Addr) (lc : Nat) (ins : List ByteArray) (w : World) (hid : gi.size ≤ 1000000) (hS : Strs w la lc ins) :
    Calls Tryz.prog 69 #[.agg #[.string gi, .slice pa pn pc, .int .i64 t, .int .i64 e, .int .i64 n, .slice la ins.length lc], .int .i64 rd] w fun en w' => en = .returned (.agg (mdOf gi ins rd).vals) ∧ Fr No w w' := by
  have hx1 : Fr No w ((w.alloc (.cells #[.string gi, .slice pa pn pc, .int .i64 t, .int .i64 e, .int .i64 n, .slice la ins.length lc] 42)).alloc (.cells #[.string ⟨#[]⟩, .string ⟨#[]⟩, .string ⟨#[]⟩, .int .i64 0] 64)) := ((Fr.refl _ _).alloc _).alloc _
  have q2 := block_alloc1 w (.cells #[.string gi, .slice pa pn pc, .int .i64 t, .int .i64 e, .int .i64 n, .slice la ins.length lc] 42) (.cells #[.string ⟨#[]⟩, .string ⟨#[]⟩, .string ⟨#[]⟩, .int .i64 0] 64)
  have q4 := block_alloc2 w (.cells #[.string gi, .slice pa pn pc, .int .i64 t, .int .i64 e, .int .i64 n, .slice la ins.length lc] 42) (.cells #[.string ⟨#[]⟩, .string ⟨#[]⟩, .string ⟨#[]⟩, .int .i64 0] 64)
  have hs1 : ((w.alloc (.cells #[.string gi, .slice pa pn pc, .int .i64 t, .int .i64 e, .int .i64 n, .slice la ins.length lc] 42)).alloc (.cells #[.string ⟨#[]⟩, .string ⟨#[]⟩, .string ⟨#[]⟩, .int .i64 0] 64)).heap.size = w.heap.size + 2 := by simp
  have hil := hS.lenmax
  have hz : ¬ 9223372036854775807 < 3 + gi.size := by omega
  have Hmd : Hid (mdOf gi ins rd = ⟨⟨#[]⟩, (⟨#[109, 100, 45]⟩ : ByteArray) ++ gi, ins.headD ⟨#[]⟩, rd⟩) := rfl
  obtain ⟨W0, hW0⟩ : ∃ W0, W0 = (w.alloc (.cells #[.string gi, .slice pa pn pc, .int .i64 t, .int .i64 e, .int .i64 n, .slice la ins.length lc] 42)).alloc (.cells #[.string ⟨#[]⟩, .string ⟨#[]⟩, .string ⟨#[]⟩, .int .i64 0] 64) := ⟨_, rfl⟩
  rw [← hW0] at hx1 q2 q4 hs1
  have hS0 := hS.no hx1 (fun _ => id)
  have hs1' : w.heap.size + 2 ≤ W0.heap.size := by omega
  have y0 : W0.cell? ⟨w.heap.size, 0, none⟩ = some (.string gi) := cell_of_block q2 0
  clear hs1
  go_enter Tryz.func69, Tryz.ntmps69
  go_upto_region 1 with (fail)
  rw [← hW0]
  clear hW0
  have hx2 : Fr No W0 (W0.alloc (.cells #[.string ⟨#[]⟩, .string ((⟨#[109, 100, 45]⟩ : ByteArray) ++ gi), .string ⟨#[]⟩, .int .i64 rd] 64)) := (Fr.refl _ _).alloc _
  have q5 := block_alloc W0 (.cells #[.string ⟨#[]⟩, .string ((⟨#[109, 100, 45]⟩ : ByteArray) ++ gi), .string ⟨#[]⟩, .int .i64 rd] 64)
  have q2' := hx2.heap q2 id
  have q4' := hx2.heap q4 id
  have hs2 := lt_of_block q5
  obtain ⟨W1, hW1⟩ : ∃ W1, W1 = W0.alloc (.cells #[.string ⟨#[]⟩, .string ((⟨#[109, 100, 45]⟩ : ByteArray) ++ gi), .string ⟨#[]⟩, .int .i64 rd] 64) := ⟨_, rfl⟩
  rw [← hW1] at hx2 q5 q2' q4' hs2
  have hS1 := hS0.no hx2 (fun _ => id)
  have Hx := Lib.hid (hx1.step hx2 (fun _ _ h => h))
  go_upto_region 2 with (fail)
  rw [← hW1]
  clear hW1 y0 hx1 hx2 hS hS0 q2 q4
  have x5 : W1.cell? ⟨w.heap.size, 5, none⟩ = some (.slice la ins.length lc) := cell_of_block q2' 5
  rcases ins with _ | ⟨c, ir⟩
  · have x5' : W1.cell? ⟨w.heap.size, 5, none⟩ = some (.slice la 0 lc) := x5
    clear x5
    have u0 : W1.cell? ⟨W0.heap.size, 0, none⟩ = some (.string ⟨#[]⟩) := cell_of_block q5 0
    have u1 : W1.cell? ⟨W0.heap.size, 1, none⟩ = some (.string ((⟨#[109, 100, 45]⟩ : ByteArray) ++ gi)) := cell_of_block q5 1
    have u2 : W1.cell? ⟨W0.heap.size, 2, none⟩ = some (.string ⟨#[]⟩) := cell_of_block q5 2
    have u3 : W1.cell? ⟨W0.heap.size, 3, none⟩ = some (.int .i64 rd) := cell_of_block q5 3
    have b0 : W1.cell? ⟨w.heap.size + 1, 0, none⟩ = some (.string ⟨#[]⟩) := cell_of_block q4' 0
    have b1 : W1.cell? ⟨w.heap.size + 1, 1, none⟩ = some (.string ⟨#[]⟩) := cell_of_block q4' 1
    have b2 : W1.cell? ⟨w.heap.size + 1, 2, none⟩ = some (.string ⟨#[]⟩) := cell_of_block q4' 2
    have b3 : W1.cell? ⟨w.heap.size + 1, 3, none⟩ = some (.int .i64 0) := cell_of_block q4' 3
    have f0 : W1.frozen? ⟨w.heap.size + 1, 0, none⟩ = false := free_of_block q4' 0
    have f1 : W1.frozen? ⟨w.heap.size + 1, 1, none⟩ = false := free_of_block q4' 1
    have f2 : W1.frozen? ⟨w.heap.size + 1, 2, none⟩ = false := free_of_block q4' 2
    have f3 : W1.frozen? ⟨w.heap.size + 1, 3, none⟩ = false := free_of_block q4' 3
    have h4 := set4 q4' rfl (.string ⟨#[]⟩) (.string ((⟨#[109, 100, 45]⟩ : ByteArray) ++ gi)) (.string ⟨#[]⟩) (.int .i64 rd)
    have HF := Lib.hid (((Hx.out.mono (T := From w.heap.size) (fun _ _ h => h.elim)).step h4.2 (fun b _ h => by unfold Is at h; unfold From; omega)).mono (T := No) (fun b hb h => by unfold From at h; omega))
    have Hq := Lib.hid h4.1
    clear h4
    go_wp2_with fail
    have y0 := cell_of_block Hq.out 0
    have y1 := cell_of_block Hq.out 1
    have y2 := cell_of_block Hq.out 2
    have y3 := cell_of_block Hq.out 3
    refine bodyPost_ret (v := .agg #[.string ⟨#[]⟩, .string ((⟨#[109, 100, 45]⟩ : ByteArray) ++ gi), .string ⟨#[]⟩, .int .i64 rd]) (by simp [results, Tryz.results69, go_sem, y0, y1, y2, y3]) rfl ?_
    exact ⟨by rw [Hmd.out]; rfl, HF.out⟩
  · have hlt : (0 : Int) < ((c :: ir).length : Nat) := by first | (simp; done) | (simp; omega)
    obtain ⟨b, off, x, rfl, hx0, hc⟩ := hS1.at (k := 0) (by simp)
    obtain rfl : c = x := by simpa using hx0
    rw [Nat.add_zero] at hc
    clear hx0
    have z2 : W1.cell? ⟨W0.heap.size, 2, none⟩ = some (.string ⟨#[]⟩) := cell_of_block q5 2
    have f2 : W1.frozen? ⟨W0.heap.size, 2, none⟩ = false := free_of_block q5 2
    have hfs : Fr (Is W0.heap.size) W1 (W1.setCell ⟨W0.heap.size, 2, none⟩ (.string c)) := Fr.setCell (S := Is W0.heap.size) (p := ⟨W0.heap.size, 2, none⟩) (Fr.refl _ _) (fun _ => rfl) _
    have q5b : (W1.setCell ⟨W0.heap.size, 2, none⟩ (.string c)).heap[W0.heap.size]? = some (.cells #[.string ⟨#[]⟩, .string ((⟨#[109, 100, 45]⟩ : ByteArray) ++ gi), .string c, .int .i64 rd] 64) := block_setCell q5 2 (.string c)
    have q4b := hfs.heap q4' (fun e => by unfold Is at e; omega)
    have Hx2 := Lib.hid ((Hx.out.mono (T := From w.heap.size) (fun _ _ h => h.elim)).step hfs (fun b _ h => by unfold Is at h; unfold From; omega))
    generalize hlen : (c :: ir).length = nl at *
    clear hfs q5 q4' q2' hS1 Hx
    go_upto_region 4 with (fail)
    generalize W1.setCell ⟨W0.heap.size, 2, none⟩ (.string c) = Wb at *
    clear z2 f2 x5 hc
    have u0 : Wb.cell? ⟨W0.heap.size, 0, none⟩ = some (.string ⟨#[]⟩) := cell_of_block q5b 0
    have u1 : Wb.cell? ⟨W0.heap.size, 1, none⟩ = some (.string ((⟨#[109, 100, 45]⟩ : ByteArray) ++ gi)) := cell_of_block q5b 1
    have u2 : Wb.cell? ⟨W0.heap.size, 2, none⟩ = some (.string c) := cell_of_block q5b 2
    have u3 : Wb.cell? ⟨W0.heap.size, 3, none⟩ = some (.int .i64 rd) := cell_of_block q5b 3
    have b0 : Wb.cell? ⟨w.heap.size + 1, 0, none⟩ = some (.string ⟨#[]⟩) := cell_of_block q4b 0
    have b1 : Wb.cell? ⟨w.heap.size + 1, 1, none⟩ = some (.string ⟨#[]⟩) := cell_of_block q4b 1
    have b2 : Wb.cell? ⟨w.heap.size + 1, 2, none⟩ = some (.string ⟨#[]⟩) := cell_of_block q4b 2
    have b3 : Wb.cell? ⟨w.heap.size + 1, 3, none⟩ = some (.int .i64 0) := cell_of_block q4b 3
    have f0 : Wb.frozen? ⟨w.heap.size + 1, 0, none⟩ = false := free_of_block q4b 0
    have f1 : Wb.frozen? ⟨w.heap.size + 1, 1, none⟩ = false := free_of_block q4b 1
    have f2 : Wb.frozen? ⟨w.heap.size + 1, 2, none⟩ = false := free_of_block q4b 2
    have f3 : Wb.frozen? ⟨w.heap.size + 1, 3, none⟩ = false := free_of_block q4b 3
    have h4 := set4 q4b rfl (.string ⟨#[]⟩) (.string ((⟨#[109, 100, 45]⟩ : ByteArray) ++ gi)) (.string c) (.int .i64 rd)
    have HF := Lib.hid ((Hx2.out.step h4.2 (fun b _ h => by unfold Is at h; unfold From; omega)).mono (T := No) (fun b hb h => by unfold From at h; omega))
    have Hq := Lib.hid h4.1
    clear h4
    go_wp2_with fail
    have y0 := cell_of_block Hq.out 0
    have y1 := cell_of_block Hq.out 1
    have y2 := cell_of_block Hq.out 2
    have y3 := cell_of_block Hq.out 3
    refine bodyPost_ret (v := .agg #[.string ⟨#[]⟩, .string ((⟨#[109, 100, 45]⟩ : ByteArray) ++ gi), .string c, .int .i64 rd]) (by simp [results, Tryz.results69, go_sem, y0, y1, y2, y3]) rfl ?_
    exact ⟨by rw [Hmd.out]; rfl, HF.out⟩

set_option maxRecDepth 100000 in
set_option maxHeartbeats 1000000 in
theorem r_whole (gi : ByteArray) (t e n : Int) (pa : Option Addr) (pn pc : Nat) (la : Option Addr) (lc : Nat) (ins : List ByteArray) (w : World) :
    Calls Tryz.prog 65 #[.agg #[.string gi, .slice pa pn pc, .int .i64 t, .int .i64 e, .int .i64 n, .slice la ins.length lc]] w fun en w' => en = .returned (.bool (decide (n = t))) ∧ Fr No w w' := by
  have hx : Fr No w (w.alloc (.cells #[.string gi, .slice pa pn pc, .int .i64 t, .int .i64 e, .int .i64 n, .slice la ins.length lc] 42)) := (Fr.refl _ _).alloc _
  have q0 := block_alloc w (.cells #[.string gi, .slice pa pn pc, .int .i64 t, .int .i64 e, .int .i64 n, .slice la ins.length lc] 42)
  obtain ⟨W0, hW0⟩ : ∃ W0, W0 = w.alloc (.cells #[.string gi, .slice pa pn pc, .int .i64 t, .int .i64 e, .int .i64 n, .slice la ins.length lc] 42) := ⟨_, rfl⟩
  rw [← hW0] at hx q0
  have y0 : W0.cell? ⟨w.heap.size, 0, none⟩ = some (.string gi) := cell_of_block q0 0
  have y1 : W0.cell? ⟨w.heap.size, 1, none⟩ = some (.slice pa pn pc) := cell_of_block q0 1
  have y2 : W0.cell? ⟨w.heap.size, 2, none⟩ = some (.int .i64 t) := cell_of_block q0 2
  have y3 : W0.cell? ⟨w.heap.size, 3, none⟩ = some (.int .i64 e) := cell_of_block q0 3
  have y4 : W0.cell? ⟨w.heap.size, 4, none⟩ = some (.int .i64 n) := cell_of_block q0 4
  have y5 : W0.cell? ⟨w.heap.size, 5, none⟩ = some (.slice la ins.length lc) := cell_of_block q0 5
  have Hx := Lib.hid hx
  clear hx q0
  go_enter Tryz.func65, Tryz.ntmps65
  go_upto_region 1 with (fail)
  rw [← hW0]
  clear hW0
  by_cases h : n = t
  · have hb : (n == t) = true := by simpa using h
    have Hd : Hid (decide (n = t) = true) := decide_eq_true h
    clear h
    go_wp2_with fail
    go_ret
    exact ⟨by rw [Hd.out]; rfl, Hx.out⟩
  · have hb : (n == t) = false := by simpa using h
    have Hd : Hid (decide (n = t) = false) := decide_eq_false h
    clear h
    go_wp2_with fail
    go_ret
    exact ⟨by rw [Hd.out]; rfl, Hx.out⟩
set_option maxRecDepth 100000 in
set_option maxHeartbeats 1000000 in
theorem r_enough (gi : ByteArray) (t e n : Int) (pa : Option Addr) (pn pc : Nat) (la : Option Addr) (lc : Nat) (ins : List ByteArray) (w : World) :
    Calls Tryz.prog 67 #[.agg #[.string gi, .slice pa pn pc, .int .i64 t, .int .i64 e, .int .i64 n, .slice la ins.length lc]] w fun en w' => en = .returned (.bool (decide (e ≤ n))) ∧ Fr No w w' := by
  have hx : Fr No w (w.alloc (.cells #[.string gi, .slice pa pn pc, .int .i64 t, .int .i64 e, .int .i64 n, .slice la ins.length lc] 42)) := (Fr.refl _ _).alloc _
  have q0 := block_alloc w (.cells #[.string gi, .slice pa pn pc, .int .i64 t, .int .i64 e, .int .i64 n, .slice la ins.length lc] 42)
  obtain ⟨W0, hW0⟩ : ∃ W0, W0 = w.alloc (.cells #[.string gi, .slice pa pn pc, .int .i64 t, .int .i64 e, .int .i64 n, .slice la ins.length lc] 42) := ⟨_, rfl⟩
  rw [← hW0] at hx q0
  have y0 : W0.cell? ⟨w.heap.size, 0, none⟩ = some (.string gi) := cell_of_block q0 0
  have y1 : W0.cell? ⟨w.heap.size, 1, none⟩ = some (.slice pa pn pc) := cell_of_block q0 1
  have y2 : W0.cell? ⟨w.heap.size, 2, none⟩ = some (.int .i64 t) := cell_of_block q0 2
  have y3 : W0.cell? ⟨w.heap.size, 3, none⟩ = some (.int .i64 e) := cell_of_block q0 3
  have y4 : W0.cell? ⟨w.heap.size, 4, none⟩ = some (.int .i64 n) := cell_of_block q0 4
  have y5 : W0.cell? ⟨w.heap.size, 5, none⟩ = some (.slice la ins.length lc) := cell_of_block q0 5
  have Hx := Lib.hid hx
  clear hx q0
  go_enter Tryz.func67, Tryz.ntmps67
  go_upto_region 1 with (fail)
  rw [← hW0]
  clear hW0
  by_cases h : e ≤ n
  · have Hd : Hid (decide (e ≤ n) = true) := decide_eq_true h
    go_wp2_with fail
    go_ret
    exact ⟨by rw [Hd.out]; rfl, Hx.out⟩
  · have Hd : Hid (decide (e ≤ n) = false) := decide_eq_false h
    go_wp2_with fail
    go_ret
    exact ⟨by rw [Hd.out]; rfl, Hx.out⟩
set_option maxRecDepth 100000 in
set_option maxHeartbeats 2000000 in
theorem r_must (gi : ByteArray) (t e n : Int) (pa : Option Addr) (pn pc : Nat) (la : Option Addr) (lc : Nat) (ins : List ByteArray) (ex xp : Bool) (w : World) :
    Calls Tryz.prog 68 #[.agg #[.string gi, .slice pa pn pc, .int .i64 t, .int .i64 e, .int .i64 n, .slice la ins.length lc], .bool ex, .bool xp] w fun en w' => en = .returned (.bool (mustB t e n ex xp)) ∧ Fr No w w' := by
  have hx : Fr No w (w.alloc (.cells #[.string gi, .slice pa pn pc, .int .i64 t, .int .i64 e, .int .i64 n, .slice la ins.length lc] 42)) := (Fr.refl _ _).alloc _
  have q0 := block_alloc w (.cells #[.string gi, .slice pa pn pc, .int .i64 t, .int .i64 e, .int .i64 n, .slice la ins.length lc] 42)
  obtain ⟨W0, hW0⟩ : ∃ W0, W0 = w.alloc (.cells #[.string gi, .slice pa pn pc, .int .i64 t, .int .i64 e, .int .i64 n, .slice la ins.length lc] 42) := ⟨_, rfl⟩
  rw [← hW0] at hx q0
  have y0 : W0.cell? ⟨w.heap.size, 0, none⟩ = some (.string gi) := cell_of_block q0 0
  have y1 : W0.cell? ⟨w.heap.size, 1, none⟩ = some (.slice pa pn pc) := cell_of_block q0 1
  have y2 : W0.cell? ⟨w.heap.size, 2, none⟩ = some (.int .i64 t) := cell_of_block q0 2
  have y3 : W0.cell? ⟨w.heap.size, 3, none⟩ = some (.int .i64 e) := cell_of_block q0 3
  have y4 : W0.cell? ⟨w.heap.size, 4, none⟩ = some (.int .i64 n) := cell_of_block q0 4
  have y5 : W0.cell? ⟨w.heap.size, 5, none⟩ = some (.slice la ins.length lc) := cell_of_block q0 5
  have hw := r_whole gi t e n pa pn pc la lc ins W0
  have hcl : ∀ W : World, Fr No W0 W → W.heap[w.heap.size]? = some (.cells #[.string gi, .slice pa pn pc, .int .i64 t, .int .i64 e, .int .i64 n, .slice la ins.length lc] 42) := fun W hf => hf.heap q0 id
  have Hcl := Lib.hid hcl
  have Hx := Lib.hid hx
  obtain ⟨rb, hrb⟩ : ∃ rb, rb = mustB t e n ex xp := ⟨_, rfl⟩
  rw [← hrb]
  have Hrb := Lib.hid hrb
  clear hx q0 hcl hrb
  go_enter Tryz.func68, Tryz.ntmps68
  go_upto_region 1 with (fail)
  rw [← hW0]
  clear hW0
  go_wp2_with fail
  refine hw.mono ?_
  rintro en w1 ⟨rfl, hf1⟩
  clear y0 y1 y2 y3 y4 y5
  have hq := Hcl.out w1 hf1
  have y0 := cell_of_block hq 0
  have y1 := cell_of_block hq 1
  have y2 := cell_of_block hq 2
  have y3 := cell_of_block hq 3
  have y4 := cell_of_block hq 4
  have y5 := cell_of_block hq 5
  have Hf1 := Lib.hid (Hx.out.step hf1 (fun _ _ h => h))
  have he := r_enough gi t e n pa pn pc la lc ins w1
  clear hw hf1 hq
  cases h1 : decide (n = t) with
  | true =>
    have Hv : Hid (rb = true) := by unfold Hid; rw [Hrb.out, mustB, h1]; rfl
    clear h1 he
    go_wp2_with fail
    go_ret
    exact ⟨by rw [Hv.out]; rfl, Hf1.out⟩
  | false =>
    have Hm : Hid (rb = (decide (e ≤ n) && (ex || xp))) := by unfold Hid; rw [Hrb.out, mustB, h1]; rfl
    clear h1
    go_wp2_with fail
    refine he.mono ?_
    rintro en w2 ⟨rfl, hf2⟩
    have Hf2 := Lib.hid (Hf1.out.step hf2 (fun _ _ h => h))
    clear he hf2 y0 y1 y2 y3 y4 y5
    cases h2 : decide (e ≤ n) with
    | false =>
      have Hv : Hid (rb = false) := by unfold Hid; rw [Hm.out, h2]; rfl
      clear h2
      go_wp2_with fail
      go_ret
      exact ⟨by rw [Hv.out]; rfl, Hf2.out⟩
    | true =>
      have Hv : Hid (rb = (ex || xp)) := by unfold Hid; rw [Hm.out, h2]; rfl
      clear h2
      cases ex <;> cases xp <;>
        (go_wp2_with fail
         go_ret
         exact ⟨by rw [Hv.out]; rfl, Hf2.out⟩)
set_option maxRecDepth 100000 in
set_option maxHeartbeats 2000000 in
theorem r_want (gi : ByteArray) (t e n rd : Int) (pa : Option Addr) (pn pc : Nat) (la : Option Addr) (lc : Nat) (ins : List ByteArray) (w : World) (hid : gi.size ≤ 1000000) (hS : Strs w la lc ins) :
    Calls Tryz.prog 70 #[.agg #[.string gi, .slice pa pn pc, .int .i64 t, .int .i64 e, .int .i64 n, .slice la ins.length lc], .int .i64 rd] w fun en w' => en = .returned (.agg (mdOf gi ins rd).vals) ∧ Fr No w w' := by
  have hx1 : Fr No w ((w.alloc (.cells #[.string gi, .slice pa pn pc, .int .i64 t, .int .i64 e, .int .i64 n, .slice la ins.length lc] 42)).alloc (.cells #[.string ⟨#[]⟩, .string ⟨#[]⟩, .string ⟨#[]⟩, .int .i64 0] 64)) := ((Fr.refl _ _).alloc _).alloc _
  have q2 := block_alloc1 w (.cells #[.string gi, .slice pa pn pc, .int .i64 t, .int .i64 e, .int .i64 n, .slice la ins.length lc] 42) (.cells #[.string ⟨#[]⟩, .string ⟨#[]⟩, .string ⟨#[]⟩, .int .i64 0] 64)
  have q4 := block_alloc2 w (.cells #[.string gi, .slice pa pn pc, .int .i64 t, .int .i64 e, .int .i64 n, .slice la ins.length lc] 42) (.cells #[.string ⟨#[]⟩, .string ⟨#[]⟩, .string ⟨#[]⟩, .int .i64 0] 64)
  have hs1 : ((w.alloc (.cells #[.string gi, .slice pa pn pc, .int .i64 t, .int .i64 e, .int .i64 n, .slice la ins.length lc] 42)).alloc (.cells #[.string ⟨#[]⟩, .string ⟨#[]⟩, .string ⟨#[]⟩, .int .i64 0] 64)).heap.size = w.heap.size + 2 := by simp
  have hil := hS.lenmax
  have hz : ¬ 9223372036854775807 < 3 + gi.size := by omega
  have Hmd : Hid (mdOf gi ins rd = ⟨⟨#[]⟩, (⟨#[109, 100, 45]⟩ : ByteArray) ++ gi, ins.headD ⟨#[]⟩, rd⟩) := rfl
  obtain ⟨W0, hW0⟩ : ∃ W0, W0 = (w.alloc (.cells #[.string gi, .slice pa pn pc, .int .i64 t, .int .i64 e, .int .i64 n, .slice la ins.length lc] 42)).alloc (.cells #[.string ⟨#[]⟩, .string ⟨#[]⟩, .string ⟨#[]⟩, .int .i64 0] 64) := ⟨_, rfl⟩
  rw [← hW0] at hx1 q2 q4 hs1
  have hS0 := hS.no hx1 (fun _ => id)
  have hs1' : w.heap.size + 2 ≤ W0.heap.size := by omega
  have y0 : W0.cell? ⟨w.heap.size, 0, none⟩ = some (.string gi) := cell_of_block q2 0
  clear hs1
  go_enter Tryz.func70, Tryz.ntmps70
  go_upto_region 1 with (fail)
  rw [← hW0]
  clear hW0
  have hx2 : Fr No W0 (W0.alloc (.cells #[.string ⟨#[]⟩, .string ((⟨#[109, 100, 45]⟩ : ByteArray) ++ gi), .string ⟨#[]⟩, .int .i64 rd] 64)) := (Fr.refl _ _).alloc _
  have q5 := block_alloc W0 (.cells #[.string ⟨#[]⟩, .string ((⟨#[109, 100, 45]⟩ : ByteArray) ++ gi), .string ⟨#[]⟩, .int .i64 rd] 64)
  have q2' := hx2.heap q2 id
  have q4' := hx2.heap q4 id
  have hs2 := lt_of_block q5
  obtain ⟨W1, hW1⟩ : ∃ W1, W1 = W0.alloc (.cells #[.string ⟨#[]⟩, .string ((⟨#[109, 100, 45]⟩ : ByteArray) ++ gi), .string ⟨#[]⟩, .int .i64 rd] 64) := ⟨_, rfl⟩
  rw [← hW1] at hx2 q5 q2' q4' hs2
  have hS1 := hS0.no hx2 (fun _ => id)
  have Hx := Lib.hid (hx1.step hx2 (fun _ _ h => h))
  go_upto_region 2 with (fail)
  rw [← hW1]
  clear hW1 y0 hx1 hx2 hS hS0 q2 q4
  have x5 : W1.cell? ⟨w.heap.size, 5, none⟩ = some (.slice la ins.length lc) := cell_of_block q2' 5
  rcases ins with _ | ⟨c, ir⟩
  · have x5' : W1.cell? ⟨w.heap.size, 5, none⟩ = some (.slice la 0 lc) := x5
    clear x5
    have u0 : W1.cell? ⟨W0.heap.size, 0, none⟩ = some (.string ⟨#[]⟩) := cell_of_block q5 0
    have u1 : W1.cell? ⟨W0.heap.size, 1, none⟩ = some (.string ((⟨#[109, 100, 45]⟩ : ByteArray) ++ gi)) := cell_of_block q5 1
    have u2 : W1.cell? ⟨W0.heap.size, 2, none⟩ = some (.string ⟨#[]⟩) := cell_of_block q5 2
    have u3 : W1.cell? ⟨W0.heap.size, 3, none⟩ = some (.int .i64 rd) := cell_of_block q5 3
    have b0 : W1.cell? ⟨w.heap.size + 1, 0, none⟩ = some (.string ⟨#[]⟩) := cell_of_block q4' 0
    have b1 : W1.cell? ⟨w.heap.size + 1, 1, none⟩ = some (.string ⟨#[]⟩) := cell_of_block q4' 1
    have b2 : W1.cell? ⟨w.heap.size + 1, 2, none⟩ = some (.string ⟨#[]⟩) := cell_of_block q4' 2
    have b3 : W1.cell? ⟨w.heap.size + 1, 3, none⟩ = some (.int .i64 0) := cell_of_block q4' 3
    have f0 : W1.frozen? ⟨w.heap.size + 1, 0, none⟩ = false := free_of_block q4' 0
    have f1 : W1.frozen? ⟨w.heap.size + 1, 1, none⟩ = false := free_of_block q4' 1
    have f2 : W1.frozen? ⟨w.heap.size + 1, 2, none⟩ = false := free_of_block q4' 2
    have f3 : W1.frozen? ⟨w.heap.size + 1, 3, none⟩ = false := free_of_block q4' 3
    have h4 := set4 q4' rfl (.string ⟨#[]⟩) (.string ((⟨#[109, 100, 45]⟩ : ByteArray) ++ gi)) (.string ⟨#[]⟩) (.int .i64 rd)
    have HF := Lib.hid (((Hx.out.mono (T := From w.heap.size) (fun _ _ h => h.elim)).step h4.2 (fun b _ h => by unfold Is at h; unfold From; omega)).mono (T := No) (fun b hb h => by unfold From at h; omega))
    have Hq := Lib.hid h4.1
    clear h4
    go_wp2_with fail
    have y0 := cell_of_block Hq.out 0
    have y1 := cell_of_block Hq.out 1
    have y2 := cell_of_block Hq.out 2
    have y3 := cell_of_block Hq.out 3
    refine bodyPost_ret (v := .agg #[.string ⟨#[]⟩, .string ((⟨#[109, 100, 45]⟩ : ByteArray) ++ gi), .string ⟨#[]⟩, .int .i64 rd]) (by simp [results, Tryz.results70, go_sem, y0, y1, y2, y3]) rfl ?_
    exact ⟨by rw [Hmd.out]; rfl, HF.out⟩
  · have hlt : (0 : Int) < ((c :: ir).length : Nat) := by first | (simp; done) | (simp; omega)
    obtain ⟨b, off, x, rfl, hx0, hc⟩ := hS1.at (k := 0) (by simp)
    obtain rfl : c = x := by simpa using hx0
    rw [Nat.add_zero] at hc
    clear hx0
    have z2 : W1.cell? ⟨W0.heap.size, 2, none⟩ = some (.string ⟨#[]⟩) := cell_of_block q5 2
    have f2 : W1.frozen? ⟨W0.heap.size, 2, none⟩ = false := free_of_block q5 2
    have hfs : Fr (Is W0.heap.size) W1 (W1.setCell ⟨W0.heap.size, 2, none⟩ (.string c)) := Fr.setCell (S := Is W0.heap.size) (p := ⟨W0.heap.size, 2, none⟩) (Fr.refl _ _) (fun _ => rfl) _
    have q5b : (W1.setCell ⟨W0.heap.size, 2, none⟩ (.string c)).heap[W0.heap.size]? = some (.cells #[.string ⟨#[]⟩, .string ((⟨#[109, 100, 45]⟩ : ByteArray) ++ gi), .string c, .int .i64 rd] 64) := block_setCell q5 2 (.string c)
    have q4b := hfs.heap q4' (fun e => by unfold Is at e; omega)
    have Hx2 := Lib.hid ((Hx.out.mono (T := From w.heap.size) (fun _ _ h => h.elim)).step hfs (fun b _ h => by unfold Is at h; unfold From; omega))
    generalize hlen : (c :: ir).length = nl at *
    clear hfs q5 q4' q2' hS1 Hx
    go_upto_region 4 with (fail)
    generalize W1.setCell ⟨W0.heap.size, 2, none⟩ (.string c) = Wb at *
    clear z2 f2 x5 hc
    have u0 : Wb.cell? ⟨W0.heap.size, 0, none⟩ = some (.string ⟨#[]⟩) := cell_of_block q5b 0
    have u1 : Wb.cell? ⟨W0.heap.size, 1, none⟩ = some (.string ((⟨#[109, 100, 45]⟩ : ByteArray) ++ gi)) := cell_of_block q5b 1
    have u2 : Wb.cell? ⟨W0.heap.size, 2, none⟩ = some (.string c) := cell_of_block q5b 2
    have u3 : Wb.cell? ⟨W0.heap.size, 3, none⟩ = some (.int .i64 rd) := cell_of_block q5b 3
    have b0 : Wb.cell? ⟨w.heap.size + 1, 0, none⟩ = some (.string ⟨#[]⟩) := cell_of_block q4b 0
    have b1 : Wb.cell? ⟨w.heap.size + 1, 1, none⟩ = some (.string ⟨#[]⟩) := cell_of_block q4b 1
    have b2 : Wb.cell? ⟨w.heap.size + 1, 2, none⟩ = some (.string ⟨#[]⟩) := cell_of_block q4b 2
    have b3 : Wb.cell? ⟨w.heap.size + 1, 3, none⟩ = some (.int .i64 0) := cell_of_block q4b 3
    have f0 : Wb.frozen? ⟨w.heap.size + 1, 0, none⟩ = false := free_of_block q4b 0
    have f1 : Wb.frozen? ⟨w.heap.size + 1, 1, none⟩ = false := free_of_block q4b 1
    have f2 : Wb.frozen? ⟨w.heap.size + 1, 2, none⟩ = false := free_of_block q4b 2
    have f3 : Wb.frozen? ⟨w.heap.size + 1, 3, none⟩ = false := free_of_block q4b 3
    have h4 := set4 q4b rfl (.string ⟨#[]⟩) (.string ((⟨#[109, 100, 45]⟩ : ByteArray) ++ gi)) (.string c) (.int .i64 rd)
    have HF := Lib.hid ((Hx2.out.step h4.2 (fun b _ h => by unfold Is at h; unfold From; omega)).mono (T := No) (fun b hb h => by unfold From at h; omega))
    have Hq := Lib.hid h4.1
    clear h4
    go_wp2_with fail
    have y0 := cell_of_block Hq.out 0
    have y1 := cell_of_block Hq.out 1
    have y2 := cell_of_block Hq.out 2
    have y3 := cell_of_block Hq.out 3
    refine bodyPost_ret (v := .agg #[.string ⟨#[]⟩, .string ((⟨#[109, 100, 45]⟩ : ByteArray) ++ gi), .string c, .int .i64 rd]) (by simp [results, Tryz.results70, go_sem, y0, y1, y2, y3]) rfl ?_
    exact ⟨by rw [Hmd.out]; rfl, HF.out⟩

end Go.Proofs.YtbblkknndaoefaaGreatDoor
