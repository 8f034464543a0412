/- tree.look, tree.Origin. -/
import Derived.Test.YtanaompgapiikaaGreatDoorL1
import Derived.Test.YtanaompgapiikaaGreatDoorTB
namespace Go.Proofs.YtanaompgapiikaaGreatDoor
open Go.RowKit Go.Maps
set_option linter.unusedVariables false

def stepO (g : Int → Option ByteArray) (d : Dev) : Int → Option ByteArray := updO g d.index ((g d.parent).getD ⟨#[]⟩ ++ ⟨#[47]⟩ ++ d.orig)
/-- The origins, as look reckons them. -/
def ogs (l : List Dev) : Int → Option ByteArray := l.foldl stepO (fun _ => none)
/-- The path of a list of names. -/
def pathOf (l : List ByteArray) : ByteArray := l.foldl (fun s x => s ++ ⟨#[47]⟩ ++ x) ⟨#[]⟩
def plcs (ds : List Dev) (k : Nat) : Int → Option Int := fun n => (look (ds.take k) n).map fun _ => place ds n

theorem ogs_snoc (l : List Dev) (d : Dev) : ogs (l ++ [d]) = stepO (ogs l) d := by unfold ogs; rw [List.foldl_append]; rfl
theorem ogs_size {ds : List Dev} (h : ∀ d ∈ ds, d.orig.size ≤ 32) : ∀ (k : Nat) (n : Int), ((ogs (ds.take k) n).getD ⟨#[]⟩).size ≤ 33 * k
  | 0, n => by show (ByteArray.mk #[]).size ≤ _; exact Nat.zero_le _
  | k + 1, n => by
    by_cases hk : k < ds.length
    · have e : ds.take (k + 1) = ds.take k ++ [ds[k]] := by rw [List.take_add_one, List.getElem?_eq_getElem hk]; rfl
      have h1 := ogs_size h k ds[k].parent
      have h2 := ogs_size h k n
      have h3 := h ds[k] (List.getElem_mem hk)
      rw [e, ogs_snoc]
      unfold stepO updO
      split
      · simp only [Option.getD_some, ByteArray.size_append]
        have : (⟨#[47]⟩ : ByteArray).size = 1 := rfl
        omega
      · omega
    · have h2 := ogs_size h k n
      rw [List.take_of_length_le (by omega)] at h2 ⊢
      omega
theorem look_take {ds : List Dev} (hnd : (ds.map Dev.index).Nodup) {k : Nat} {d : Dev} (hd : ds[k]? = some d) (n : Int) : look (ds.take (k + 1)) n = if n = d.index then some d else look (ds.take k) n := by
  have e : ds.take (k + 1) = ds.take k ++ [d] := by rw [List.take_add_one, hd]; rfl
  have hnd' : ((ds.take k ++ [d]).map Dev.index).Nodup := by rw [← e]; exact (List.Sublist.map _ (List.take_sublist _ _)).nodup hnd
  rw [e]
  unfold look
  rw [List.find?_append]
  by_cases hn : n = d.index
  · rw [if_pos hn]
    have : (ds.take k).find? (fun x => decide (x.index = n)) = none := by
      rw [List.find?_eq_none]
      intro x hx hxn
      simp only [decide_eq_true_eq] at hxn
      rw [List.map_append, List.nodup_append] at hnd'
      exact hnd'.2.2 x.index (List.mem_map_of_mem hx) d.index (by simp) (by rw [hxn, hn])
    rw [this]; simp [hn]
  · rw [if_neg hn]
    have : ([d].find? (fun x => decide (x.index = n))) = none := by simp; exact fun h => hn h.symm
    rw [this]; simp
theorem plcs_step {ds : List Dev} (hT : TreeOk ds) {k : Nat} {d : Dev} (hd : ds[k]? = some d) : plcs ds (k + 1) = updO (plcs ds k) d.index (k : Int) := by
  funext n
  unfold plcs updO
  rw [look_take hT.nd hd]
  split
  · rename_i e
    subst e
    rcases place_look ds d.index with ⟨h1, h2⟩ | ⟨j, x, h1, h2, h3⟩
    · rw [hT.lk (List.mem_of_getElem? hd)] at h1; cases h1
    · rw [hT.lk (List.mem_of_getElem? hd)] at h1; cases h1
      rw [h2]
      have hj : j < ds.length := (List.getElem?_eq_some_iff.1 h3).1
      have hk : k < ds.length := (List.getElem?_eq_some_iff.1 hd).1
      have hp := List.pairwise_iff_getElem.1 hT.nd
      have e1 : ds[j].index = ds[k].index := by
        rw [List.getElem?_eq_getElem hj] at h3; rw [List.getElem?_eq_getElem hk] at hd
        rw [Option.some.inj h3, Option.some.inj hd]
      rcases Nat.lt_trichotomy j k with h | rfl | h
      · have hq := hp j k (by simpa using hj) (by simpa using hk) h
        rw [List.getElem_map, List.getElem_map] at hq
        exact absurd e1 hq
      · rfl
      · have hq := hp k j (by simpa using hk) (by simpa using hj) h
        rw [List.getElem_map, List.getElem_map] at hq
        exact absurd e1.symm hq
  · rfl
/-- What look's map of origins holds. -/
theorem ogs_eq {ds : List Dev} (hT : TreeOk ds) : ∀ (k : Nat), k ≤ ds.length → ∀ n, ogs (ds.take k) n = (look (ds.take k) n).map fun _ => pathOf (origin ds n)
  | 0, _, n => by simp [ogs, look]
  | k + 1, hk, n => by
    have hlt : k < ds.length := by omega
    have hd : ds[k]? = some ds[k] := List.getElem?_eq_getElem hlt
    have e : ds.take (k + 1) = ds.take k ++ [ds[k]] := by rw [List.take_add_one, hd]; rfl
    have ih := ogs_eq hT k (by omega)
    rw [look_take hT.nd hd, e, ogs_snoc]
    unfold stepO updO
    split
    · rename_i hn
      have ho : pathOf (origin ds n) = pathOf (origin ds ds[k].parent) ++ ⟨#[47]⟩ ++ ds[k].orig := by
        rw [hn, hT.origin_cons (hT.lk (List.getElem_mem hlt))]
        unfold pathOf; rw [List.foldl_append]; rfl
      have hp : (ogs (ds.take k) ds[k].parent).getD ⟨#[]⟩ = pathOf (origin ds ds[k].parent) := by
        rw [ih]
        rcases hT.pa k _ hd with h0 | ⟨j, f, hj, hf, hfi⟩
        · have hz : look (ds.take k) ds[k].parent = none := by
            rw [h0, look_none]; intro x hx e; have := (hT.ix x (List.mem_of_mem_take hx)).1; omega
          rw [hz, h0, TreeOk.origin_none hT.zero]; rfl
        · have hm : f ∈ ds.take k := by
            have : (ds.take k)[j]? = some f := by rw [List.getElem?_take_of_lt hj]; exact hf
            exact List.mem_of_getElem? this
          have hnd : ((ds.take k).map Dev.index).Nodup := (List.Sublist.map _ (List.take_sublist _ _)).nodup hT.nd
          have := look_of_nodup hnd hm
          rw [hfi] at this
          rw [this]; rfl
      rw [hp, ho]; rfl
    · exact ih n
theorem TreeOk.pwf {ds : List Dev} (h : TreeOk ds) {d : Dev} (hd : d ∈ ds) : (Lit.int .i64 d.parent).wf = true := by
  obtain ⟨k, hk⟩ := List.getElem?_of_mem hd
  rcases h.pa k d hk with h0 | ⟨j, e, _, he, hi⟩
  · rw [h0]; decide
  · rw [← hi]
    have := h.ix e (List.mem_of_getElem? he)
    exact WalkArith.wf_i64 (by omega)
theorem TreeOk.iwf {ds : List Dev} (h : TreeOk ds) {d : Dev} (hd : d ∈ ds) : (Lit.int .i64 d.index).wf = true := by
  have := h.ix d hd
  exact WalkArith.wf_i64 (by omega)

/-- What look hands back. -/
def ViewAt (w w' : World) (a : Option Addr) (cap : Nat) (ds : List Dev) (e : Ending) : Prop :=
  ∃ m1 m2, e = .returned (.agg #[.slice a ds.length cap, .map (some m1), .map (some m2)]) ∧ w.heap.size ≤ m1 ∧ w.heap.size ≤ m2 ∧ m1 ≠ m2 ∧ IMap w' m1 (plcs ds ds.length) ds.length ∧ SMap w' m2 (ogs ds) ds.length

def Two2 (x y : Nat) : Nat → Prop := fun b => b = x ∨ b = y

set_option maxRecDepth 100000 in
set_option maxHeartbeats 2000000 in
theorem tree_look (a : Option Addr) (cap : Nat) (ds : List Dev) (w : World) (hl : Devs w a cap ds) (hT : TreeOk ds) (hn : ds.length ≤ 1000) :
    Calls Tryz.prog 107 #[.agg #[.slice a ds.length cap]] w fun e w' => ViewAt w w' a cap ds e ∧ Fr No w w' := by
  have hmm := @run_makeMap Tryz.prog
  have hm := hl.lenmax
  go_enter Tryz.func107, Tryz.ntmps107
  go_wp2_with fail
  have Hok := Lib.hid hT
  have Hn := Lib.hid hn
  clear hT hn
  go_loopw [15] (fun i wr => ∃ k : Nat, k ≤ ds.length ∧ i = .int .i64 k ∧ IMap wr (w.heap.size + 1 + 1) (plcs ds k) k ∧ SMap wr (w.heap.size + 1 + 1 + 1) (ogs (ds.take k)) k ∧
    wr.heap[w.heap.size + 1 + 1 + 1 + 1]? = some (.cells #[.slice a ds.length cap, .map (some (w.heap.size + 1 + 1)), .map (some (w.heap.size + 1 + 1 + 1))] 160) ∧
    wr.heap[w.heap.size + 1]? = some (.cells #[.slice none 0 0, .map none, .map none] 160) ∧ Fr No w wr) (fun i _ => ds.length - (intOf i).toNat)
  case atStart =>
    have s1 : (w.alloc (.cells #[.slice a ds.length cap] 25)).heap.size = w.heap.size + 1 := by simp
    have s2 : ((w.alloc (.cells #[.slice a ds.length cap] 25)).alloc (.cells #[.slice none 0 0, .map none, .map none] 160)).heap.size = w.heap.size + 1 + 1 := by simp
    have s3 : (((w.alloc (.cells #[.slice a ds.length cap] 25)).alloc (.cells #[.slice none 0 0, .map none, .map none] 160)).alloc (.map #[] 0)).heap.size = w.heap.size + 1 + 1 + 1 := by simp
    have s4 : ((((w.alloc (.cells #[.slice a ds.length cap] 25)).alloc (.cells #[.slice none 0 0, .map none, .map none] 160)).alloc (.map #[] 0)).alloc (.map #[] 0)).heap.size = w.heap.size + 1 + 1 + 1 + 1 := by simp
    refine ⟨0, by omega, rfl, ?_, ?_, ?_, ?_, ?_⟩
    · have h := IMap.made ((w.alloc (.cells #[.slice a ds.length cap] 25)).alloc (.cells #[.slice none 0 0, .map none, .map none] 160))
      rw [s2] at h
      exact (h.fr ((Fr.refl No _).alloc (.map #[] 0)) id).fr ((Fr.refl No _).alloc (.cells #[.slice a ds.length cap, .map (some (w.heap.size + 1 + 1)), .map (some (w.heap.size + 1 + 1 + 1))] 160)) id
    · have h := SMap.made (((w.alloc (.cells #[.slice a ds.length cap] 25)).alloc (.cells #[.slice none 0 0, .map none, .map none] 160)).alloc (.map #[] 0))
      rw [s3] at h
      exact h.fr ((Fr.refl No _).alloc (.cells #[.slice a ds.length cap, .map (some (w.heap.size + 1 + 1)), .map (some (w.heap.size + 1 + 1 + 1))] 160)) id
    · have h := block_alloc ((((w.alloc (.cells #[.slice a ds.length cap] 25)).alloc (.cells #[.slice none 0 0, .map none, .map none] 160)).alloc (.map #[] 0)).alloc (.map #[] 0)) (.cells #[.slice a ds.length cap, .map (some (w.heap.size + 1 + 1)), .map (some (w.heap.size + 1 + 1 + 1))] 160)
      rw [s4] at h
      exact h
    · have h := block_alloc (w.alloc (.cells #[.slice a ds.length cap] 25)) (.cells #[.slice none 0 0, .map none, .map none] 160)
      rw [s1] at h
      exact ((((Fr.refl No _).alloc (.map #[] 0)).alloc (.map #[] 0)).alloc (.cells #[.slice a ds.length cap, .map (some (w.heap.size + 1 + 1)), .map (some (w.heap.size + 1 + 1 + 1))] 160)).heap h id
    · repeat (first | exact Fr.refl _ _ | refine Fr.alloc ?_ _)
  case round =>
    obtain ⟨k, hk, rfl, hI, hS, h3, h2, hfr⟩ := hrel
    have v0 : wr.cell? ⟨w.heap.size + 1 + 1 + 1 + 1, 0, none⟩ = some (.slice a ds.length cap) := by simp [World.cell?, h3]
    have v1 : wr.cell? ⟨w.heap.size + 1 + 1 + 1 + 1, 1, none⟩ = some (.map (some (w.heap.size + 1 + 1))) := by simp [World.cell?, h3]
    have v2 : wr.cell? ⟨w.heap.size + 1 + 1 + 1 + 1, 2, none⟩ = some (.map (some (w.heap.size + 1 + 1 + 1))) := by simp [World.cell?, h3]
    have r0 : wr.cell? ⟨w.heap.size + 1, 0, none⟩ = some (.slice none 0 0) := by simp [World.cell?, h2]
    have r1 : wr.cell? ⟨w.heap.size + 1, 1, none⟩ = some (.map none) := by simp [World.cell?, h2]
    have r2 : wr.cell? ⟨w.heap.size + 1, 2, none⟩ = some (.map none) := by simp [World.cell?, h2]
    have q0 : wr.frozen? ⟨w.heap.size + 1, 0, none⟩ = false := free_of_block h2 0
    have q1 : wr.frozen? ⟨w.heap.size + 1, 1, none⟩ = false := free_of_block h2 1
    have q2 : wr.frozen? ⟨w.heap.size + 1, 2, none⟩ = false := free_of_block h2 2
    by_cases hlt : k < ds.length
    · have hlt' : (k : Int) < ds.length := by omega
      obtain ⟨bb, off, d, rfl, hd, c0, c1, c2, c3, c4, c5, c6, c7, c8, c9⟩ := (hl.no hfr (fun _ => id)).dev hlt
      have Hd := Lib.hid hd
      have hpw := Hok.out.pwf (List.mem_of_getElem? hd)
      have hiw := Hok.out.iwf (List.mem_of_getElem? hd)
      have hs1 := ogs_size Hok.out.sz k d.parent
      have hs2 := Hok.out.sz d (List.mem_of_getElem? hd)
      have hn' := Hn.out
      clear hd
      have hSa := hS.fr ((Fr.refl No _).alloc (.cells #[.int .i64 d.index, .int .i64 d.parent, .string d.name, .string d.orig, .string d.sub, .string d.drv, .string d.ali, .int .i64 d.kind, .int .i64 d.num, .slice d.aa d.an d.ac] 36)) id
      have hA : Fr No wr (wr.alloc (.cells #[.int .i64 d.index, .int .i64 d.parent, .string d.name, .string d.orig, .string d.sub, .string d.drv, .string d.ali, .int .i64 d.kind, .int .i64 d.num, .slice d.aa d.an d.ac] 36)) := (Fr.refl No _).alloc _
      have v1a := hA.cell v1 id
      have v2a := hA.cell v2 id
      have hfa := Lib.hid (hfr.step hA (fun _ _ h => h))
      have h3a := Lib.hid (hA.heap h3 id)
      have h2a := Lib.hid (hA.heap h2 id)
      have hIa := hI.fr hA id
      have hnb : (Tryz.prog.info? 36).isSome = true := by kernel_rfl
      clear hA hnb
      go_wp2_with (at_lookup; refine wp_smap rfl _ _ 105 rfl rfl (w.heap.size + 1 + 1 + 1) _ k d.parent hpw rfl hSa rfl ?_)
      refine region_sig (Two2 (w.heap.size + 1 + 1) (w.heap.size + 1 + 1 + 1)) [(0, false), (1, false), (2, false), (3, false), (4, false), (5, false), (6, false), (7, false), (8, false), (9, false), (10, true), (11, true)] (by kernel_rfl) (by kernel_rfl) (fun w0 hf0 => ?_)
      have hI0 := hIa.fr hf0 id
      have hS0 := hSa.fr hf0 id
      have hfr0 := hfa.out.step hf0 (fun _ _ h => h)
      have hsz0 : w.heap.size + 1 + 1 + 1 + 1 < wr.heap.size := lt_of_block h3
      have d1 : ∀ g : Gr (Two2 (w.heap.size + 1 + 1) (w.heap.size + 1 + 1 + 1)) w0, g.W.cell? ⟨w.heap.size + 1 + 1 + 1 + 1, 1, none⟩ = some (.map (some (w.heap.size + 1 + 1))) := fun g => g.fr.cell (hf0.cell v1a id) (fun h => by unfold Two2 at h; dsimp only at h; omega)
      have d2 : ∀ g : Gr (Two2 (w.heap.size + 1 + 1) (w.heap.size + 1 + 1 + 1)) w0, g.W.cell? ⟨w.heap.size + 1 + 1 + 1 + 1, 2, none⟩ = some (.map (some (w.heap.size + 1 + 1 + 1))) := fun g => g.fr.cell (hf0.cell v2a id) (fun h => by unfold Two2 at h; dsimp only at h; omega)
      have d5 : ∀ g : Gr (Two2 (w.heap.size + 1 + 1) (w.heap.size + 1 + 1 + 1)) w0, g.W.cell? ⟨wr.heap.size, 0, none⟩ = some (.int .i64 d.index) := fun g => g.fr.cell (hf0.cell (by rw [cell_of_block (block_alloc _ _)]; rfl) id) (fun h => by unfold Two2 at h; dsimp only at h; omega)
      have h3b := Lib.hid (hf0.heap h3a.out id)
      have h2b := Lib.hid (hf0.heap h2a.out id)
      obtain ⟨DI, nI, hnI, hoI, hI1, hI2⟩ := hI0
      obtain ⟨DS, nS, hnS, hoS, hS1, hS2⟩ := hS0
      have HI1 := Lib.hid hI1
      have HI2 := Lib.hid hI2
      have HS1 := Lib.hid hS1
      have HS2 := Lib.hid hS2
      have hkey := keyOf_int_mk Tryz.underlying3 hiw
      have Hfr0 := Lib.hid hfr0
      clear hI1 hI2 hS1 hS2 v0 v1 v2 r0 r1 r2 q0 q1 q2 h3 h2 v1a v2a hIa hSa hI hS hfr hfr0 c0 c1 c2 c3 c4 c5 c6 c7 c8 c9
      repeat (apply sig_q; exact rfl; exact rfl; exact rfl; intro K hK; go_big_quiet_op; go_big_quiet_on)
      apply sig_m
      exact rfl
      go_wp2_with (at_mapUpdate; refine wpList_mapUpdate_own _ rfl _ _ _ 158 rfl 3 3 lawI Tryz.underlying158 _ (w.heap.size + 1 + 1) nI DI rfl hoI (by unfold maxLen; omega) _ _ _ rfl rfl hkey _ [] (plainElem_int Tryz.underlying3 (WalkArith.wf_i64 (by omega))) ?_; intro w1 ho1 hg1)
      refine OnlyN.mk ⟨(Fr.of_grown_some hg1).mono (fun _ _ h => .inl h), ?_⟩
      apply sig_m
      exact rfl
      go_wp2_with (at_mapUpdate; refine wpList_mapUpdate_own _ rfl _ _ _ 105 rfl 3 9 lawI Tryz.underlying105 _ (w.heap.size + 1 + 1 + 1) nS DS rfl (hoS.kept hg1 (fun e => by have := Option.some.inj e; omega)) (by unfold maxLen; omega) _ _ _ rfl rfl hkey _ [] (plainElem_string Tryz.underlying9 (by simp only [ByteArray.size_append]; unfold maxLen; have : (⟨#[47]⟩ : ByteArray).size = 1 := rfl; omega)) ?_; intro w2 ho2 hg2)
      refine OnlyN.mk ⟨(Fr.of_grown_some hg2).mono (fun _ _ h => .inr h), ?_⟩
      refine sig_end ?_
      have hIn := (IMap.put hnI hoI HI1.out HI2.out d.index k ho1).fr (Fr.of_grown_some hg2) (fun h => by unfold Is at h; omega)
      have hSn := SMap.put hnS hoS HS1.out HS2.out d.index _ ho2
      have hF1 := Lib.hid (Fr.of_grown_some hg1)
      have hF2 := Lib.hid (Fr.of_grown_some hg2)
      go_wp2_with fail
      go_roundw
      case rel =>
        refine ⟨k + 1, by omega, by go_num, ?_, ?_, hF2.out.heap (hF1.out.heap h3b.out (by unfold Is; omega)) (by unfold Is; omega), hF2.out.heap (hF1.out.heap h2b.out (by unfold Is; omega)) (by unfold Is; omega),
          (Hfr0.out.step hF1.out (fun b hb h => by unfold Is at h; omega)).step hF2.out (fun b hb h => by unfold Is at h; omega)⟩
        · rw [plcs_step Hok.out Hd.out]; exact hIn
        · have e : ds.take (k + 1) = ds.take k ++ [d] := by rw [List.take_add_one, Hd.out]; rfl
          rw [e, ogs_snoc]; exact hSn
      case measure => simp [intOf]; omega
    · obtain rfl : k = ds.length := by omega
      clear hlt
      rw [List.take_of_length_le (Nat.le_refl _)] at hS
      have HI := Lib.hid hI
      have HS := Lib.hid hS
      clear hI hS
      go_wp2_with fail
      refine bodyPost_ret (v := .agg #[.slice a ds.length cap, .map (some (w.heap.size + 1 + 1)), .map (some (w.heap.size + 1 + 1 + 1))]) (by simp [results, Tryz.results107, go_sem, r0, r1, r2]) rfl ?_
      have hF : Fr (Is (w.heap.size + 1)) wr (((wr.setCell ⟨w.heap.size + 1, 0, none⟩ (.slice a ds.length cap)).setCell ⟨w.heap.size + 1, 1, none⟩ (.map (some (w.heap.size + 1 + 1)))).setCell ⟨w.heap.size + 1, 2, none⟩ (.map (some (w.heap.size + 1 + 1 + 1)))) := (((Fr.refl _ _).setAt _).setAt _).setAt _
      exact ⟨⟨_, _, rfl, by omega, by omega, by omega, HI.out.fr hF (by unfold Is; omega), HS.out.fr hF (by unfold Is; omega)⟩, hfr.step hF (fun b hb h => by unfold Is at h; omega)⟩
end Go.Proofs.YtanaompgapiikaaGreatDoor
