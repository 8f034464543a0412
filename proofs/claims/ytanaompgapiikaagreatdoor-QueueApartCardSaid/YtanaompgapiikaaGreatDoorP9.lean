/- coldplugref28.Recorded; what Free answers, plain. -/
import Derived.Test.YtanaompgapiikaaGreatDoorP8
namespace Go.Proofs.YtanaompgapiikaaGreatDoor
open Go.RowKit Go.Maps
set_option linter.unusedVariables false

/-- A device has a record of its Index and origin. -/
def recB (ds : List Dev) (l : List Rec) (n : Int) : Bool := l.any (Rec.is n (pathOf (origin ds n)))
theorem recB_at {ds : List Dev} {l : List Rec} {n : Int} {k : Nat} {r : Rec} (h : l[k]? = some r) (h2 : Rec.is n (pathOf (origin ds n)) r = true) : recB ds l n = true := by
  unfold recB; rw [List.any_eq_true]; exact ⟨r, List.mem_of_getElem? h, h2⟩
theorem recB_no {ds : List Dev} {l : List Rec} {n : Int} (h : ∀ x ∈ l, Rec.is n (pathOf (origin ds n)) x = false) : recB ds l n = false := by
  unfold recB; rw [List.any_eq_false]; intro x hx; simp [h x hx]

set_option maxRecDepth 100000 in
set_option maxHeartbeats 4000000 in
theorem ref_recorded (a ra : Option Addr) (cap rcap : Nat) (ds : List Dev) (l : List Rec) (n : Int) (w : World) (hl : Devs w a cap ds) (hT : TreeOk ds) (hn : ds.length ≤ 1000) (hr : Recs w ra rcap l) :
    Calls Tryz.prog 21 #[.agg #[.slice a ds.length cap], .slice ra l.length rcap, .int .i64 n] w fun e w' => e = .returned (.bool (recB ds l n)) ∧ Fr No w w' := by
  have hm := hr.lenmax
  have h0 : Fr No w (w.alloc (.cells #[.slice a ds.length cap] 25)) := (Fr.refl _ _).alloc _
  have q3 := block_alloc w (.cells #[.slice a ds.length cap] 25)
  have hl0 := hl.no h0 (fun _ => id)
  have hr0 := hr.no h0 (fun _ => id)
  go_enter Tryz.func21, Tryz.ntmps21
  go_wp2_with fail
  generalize w.alloc (.cells #[.slice a ds.length cap] 25) = W0 at *
  clear hl hr
  go_loopw [7] (fun i wr => ∃ k : Nat, k ≤ l.length ∧ i = .int .i64 (k : Int) ∧ Hid (∀ y ∈ l.take k, Rec.is n (pathOf (origin ds n)) y = false) ∧ Fr No W0 wr) (fun i _ => l.length - (intOf i).toNat)
  case atStart => exact ⟨0, by omega, rfl, by unfold Hid; simp, Fr.refl _ _⟩
  case round =>
    obtain ⟨k, hk, rfl, hno, hfr⟩ := hrel
    by_cases hlt : k < l.length
    · have hlt' : (k : Int) < l.length := by omega
      go_wp2_with fail
      refine region_sig No [(0, false), (1, false), (2, false), (3, false), (4, false), (5, false), (6, false), (7, false), (8, false), (9, false), (10, false), (11, false), (12, false), (13, false), (14, false), (15, true), (16, false), (17, false)] (by kernel_rfl) (by kernel_rfl) (fun w0 hf0 => ?_)
      have hf0w := hfr.step hf0 (fun _ _ h => h)
      obtain ⟨rb, ro, r, hra, hrk, hok, x0, x1, x2, x3, x4, x5, x6, x7, x8, x9, x10, x11⟩ := (hr0.no hf0w (fun _ => id)).elem hlt
      subst hra
      have g3 : ∀ g : Gr No w0, g.W.cell? ⟨w.heap.size, 0, none⟩ = some (.slice a ds.length cap) := fun g => g.fr.cell (cell_of_block (hf0w.heap q3 id) 0) id
      have gP : ∀ g : Gr No w0, g.W.cell? ⟨rb, ro + k * 12, none⟩ = some (.string r.path) := fun g => g.fr.cell x0 id
      have gI : ∀ g : Gr No w0, g.W.cell? ⟨rb, ro + k * 12 + 1, none⟩ = some (.int .i64 r.index) := fun g => g.fr.cell x1 id
      have hlD := hl0.no hf0w (fun _ => id)
      have Hrk := Lib.hid hrk
      have Hf0 := Lib.hid hf0w
      have hnx : Rec.is n (pathOf (origin ds n)) r = false → Hid (∀ y ∈ l.take (k + 1), Rec.is n (pathOf (origin ds n)) y = false) := by
        intro hb y hy
        rw [List.take_add_one, Hrk.out] at hy
        rcases List.mem_append.1 hy with h | h
        · exact hno.out y h
        · simp at h; subst h; exact hb
      have Hnx := Lib.hid hnx
      clear hrk x0 x1 x2 x3 x4 x5 x6 x7 x8 x9 x10 x11 hok hf0w hf0 hfr hnx
      rcases hix : (r.index == n) with _ | _
      · have Hm := Hnx.out (by unfold Rec.is; simp at hix; simp [hix])
        repeat (first | (apply sig_q; exact rfl; exact rfl; exact rfl; intro K hK; go_big_quiet_op; go_big_quiet_on) | (apply sig_skip; exact rfl; exact rfl; exact rfl; intro K hK; go_big_quiet_op; go_big_quiet_on))
        apply sig_m
        exact rfl
        go_wp2_with fail
        refine OnlyN.mk ⟨Fr.refl _ _, ?_⟩
        repeat (first | (apply sig_q; exact rfl; exact rfl; exact rfl; intro K hK; go_big_quiet_op; go_big_quiet_on) | (apply sig_skip; exact rfl; exact rfl; exact rfl; intro K hK; go_big_quiet_op; go_big_quiet_on))
        refine sig_end ?_
        clear g3 gP gI
        go_wp2_with fail
        go_roundw
        case rel => exact ⟨k + 1, by omega, by go_num, Hm, Hf0.out⟩
        case measure => simp [intOf]; omega
      · repeat (first | (apply sig_q; exact rfl; exact rfl; exact rfl; intro K hK; go_big_quiet_op; go_big_quiet_on) | (apply sig_skip; exact rfl; exact rfl; exact rfl; intro K hK; go_big_quiet_op; go_big_quiet_on))
        apply sig_m
        exact rfl
        clear g3 gP gI
        go_wp2_with fail
        refine (ref_place a cap ds n _ hlD hT (by omega)).mono ?_
        rintro e w2 ⟨rfl, hf2⟩
        obtain ⟨pp, hpp⟩ : ∃ pp, pp = pathOf (origin ds n) := ⟨_, rfl⟩
        rw [← hpp]
        have Hpp := Lib.hid hpp
        clear hpp
        have Hf2 := Lib.hid (Hf0.out.step hf2 (fun _ _ h => h))
        go_wp2_with fail
        refine OnlyN.mk ⟨hf2, ?_⟩
        clear hf2
        rcases hpe : (r.path.toList == pp.toList) with _ | _
        · have Hm := Hnx.out (by unfold Rec.is; rw [← Hpp.out, hpe]; simp)
          repeat (first | (apply sig_q; exact rfl; exact rfl; exact rfl; intro K hK; go_big_quiet_op; go_big_quiet_on) | (apply sig_skip; exact rfl; exact rfl; exact rfl; intro K hK; go_big_quiet_op; go_big_quiet_on))
          refine sig_end ?_
          go_wp2_with fail
          go_roundw
          case rel => exact ⟨k + 1, by omega, by go_num, Hm, Hf2.out⟩
          case measure => simp [intOf]; omega
        · have Hy : Hid (recB ds l n = true) := recB_at Hrk.out (by unfold Rec.is; rw [← Hpp.out, hpe]; simp at hix; simp [hix])
          repeat (first | (apply sig_q; exact rfl; exact rfl; exact rfl; intro K hK; go_big_quiet_op; go_big_quiet_on) | (apply sig_skip; exact rfl; exact rfl; exact rfl; intro K hK; go_big_quiet_op; go_big_quiet_on))
          refine sig_end ?_
          go_wp2_with fail
          go_ret
          exact ⟨ret_bool Hy.out.symm, h0.step Hf2.out (fun _ _ h => h)⟩
    · obtain rfl : k = l.length := by omega
      have h := hno.out
      rw [List.take_length] at h
      have Hn : Hid (recB ds l n = false) := recB_no h
      clear h
      go_wp2_with fail
      go_ret
      exact ⟨ret_bool Hn.out.symm, h0.step hfr (fun _ _ h => h)⟩

theorem batchL_sub (ds : List Dev) (g wt : Int → Bool) : ∀ (q : List Int) (par : Int → Bool), (batchL ds g wt q par).Sublist q
  | [], par => List.Sublist.refl _
  | i :: t, par => by
    rw [batchL_cons]
    split
    · exact (batchL_sub ds g wt t par).cons _
    · exact (batchL_sub ds g wt t _).cons_cons _
theorem free_sub (ds : List Dev) (l : List Rec) (dl bl : List Int) : (freeL ds l dl bl).Sublist (orderL dl ds) := (List.filter_sublist).trans (batchL_sub _ _ _ _ _)
theorem free_mem {ds : List Dev} {l : List Rec} {dl bl : List Int} {x : Int} (h : x ∈ freeL ds l dl bl) : x ∈ dl ∧ (∃ d ∈ ds, d.index = x) ∧ upLack ds (recG ds l) x = false := by
  have h1 := (free_sub ds l dl bl).subset h
  obtain ⟨h2, h3⟩ := List.mem_filter.1 h1
  obtain ⟨d, hd, e⟩ := List.mem_map.1 h2
  have h4 := (List.mem_filter.1 h).2
  exact ⟨of_decide_eq_true h3, ⟨d, hd, e⟩, by simpa using h4⟩
theorem free_nodup {ds : List Dev} (hT : TreeOk ds) (l : List Rec) (dl bl : List Int) : (freeL ds l dl bl).Nodup := ((free_sub ds l dl bl).trans List.filter_sublist).nodup hT.nd
/-- What Free gives has only ancestors with records. -/
theorem up_rec {ds : List Dev} {l : List Rec} {x : Int} (h : upLack ds (recG ds l) x = false) {y : Dev} (hy : y ∈ (chain ds x).tail) : recB ds l y.index = true := by
  unfold upLack at h
  rw [List.any_eq_false] at h
  have h1 := h y.index (List.mem_map_of_mem hy)
  unfold lackB recG at h1
  split at h1
  · rename_i h2
    rw [List.any_eq_true] at h2
    obtain ⟨r, hr, h3⟩ := h2
    rw [Bool.and_eq_true] at h3
    obtain ⟨h4, h5⟩ := h3
    have h6 := of_decide_eq_true h5
    unfold recHit2 at h4
    rw [Bool.and_eq_true] at h4
    unfold recB
    rw [List.any_eq_true]
    refine ⟨r, hr, ?_⟩
    unfold Rec.is
    rw [h6] at h4
    rw [h6, Bool.beq_comm, h4.2]
    simp
  · simp [ByteArray.toList_eq] at h1
end Go.Proofs.YtanaompgapiikaaGreatDoor
