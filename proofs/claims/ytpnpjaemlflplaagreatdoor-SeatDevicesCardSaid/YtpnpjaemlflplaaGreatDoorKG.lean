/- coldplugref36.Record. -/
import Derived.Test.YtpnpjaemlflplaaGreatDoorK3
namespace Go.Proofs.YtpnpjaemlflplaaGreatDoor
open Go.RowKit Go.Maps
set_option linter.unusedVariables false

/-- The record is that of the device with an Index. -/
def recHit (ds : List Dev) (n : Int) (r : Rec) : Bool := (look ds n).isSome && Rec.is n (pathOf (origin ds n)) r
theorem recOf_hit (ds : List Dev) (l : List Rec) (n : Int) : recOf ds l n = l.find? (recHit ds n) := by
  unfold recOf
  by_cases h : look ds n = none
  · rw [if_pos h]
    symm
    rw [List.find?_eq_none]
    intro x _
    unfold recHit
    rw [h]; simp
  · rw [if_neg h]
    congr 1
    funext r
    unfold recHit
    cases hl : look ds n with
    | none => exact absurd hl h
    | some d => simp

set_option maxRecDepth 100000 in
set_option maxHeartbeats 4000000 in
theorem ref_record (a ra : Option Addr) (cap rcap : Nat) (ds : List Dev) (l : List Rec) (n : Int) (w : World) (hl : Devs w a cap ds) (hT : TreeOk ds) (hn : ds.length ≤ 1000) (hr : Recs w ra rcap l) :
    Calls Tryz.prog 59 #[.agg #[.slice a ds.length cap], .slice ra l.length rcap, .int .i64 n] w fun e w' => FoundR (recOf ds l n) e ∧ Fr No w w' := by
  have hm := hr.lenmax
  have h0 : Fr No w ((w.alloc (.cells #[.slice a ds.length cap] 25)).alloc (.cells #[.string ⟨#[]⟩, .int .i64 0, .slice none 0 0, .slice none 0 0, .slice none 0 0, .slice none 0 0, .slice none 0 0, .string ⟨#[]⟩, .int .i64 0, .string ⟨#[]⟩, .string ⟨#[]⟩, .int .i64 0] 42)) := ((Fr.refl _ _).alloc _).alloc _
  have q3 := block_alloc1 w (.cells #[.slice a ds.length cap] 25) (.cells #[.string ⟨#[]⟩, .int .i64 0, .slice none 0 0, .slice none 0 0, .slice none 0 0, .slice none 0 0, .slice none 0 0, .string ⟨#[]⟩, .int .i64 0, .string ⟨#[]⟩, .string ⟨#[]⟩, .int .i64 0] 42)
  have q6 := block_alloc2 w (.cells #[.slice a ds.length cap] 25) (.cells #[.string ⟨#[]⟩, .int .i64 0, .slice none 0 0, .slice none 0 0, .slice none 0 0, .slice none 0 0, .slice none 0 0, .string ⟨#[]⟩, .int .i64 0, .string ⟨#[]⟩, .string ⟨#[]⟩, .int .i64 0] 42)
  have hs6 : ((w.alloc (.cells #[.slice a ds.length cap] 25)).alloc (.cells #[.string ⟨#[]⟩, .int .i64 0, .slice none 0 0, .slice none 0 0, .slice none 0 0, .slice none 0 0, .slice none 0 0, .string ⟨#[]⟩, .int .i64 0, .string ⟨#[]⟩, .string ⟨#[]⟩, .int .i64 0] 42)).heap.size = w.heap.size + 2 := by simp
  go_enter Tryz.func59, Tryz.ntmps59
  go_upto_region 1 with (fail)
  generalize (w.alloc (.cells #[.slice a ds.length cap] 25)).alloc (.cells #[.string ⟨#[]⟩, .int .i64 0, .slice none 0 0, .slice none 0 0, .slice none 0 0, .slice none 0 0, .slice none 0 0, .string ⟨#[]⟩, .int .i64 0, .string ⟨#[]⟩, .string ⟨#[]⟩, .int .i64 0] 42) = W0 at *
  have hl0 := hl.no h0 (fun _ => id)
  have hr0 := hr.no h0 (fun _ => id)
  clear hl hr
  go_wp2_with fail
  go_loopw [8] (fun i wr => ∃ k : Nat, k ≤ l.length ∧ i = .int .i64 (k : Int) ∧ Hid (∀ y ∈ l.take k, recHit ds n y = false) ∧ Fr No W0 wr) (fun i _ => l.length - (intOf i).toNat)
  case atStart => exact ⟨0, by omega, rfl, by unfold Hid; simp, Fr.refl _ _⟩
  case round =>
    obtain ⟨k, hk, rfl, hno, hfr⟩ := hrel
    have c3 : wr.cell? ⟨w.heap.size, 0, none⟩ = some (.slice a ds.length cap) := cell_of_block (hfr.heap q3 id) 0
    have hlr := hl0.no hfr (fun _ => id)
    by_cases hlt : k < l.length
    · have hlt' : (k : Int) < l.length := by omega
      cases hlk : look ds n with
      | none =>
        have Hlk := Lib.hid hlk
        clear hlk
        obtain ⟨bb, off, r, rfl, hrk, _, _⟩ := (hr0.no hfr (fun _ => id)).elem hlt
        have Hrk := Lib.hid hrk
        have Hh : Hid (recHit ds n r = false) := by unfold Hid recHit; rw [Hlk.out]; rfl
        clear hrk
        go_wp2_with fail
        refine (ref_find_none a cap ds n _ hlr Hlk.out).mono ?_
        rintro e w1 ⟨rfl, hf1⟩
        unfold Dev.vals Dev.zero
        go_wp2_with fail
        have hfx := (hfr.step hf1 (fun _ _ h => h)).alloc (.cells Dev.zero.vals 32)
        refine region_sig No [(0, false), (1, false), (2, false), (3, false), (4, false), (5, false), (6, false), (7, false), (8, false), (9, false), (10, false), (11, false), (12, false), (13, false), (14, false), (15, false), (16, false), (17, false), (18, true), (19, false), (20, false)] (by kernel_rfl) (by kernel_rfl) (fun w0 hf0 => ?_)
        have Hfx := Lib.hid (hfx.step hf0 (fun _ _ h => h))
        have g0 := c3
        have g1 := c3
        have g2 := c3
        clear hfx hf1 hf0 c3
        repeat (first | (apply sig_q; exact rfl; exact rfl; exact rfl; intro K hK; go_big_quiet_op; go_big_quiet_on) | (apply sig_skip; exact rfl; exact rfl; exact rfl; intro K hK; go_big_quiet_op; go_big_quiet_on))
        apply sig_m
        exact rfl
        go_wp2_with fail
        refine OnlyN.mk ⟨Fr.refl _ _, ?_⟩
        repeat (first | (apply sig_q; exact rfl; exact rfl; exact rfl; intro K hK; go_big_quiet_op; go_big_quiet_on) | (apply sig_skip; exact rfl; exact rfl; exact rfl; intro K hK; go_big_quiet_op; go_big_quiet_on))
        refine sig_end ?_
        have hnx : Hid (∀ y ∈ l.take (k + 1), recHit ds n y = false) := by
          unfold Hid
          intro y hy
          rw [List.take_add_one, Hrk.out] at hy
          rcases List.mem_append.1 hy with h | h
          · exact hno.out y h
          · simp at h; subst h; exact Hh.out
        clear g0 g1 g2
        go_wp2_with fail
        go_roundw
        case rel => exact ⟨k + 1, by omega, by go_num, hnx, Hfx.out⟩
        case measure => simp [intOf]; omega
      | some d =>
        have Hlk := Lib.hid hlk
        clear hlk
        go_wp2_with fail
        refine (ref_find_some a cap ds n d _ hlr Hlk.out).mono ?_
        rintro e w1 ⟨rfl, hf1⟩
        unfold Dev.vals
        go_wp2_with fail
        have hfx := (hfr.step hf1 (fun _ _ h => h)).alloc (.cells d.vals 32)
        refine region_sig No [(0, false), (1, false), (2, false), (3, false), (4, false), (5, false), (6, false), (7, false), (8, false), (9, false), (10, false), (11, false), (12, false), (13, false), (14, false), (15, false), (16, false), (17, false), (18, true), (19, false), (20, false)] (by kernel_rfl) (by kernel_rfl) (fun w0 hf0 => ?_)
        have hfx0 := hfx.step hf0 (fun _ _ h => h)
        obtain ⟨bb, off, r, hra, hrk, _, x0, x1, x2, x3, x4, x5, x6, x7, x8, x9, x10, x11⟩ := (hr0.no hfx0 (fun _ => id)).elem hlt
        subst hra
        have g0 : ∀ g : Gr No w0, g.W.cell? ⟨w.heap.size, 0, none⟩ = some (.slice a ds.length cap) := fun g => g.fr.cell (cell_of_block (hfx0.heap q3 id) 0) id
        have g1 : ∀ g : Gr No w0, g.W.cell? ⟨bb, off + k * 12, none⟩ = some (.string r.path) := fun g => g.fr.cell x0 id
        have g2 : ∀ g : Gr No w0, g.W.cell? ⟨bb, off + k * 12 + 1, none⟩ = some (.int .i64 r.index) := fun g => g.fr.cell x1 id
        have Hrk := Lib.hid hrk
        have hl1 := hl0.no hfx0 (fun _ => id)
        have Hfx := Lib.hid hfx0
        have hrd := (hr0.no hfx0 (fun _ => id))
        have Hrd := Lib.hid hrd
        clear hfx hf1 hf0 c3 hfx0 hrk x2 x3 x4 x5 x6 x7 x8 x9 x10 x11 x0 x1 hrd
        rcases hix : (r.index == n) with _ | _
        · have Hh : Hid (recHit ds n r = false) := by unfold Hid recHit Rec.is; simp at hix; simp [hix]
          repeat (first | (apply sig_q; exact rfl; exact rfl; exact rfl; intro K hK; go_big_quiet_op; go_big_quiet_on) | (apply sig_skip; exact rfl; exact rfl; exact rfl; intro K hK; go_big_quiet_op; go_big_quiet_on))
          apply sig_m
          exact rfl
          go_wp2_with fail
          refine OnlyN.mk ⟨Fr.refl _ _, ?_⟩
          repeat (first | (apply sig_q; exact rfl; exact rfl; exact rfl; intro K hK; go_big_quiet_op; go_big_quiet_on) | (apply sig_skip; exact rfl; exact rfl; exact rfl; intro K hK; go_big_quiet_op; go_big_quiet_on))
          refine sig_end ?_
          have hnx : Hid (∀ y ∈ l.take (k + 1), recHit ds n y = false) := by
            unfold Hid
            intro y hy
            rw [List.take_add_one, Hrk.out] at hy
            rcases List.mem_append.1 hy with h | h
            · exact hno.out y h
            · simp at h; subst h; exact Hh.out
          clear g0 g1 g2
          go_wp2_with fail
          go_roundw
          case rel => exact ⟨k + 1, by omega, by go_num, hnx, Hfx.out⟩
          case measure => simp [intOf]; omega
        · repeat (first | (apply sig_q; exact rfl; exact rfl; exact rfl; intro K hK; go_big_quiet_op; go_big_quiet_on) | (apply sig_skip; exact rfl; exact rfl; exact rfl; intro K hK; go_big_quiet_op; go_big_quiet_on))
          apply sig_m
          exact rfl
          go_wp2_with fail
          refine (ref_place a cap ds n _ hl1 hT (by omega)).mono ?_
          rintro e w2 ⟨rfl, hf2⟩
          obtain ⟨p, hp⟩ : ∃ p, p = pathOf (origin ds n) := ⟨_, rfl⟩
          rw [← hp]
          have Hp := Lib.hid hp
          clear hp
          go_wp2_with fail
          refine OnlyN.mk ⟨hf2, ?_⟩
          have Hfy := Lib.hid (Hfx.out.step hf2 (fun _ _ h => h))
          have Hrd2 := Lib.hid (Hrd.out.no hf2 (fun _ => id))
          clear g0 g1 g2 hf2
          repeat (first | (apply sig_q; exact rfl; exact rfl; exact rfl; intro K hK; go_big_quiet_op; go_big_quiet_on) | (apply sig_skip; exact rfl; exact rfl; exact rfl; intro K hK; go_big_quiet_op; go_big_quiet_on))
          refine sig_end ?_
          rcases hpe : (r.path.toList == p.toList) with _ | _
          · have Hh : Hid (recHit ds n r = false) := by unfold Hid recHit Rec.is; rw [← Hp.out, hpe]; simp
            have hnx : Hid (∀ y ∈ l.take (k + 1), recHit ds n y = false) := by
              unfold Hid
              intro y hy
              rw [List.take_add_one, Hrk.out] at hy
              rcases List.mem_append.1 hy with h | h
              · exact hno.out y h
              · simp at h; subst h; exact Hh.out
            go_wp2_with fail
            go_roundw
            case rel => exact ⟨k + 1, by omega, by go_num, hnx, Hfy.out⟩
            case measure => simp [intOf]; omega
          · have Hh : Hid (recHit ds n r = true) := by unfold Hid recHit Rec.is; rw [← Hp.out, hpe, Hlk.out]; simp at hix; simp [hix]
            have Hres : Hid (recOf ds l n = some r) := by
              unfold Hid
              rw [recOf_hit]
              exact find_take _ _ _ _ Hrk.out Hh.out hno.out
            obtain ⟨bb', off', r', hra, hrk, _, x0, x1, x2, x3, x4, x5, x6, x7, x8, x9, x10, x11⟩ := Hrd2.out.elem hlt
            cases hra
            rw [Hrk.out] at hrk; cases hrk
            have p6 := Hfy.out.heap q6 id
            have hsy := Hfy.out.size
            have h12 := set12 p6 rfl r
            have hfin := Lib.hid ((h0.step Hfy.out (fun _ _ h => h)).step h12.2 (fun b hb e => by unfold Is at e; omega))
            have z0 : w2.cell? ⟨w.heap.size + 1, 0, none⟩ = some (.string ⟨#[]⟩) := cell_of_block p6 0
            have z1 : w2.cell? ⟨w.heap.size + 1, 1, none⟩ = some (.int .i64 0) := cell_of_block p6 1
            have z2 : w2.cell? ⟨w.heap.size + 1, 2, none⟩ = some (.slice none 0 0) := cell_of_block p6 2
            have z3 : w2.cell? ⟨w.heap.size + 1, 3, none⟩ = some (.slice none 0 0) := cell_of_block p6 3
            have z4 : w2.cell? ⟨w.heap.size + 1, 4, none⟩ = some (.slice none 0 0) := cell_of_block p6 4
            have z5 : w2.cell? ⟨w.heap.size + 1, 5, none⟩ = some (.slice none 0 0) := cell_of_block p6 5
            have z6 : w2.cell? ⟨w.heap.size + 1, 6, none⟩ = some (.slice none 0 0) := cell_of_block p6 6
            have z7 : w2.cell? ⟨w.heap.size + 1, 7, none⟩ = some (.string ⟨#[]⟩) := cell_of_block p6 7
            have z8 : w2.cell? ⟨w.heap.size + 1, 8, none⟩ = some (.int .i64 0) := cell_of_block p6 8
            have z9 : w2.cell? ⟨w.heap.size + 1, 9, none⟩ = some (.string ⟨#[]⟩) := cell_of_block p6 9
            have z10 : w2.cell? ⟨w.heap.size + 1, 10, none⟩ = some (.string ⟨#[]⟩) := cell_of_block p6 10
            have z11 : w2.cell? ⟨w.heap.size + 1, 11, none⟩ = some (.int .i64 0) := cell_of_block p6 11
            have y0 : w2.frozen? ⟨w.heap.size + 1, 0, none⟩ = false := free_of_block p6 0
            have y1 : w2.frozen? ⟨w.heap.size + 1, 1, none⟩ = false := free_of_block p6 1
            have y2 : w2.frozen? ⟨w.heap.size + 1, 2, none⟩ = false := free_of_block p6 2
            have y3 : w2.frozen? ⟨w.heap.size + 1, 3, none⟩ = false := free_of_block p6 3
            have y4 : w2.frozen? ⟨w.heap.size + 1, 4, none⟩ = false := free_of_block p6 4
            have y5 : w2.frozen? ⟨w.heap.size + 1, 5, none⟩ = false := free_of_block p6 5
            have y6 : w2.frozen? ⟨w.heap.size + 1, 6, none⟩ = false := free_of_block p6 6
            have y7 : w2.frozen? ⟨w.heap.size + 1, 7, none⟩ = false := free_of_block p6 7
            have y8 : w2.frozen? ⟨w.heap.size + 1, 8, none⟩ = false := free_of_block p6 8
            have y9 : w2.frozen? ⟨w.heap.size + 1, 9, none⟩ = false := free_of_block p6 9
            have y10 : w2.frozen? ⟨w.heap.size + 1, 10, none⟩ = false := free_of_block p6 10
            have y11 : w2.frozen? ⟨w.heap.size + 1, 11, none⟩ = false := free_of_block p6 11
            clear h12 p6
            go_wp2_with fail
            refine bodyPost_ret (v := .tuple #[.agg r.vals, .bool true]) (by simp [results, Tryz.results59, go_sem, Rec.vals, z0, z1, z2, z3, z4, z5, z6, z7, z8, z9, z10, z11]) rfl ?_
            exact ⟨by rw [Hres.out]; rfl, hfin.out⟩
    · obtain rfl : k = l.length := by omega
      have h := hno.out
      rw [List.take_length] at h
      have Hres : Hid (recOf ds l n = none) := by unfold Hid; rw [recOf_hit]; exact find_no _ _ h
      have p6 := hfr.heap q6 id
      have hsy := hfr.size
      have h12 := set12 p6 rfl Rec.zero
      have hfin := Lib.hid ((h0.step hfr (fun _ _ h => h)).step h12.2 (fun b hb e => by unfold Is at e; omega))
      have z0 : wr.cell? ⟨w.heap.size + 1, 0, none⟩ = some (.string ⟨#[]⟩) := cell_of_block p6 0
      have z1 : wr.cell? ⟨w.heap.size + 1, 1, none⟩ = some (.int .i64 0) := cell_of_block p6 1
      have z2 : wr.cell? ⟨w.heap.size + 1, 2, none⟩ = some (.slice none 0 0) := cell_of_block p6 2
      have z3 : wr.cell? ⟨w.heap.size + 1, 3, none⟩ = some (.slice none 0 0) := cell_of_block p6 3
      have z4 : wr.cell? ⟨w.heap.size + 1, 4, none⟩ = some (.slice none 0 0) := cell_of_block p6 4
      have z5 : wr.cell? ⟨w.heap.size + 1, 5, none⟩ = some (.slice none 0 0) := cell_of_block p6 5
      have z6 : wr.cell? ⟨w.heap.size + 1, 6, none⟩ = some (.slice none 0 0) := cell_of_block p6 6
      have z7 : wr.cell? ⟨w.heap.size + 1, 7, none⟩ = some (.string ⟨#[]⟩) := cell_of_block p6 7
      have z8 : wr.cell? ⟨w.heap.size + 1, 8, none⟩ = some (.int .i64 0) := cell_of_block p6 8
      have z9 : wr.cell? ⟨w.heap.size + 1, 9, none⟩ = some (.string ⟨#[]⟩) := cell_of_block p6 9
      have z10 : wr.cell? ⟨w.heap.size + 1, 10, none⟩ = some (.string ⟨#[]⟩) := cell_of_block p6 10
      have z11 : wr.cell? ⟨w.heap.size + 1, 11, none⟩ = some (.int .i64 0) := cell_of_block p6 11
      have y0 : wr.frozen? ⟨w.heap.size + 1, 0, none⟩ = false := free_of_block p6 0
      have y1 : wr.frozen? ⟨w.heap.size + 1, 1, none⟩ = false := free_of_block p6 1
      have y2 : wr.frozen? ⟨w.heap.size + 1, 2, none⟩ = false := free_of_block p6 2
      have y3 : wr.frozen? ⟨w.heap.size + 1, 3, none⟩ = false := free_of_block p6 3
      have y4 : wr.frozen? ⟨w.heap.size + 1, 4, none⟩ = false := free_of_block p6 4
      have y5 : wr.frozen? ⟨w.heap.size + 1, 5, none⟩ = false := free_of_block p6 5
      have y6 : wr.frozen? ⟨w.heap.size + 1, 6, none⟩ = false := free_of_block p6 6
      have y7 : wr.frozen? ⟨w.heap.size + 1, 7, none⟩ = false := free_of_block p6 7
      have y8 : wr.frozen? ⟨w.heap.size + 1, 8, none⟩ = false := free_of_block p6 8
      have y9 : wr.frozen? ⟨w.heap.size + 1, 9, none⟩ = false := free_of_block p6 9
      have y10 : wr.frozen? ⟨w.heap.size + 1, 10, none⟩ = false := free_of_block p6 10
      have y11 : wr.frozen? ⟨w.heap.size + 1, 11, none⟩ = false := free_of_block p6 11
      clear h12 p6 h
      go_wp2_with fail
      refine bodyPost_ret (v := .tuple #[.agg Rec.zero.vals, .bool false]) (by simp [results, Tryz.results59, go_sem, Rec.vals, Rec.zero, z0, z1, z2, z3, z4, z5, z6, z7, z8, z9, z10, z11]; try rfl) rfl ?_
      exact ⟨by rw [Hres.out]; rfl, hfin.out⟩
end Go.Proofs.YtpnpjaemlflplaaGreatDoor
