/- seat.find. -/
import Derived.Test.YtpnpjaemlflplaaGreatDoorK3
import Derived.Test.YtpnpjaemlflplaaGreatDoorR3
namespace Go.Proofs.YtpnpjaemlflplaaGreatDoor
open Go.RowKit Go.Maps
set_option linter.unusedVariables false

set_option maxRecDepth 100000 in
set_option maxHeartbeats 2000000 in
theorem seat_find (a ra : Option Addr) (cap rcap : Nat) (ds : List Dev) (l : List Rec) (n : Int) (w : World) (hl : Devs w a cap ds) (hT : TreeOk ds) (hn : ds.length ≤ 1000) (hx : (Lit.int .i64 n).wf = true) (hr : Recs w ra rcap l) :
    Calls Tryz.prog 54 #[.agg #[.slice a ds.length cap], .slice ra l.length rcap, .int .i64 n] w fun e w' => FoundR (recOf ds l n) e ∧ Fr No w w' := by
  have h0 : Fr No w ((w.alloc (.cells #[.slice a ds.length cap] 25)).alloc (.cells #[.string ⟨#[]⟩, .int .i64 0, .slice none 0 0, .slice none 0 0, .slice none 0 0, .slice none 0 0, .slice none 0 0, .string ⟨#[]⟩, .int .i64 0, .string ⟨#[]⟩, .string ⟨#[]⟩, .int .i64 0] 42)) := ((Fr.refl _ _).alloc _).alloc _
  have q3 := block_alloc1 w (.cells #[.slice a ds.length cap] 25) (.cells #[.string ⟨#[]⟩, .int .i64 0, .slice none 0 0, .slice none 0 0, .slice none 0 0, .slice none 0 0, .slice none 0 0, .string ⟨#[]⟩, .int .i64 0, .string ⟨#[]⟩, .string ⟨#[]⟩, .int .i64 0] 42)
  have q6 := block_alloc2 w (.cells #[.slice a ds.length cap] 25) (.cells #[.string ⟨#[]⟩, .int .i64 0, .slice none 0 0, .slice none 0 0, .slice none 0 0, .slice none 0 0, .slice none 0 0, .string ⟨#[]⟩, .int .i64 0, .string ⟨#[]⟩, .string ⟨#[]⟩, .int .i64 0] 42)
  have hs6 : ((w.alloc (.cells #[.slice a ds.length cap] 25)).alloc (.cells #[.string ⟨#[]⟩, .int .i64 0, .slice none 0 0, .slice none 0 0, .slice none 0 0, .slice none 0 0, .slice none 0 0, .string ⟨#[]⟩, .int .i64 0, .string ⟨#[]⟩, .string ⟨#[]⟩, .int .i64 0] 42)).heap.size = w.heap.size + 2 := by simp
  go_enter Tryz.func54, Tryz.ntmps54
  go_upto_region 1 with (fail)
  generalize (w.alloc (.cells #[.slice a ds.length cap] 25)).alloc (.cells #[.string ⟨#[]⟩, .int .i64 0, .slice none 0 0, .slice none 0 0, .slice none 0 0, .slice none 0 0, .slice none 0 0, .string ⟨#[]⟩, .int .i64 0, .string ⟨#[]⟩, .string ⟨#[]⟩, .int .i64 0] 42) = W0 at *
  have t3 : W0.cell? ⟨w.heap.size, 0, none⟩ = some (.slice a ds.length cap) := cell_of_block q3 0
  go_wp2_with fail
  refine (tree_origin a cap ds n _ (hl.no h0 (fun _ => id)) hT hn hx).mono ?_
  rintro e w1 ⟨rfl, hf1⟩
  have hfr := h0.step hf1 (fun _ _ h => h)
  have hr1 := (hr.no h0 (fun _ => id)).no hf1 (fun _ => id)
  have p6 := hf1.heap q6 id
  have hs1 := hf1.size
  clear t3 q3 q6 h0 hf1 hl hr hT
  cases hlk : look ds n with
  | none =>
    have Hr : Hid (recOf ds l n = none) := by unfold Hid recOf; rw [if_pos hlk]
    have h12 := set12 p6 rfl Rec.zero
    have hfin := Lib.hid (hfr.step h12.2 (fun b hb e => by unfold Is at e; omega))
    have z0 : w1.cell? ⟨w.heap.size + 1, 0, none⟩ = some (.string ⟨#[]⟩) := cell_of_block p6 0
    have z1 : w1.cell? ⟨w.heap.size + 1, 1, none⟩ = some (.int .i64 0) := cell_of_block p6 1
    have z2 : w1.cell? ⟨w.heap.size + 1, 2, none⟩ = some (.slice none 0 0) := cell_of_block p6 2
    have z3 : w1.cell? ⟨w.heap.size + 1, 3, none⟩ = some (.slice none 0 0) := cell_of_block p6 3
    have z4 : w1.cell? ⟨w.heap.size + 1, 4, none⟩ = some (.slice none 0 0) := cell_of_block p6 4
    have z5 : w1.cell? ⟨w.heap.size + 1, 5, none⟩ = some (.slice none 0 0) := cell_of_block p6 5
    have z6 : w1.cell? ⟨w.heap.size + 1, 6, none⟩ = some (.slice none 0 0) := cell_of_block p6 6
    have z7 : w1.cell? ⟨w.heap.size + 1, 7, none⟩ = some (.string ⟨#[]⟩) := cell_of_block p6 7
    have z8 : w1.cell? ⟨w.heap.size + 1, 8, none⟩ = some (.int .i64 0) := cell_of_block p6 8
    have z9 : w1.cell? ⟨w.heap.size + 1, 9, none⟩ = some (.string ⟨#[]⟩) := cell_of_block p6 9
    have z10 : w1.cell? ⟨w.heap.size + 1, 10, none⟩ = some (.string ⟨#[]⟩) := cell_of_block p6 10
    have z11 : w1.cell? ⟨w.heap.size + 1, 11, none⟩ = some (.int .i64 0) := cell_of_block p6 11
    have y0 : w1.frozen? ⟨w.heap.size + 1, 0, none⟩ = false := free_of_block p6 0
    have y1 : w1.frozen? ⟨w.heap.size + 1, 1, none⟩ = false := free_of_block p6 1
    have y2 : w1.frozen? ⟨w.heap.size + 1, 2, none⟩ = false := free_of_block p6 2
    have y3 : w1.frozen? ⟨w.heap.size + 1, 3, none⟩ = false := free_of_block p6 3
    have y4 : w1.frozen? ⟨w.heap.size + 1, 4, none⟩ = false := free_of_block p6 4
    have y5 : w1.frozen? ⟨w.heap.size + 1, 5, none⟩ = false := free_of_block p6 5
    have y6 : w1.frozen? ⟨w.heap.size + 1, 6, none⟩ = false := free_of_block p6 6
    have y7 : w1.frozen? ⟨w.heap.size + 1, 7, none⟩ = false := free_of_block p6 7
    have y8 : w1.frozen? ⟨w.heap.size + 1, 8, none⟩ = false := free_of_block p6 8
    have y9 : w1.frozen? ⟨w.heap.size + 1, 9, none⟩ = false := free_of_block p6 9
    have y10 : w1.frozen? ⟨w.heap.size + 1, 10, none⟩ = false := free_of_block p6 10
    have y11 : w1.frozen? ⟨w.heap.size + 1, 11, none⟩ = false := free_of_block p6 11
    clear h12 p6 hlk hr1
    simp only [Option.map_none, Option.getD_none, Option.isSome_none]
    go_wp2_with fail
    refine bodyPost_ret (v := .tuple #[.agg Rec.zero.vals, .bool false]) (by simp [results, Tryz.results54, go_sem, Rec.vals, Rec.zero, z0, z1, z2, z3, z4, z5, z6, z7, z8, z9, z10, z11]; try rfl) rfl ?_
    exact ⟨by rw [Hr.out]; rfl, hfin.out⟩
  | some d =>
    have Hr : Hid (recOf ds l n = l.find? (Rec.is n (pathOf (origin ds n)))) := by unfold Hid recOf; rw [if_neg (by rw [hlk]; simp)]
    clear hlk
    simp only [Option.map_some, Option.getD_some, Option.isSome_some]
    obtain ⟨p, hp⟩ : ∃ p, p = pathOf (origin ds n) := ⟨_, rfl⟩
    rw [← hp] at Hr ⊢
    clear hp
    go_wp2_with fail
    refine (own_find ra rcap l n p _ hr1).mono ?_
    rintro e w2 ⟨hF, hf2⟩
    have hfr2 := hfr.step hf2 (fun _ _ h => h)
    have p6' := hf2.heap p6 id
    have hs2 := hf2.size
    clear p6 hf2 hr1 hfr
    have p6 := p6'
    clear p6'
    rcases ho : l.find? (Rec.is n p) with _ | r
    · rw [ho] at hF
      obtain rfl : e = _ := hF
      have h12 := set12 p6 rfl Rec.zero
      have hfin := Lib.hid (hfr2.step h12.2 (fun b hb e => by unfold Is at e; omega))
      have z0 : w2.cell? ⟨w.heap.size + 1, 0, none⟩ = some (.string ⟨#[]⟩) := cell_of_block p6 0
      have z1 : w2.cell? ⟨w.heap.size + 1, 1, none⟩ = some (.int .i64 0) := cell_of_block p6 1
      have z2 : w2.cell? ⟨w.heap.size + 1, 2, none⟩ = some (.slice none 0 0) := cell_of_block p6 2
      have z3 : w2.cell? ⟨w.heap.size + 1, 3, none⟩ = some (.slice none 0 0) := cell_of_block p6 3
      have z4 : w2.cell? ⟨w.heap.size + 1, 4, none⟩ = some (.slice none 0 0) := cell_of_block p6 4
      have z5 : w2.cell? ⟨w.heap.size + 1, 5, none⟩ = some (.slice none 0 0) := cell_of_block p6 5
      have z6 : w2.cell? ⟨w.heap.size + 1, 6, none⟩ = some (.slice none 0 0) := cell_of_block p6 6
      have z7 : w2.cell? ⟨w.heap.size + 1, 7, none⟩ = some (.string ⟨#[]⟩) := cell_of_block p6 7
      have z8 : w2.cell? ⟨w.heap.size + 1, 8, none⟩ = some (.int .i64 0) := cell_of_block p6 8
      have z9 : w2.cell? ⟨w.heap.size + 1, 9, none⟩ = some (.string ⟨#[]⟩) := cell_of_block p6 9
      have z10 : w2.cell? ⟨w.heap.size + 1, 10, none⟩ = some (.string ⟨#[]⟩) := cell_of_block p6 10
      have z11 : w2.cell? ⟨w.heap.size + 1, 11, none⟩ = some (.int .i64 0) := cell_of_block p6 11
      have y0 : w2.frozen? ⟨w.heap.size + 1, 0, none⟩ = false := free_of_block p6 0
      have y1 : w2.frozen? ⟨w.heap.size + 1, 1, none⟩ = false := free_of_block p6 1
      have y2 : w2.frozen? ⟨w.heap.size + 1, 2, none⟩ = false := free_of_block p6 2
      have y3 : w2.frozen? ⟨w.heap.size + 1, 3, none⟩ = false := free_of_block p6 3
      have y4 : w2.frozen? ⟨w.heap.size + 1, 4, none⟩ = false := free_of_block p6 4
      have y5 : w2.frozen? ⟨w.heap.size + 1, 5, none⟩ = false := free_of_block p6 5
      have y6 : w2.frozen? ⟨w.heap.size + 1, 6, none⟩ = false := free_of_block p6 6
      have y7 : w2.frozen? ⟨w.heap.size + 1, 7, none⟩ = false := free_of_block p6 7
      have y8 : w2.frozen? ⟨w.heap.size + 1, 8, none⟩ = false := free_of_block p6 8
      have y9 : w2.frozen? ⟨w.heap.size + 1, 9, none⟩ = false := free_of_block p6 9
      have y10 : w2.frozen? ⟨w.heap.size + 1, 10, none⟩ = false := free_of_block p6 10
      have y11 : w2.frozen? ⟨w.heap.size + 1, 11, none⟩ = false := free_of_block p6 11
      have Ho := Lib.hid ho
      clear h12 p6 ho
      unfold Rec.vals Rec.zero
      go_wp2_with fail
      refine bodyPost_ret (v := .tuple #[.agg Rec.zero.vals, .bool false]) (by simp [results, Tryz.results54, go_sem, Rec.vals, Rec.zero, z0, z1, z2, z3, z4, z5, z6, z7, z8, z9, z10, z11]; try rfl) rfl ?_
      exact ⟨by rw [Hr.out, Ho.out]; rfl, hfin.out⟩
    · rw [ho] at hF
      obtain rfl : e = _ := hF
      have h12 := set12 p6 rfl r
      have hfin := Lib.hid (hfr2.step h12.2 (fun b hb e => by unfold Is at e; omega))
      have z0 : w2.cell? ⟨w.heap.size + 1, 0, none⟩ = some (.string ⟨#[]⟩) := cell_of_block p6 0
      have z1 : w2.cell? ⟨w.heap.size + 1, 1, none⟩ = some (.int .i64 0) := cell_of_block p6 1
      have z2 : w2.cell? ⟨w.heap.size + 1, 2, none⟩ = some (.slice none 0 0) := cell_of_block p6 2
      have z3 : w2.cell? ⟨w.heap.size + 1, 3, none⟩ = some (.slice none 0 0) := cell_of_block p6 3
      have z4 : w2.cell? ⟨w.heap.size + 1, 4, none⟩ = some (.slice none 0 0) := cell_of_block p6 4
      have z5 : w2.cell? ⟨w.heap.size + 1, 5, none⟩ = some (.slice none 0 0) := cell_of_block p6 5
      have z6 : w2.cell? ⟨w.heap.size + 1, 6, none⟩ = some (.slice none 0 0) := cell_of_block p6 6
      have z7 : w2.cell? ⟨w.heap.size + 1, 7, none⟩ = some (.string ⟨#[]⟩) := cell_of_block p6 7
      have z8 : w2.cell? ⟨w.heap.size + 1, 8, none⟩ = some (.int .i64 0) := cell_of_block p6 8
      have z9 : w2.cell? ⟨w.heap.size + 1, 9, none⟩ = some (.string ⟨#[]⟩) := cell_of_block p6 9
      have z10 : w2.cell? ⟨w.heap.size + 1, 10, none⟩ = some (.string ⟨#[]⟩) := cell_of_block p6 10
      have z11 : w2.cell? ⟨w.heap.size + 1, 11, none⟩ = some (.int .i64 0) := cell_of_block p6 11
      have y0 : w2.frozen? ⟨w.heap.size + 1, 0, none⟩ = false := free_of_block p6 0
      have y1 : w2.frozen? ⟨w.heap.size + 1, 1, none⟩ = false := free_of_block p6 1
      have y2 : w2.frozen? ⟨w.heap.size + 1, 2, none⟩ = false := free_of_block p6 2
      have y3 : w2.frozen? ⟨w.heap.size + 1, 3, none⟩ = false := free_of_block p6 3
      have y4 : w2.frozen? ⟨w.heap.size + 1, 4, none⟩ = false := free_of_block p6 4
      have y5 : w2.frozen? ⟨w.heap.size + 1, 5, none⟩ = false := free_of_block p6 5
      have y6 : w2.frozen? ⟨w.heap.size + 1, 6, none⟩ = false := free_of_block p6 6
      have y7 : w2.frozen? ⟨w.heap.size + 1, 7, none⟩ = false := free_of_block p6 7
      have y8 : w2.frozen? ⟨w.heap.size + 1, 8, none⟩ = false := free_of_block p6 8
      have y9 : w2.frozen? ⟨w.heap.size + 1, 9, none⟩ = false := free_of_block p6 9
      have y10 : w2.frozen? ⟨w.heap.size + 1, 10, none⟩ = false := free_of_block p6 10
      have y11 : w2.frozen? ⟨w.heap.size + 1, 11, none⟩ = false := free_of_block p6 11
      have Ho := Lib.hid ho
      clear h12 p6 ho
      unfold Rec.vals
      go_wp2_with fail
      refine bodyPost_ret (v := .tuple #[.agg r.vals, .bool true]) (by simp [results, Tryz.results54, go_sem, Rec.vals, z0, z1, z2, z3, z4, z5, z6, z7, z8, z9, z10, z11]) rfl ?_
      exact ⟨by rw [Hr.out, Ho.out]; rfl, hfin.out⟩
end Go.Proofs.YtpnpjaemlflplaaGreatDoor
