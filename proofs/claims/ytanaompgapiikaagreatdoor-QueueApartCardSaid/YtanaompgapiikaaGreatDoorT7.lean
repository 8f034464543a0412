/- clash. -/
import Derived.Test.YtanaompgapiikaaGreatDoorT6
namespace Go.Proofs.YtanaompgapiikaaGreatDoor
open Go.RowKit Go.Maps
set_option linter.unusedVariables false

set_option maxRecDepth 100000 in
set_option maxHeartbeats 4000000 in
theorem t_clash (d d' : Dev) (m : Int) (w : World) (hs : d.orig.size ≤ 32) (hs' : d'.orig.size ≤ 32) (hm : w.cell? ⟨0, 0, none⟩ = some (.int .i64 m)) (h0 : 0 < w.heap.size) :
    Calls Tryz.prog 105 #[.agg d.vals, .agg d'.vals] w fun e w' => RetB e ∧ Fr No w w' := by
  have hx : Fr No w ((w.alloc (.cells d.vals 36)).alloc (.cells d'.vals 36)) := ((Fr.refl _ _).alloc _).alloc _
  have hbx := block_alloc1 w (.cells d.vals 36) (.cells d'.vals 36)
  have hby := block_alloc2 w (.cells d.vals 36) (.cells d'.vals 36)
  have hmx := hx.cell hm id
  have h0x : 0 < ((w.alloc (.cells d.vals 36)).alloc (.cells d'.vals 36)).heap.size := by simp
  have hn1 : ∀ W : World, W.cell? ⟨0, 0, none⟩ = some (.int .i64 m) → 0 < W.heap.size → _ := fun W h1 h2 => t_node d m W (by omega) h1 h2
  have hn2 : ∀ W : World, W.cell? ⟨0, 0, none⟩ = some (.int .i64 m) → 0 < W.heap.size → _ := fun W h1 h2 => t_node d' m W (by omega) h1 h2
  have N1 := Lib.hid hn1
  have N2 := Lib.hid hn2
  clear hn1 hn2 hm
  unfold Dev.vals at *
  go_enter Tryz.func105, Tryz.ntmps105
  go_upto_region 1 with (fail)
  generalize (w.alloc (.cells #[.int .i64 d.index, .int .i64 d.parent, .string d.name, .string d.orig, .string d.sub, .string d.drv, .string d.ali, .int .i64 d.kind, .int .i64 d.num, .slice d.aa d.an d.ac] 36)).alloc (.cells #[.int .i64 d'.index, .int .i64 d'.parent, .string d'.name, .string d'.orig, .string d'.sub, .string d'.drv, .string d'.ali, .int .i64 d'.kind, .int .i64 d'.num, .slice d'.aa d'.an d'.ac] 36) = W0 at *
  have a0 : W0.cell? ⟨w.heap.size, 0, none⟩ = some (.int .i64 d.index) := cell_of_block hbx 0
  have a1 : W0.cell? ⟨w.heap.size, 1, none⟩ = some (.int .i64 d.parent) := cell_of_block hbx 1
  have a2 : W0.cell? ⟨w.heap.size, 2, none⟩ = some (.string d.name) := cell_of_block hbx 2
  have a3 : W0.cell? ⟨w.heap.size, 3, none⟩ = some (.string d.orig) := cell_of_block hbx 3
  have a4 : W0.cell? ⟨w.heap.size, 4, none⟩ = some (.string d.sub) := cell_of_block hbx 4
  have a5 : W0.cell? ⟨w.heap.size, 5, none⟩ = some (.string d.drv) := cell_of_block hbx 5
  have a6 : W0.cell? ⟨w.heap.size, 6, none⟩ = some (.string d.ali) := cell_of_block hbx 6
  have a7 : W0.cell? ⟨w.heap.size, 7, none⟩ = some (.int .i64 d.kind) := cell_of_block hbx 7
  have a8 : W0.cell? ⟨w.heap.size, 8, none⟩ = some (.int .i64 d.num) := cell_of_block hbx 8
  have a9 : W0.cell? ⟨w.heap.size, 9, none⟩ = some (.slice d.aa d.an d.ac) := cell_of_block hbx 9
  have b2 : W0.cell? ⟨w.heap.size + 1, 2, none⟩ = some (.string d'.name) := cell_of_block hby 2
  have b7 : W0.cell? ⟨w.heap.size + 1, 7, none⟩ = some (.int .i64 d'.kind) := cell_of_block hby 7
  go_cut [23] (fun v wx => (∃ b, v = .bool b) ∧ W0 = wx)
  case first =>
    rcases hk : (d.kind == 4) with _ | _
    all_goals rcases hk' : (d'.kind == 4) with _ | _
    all_goals
      go_wp2_with fail
      all_goals
        go_meet
        exact ⟨⟨_, rfl⟩, rfl⟩
  case rest =>
    obtain ⟨⟨b, rfl⟩, rfl⟩ := hcut
    cases b
    case true =>
      go_wp2_with fail
      go_ret
      exact ⟨RetB.mk _, hx⟩
    go_wp2_with fail
    refine (N1.out _ hmx h0x).mono ?_
    rintro e w1 ⟨⟨s, hsz, rfl⟩, hf1⟩
    have hx1 := hx.step hf1 (fun _ _ h => h)
    have hbx1 := hf1.heap hbx id
    have hby1 := hf1.heap hby id
    have hm1 := hf1.cell hmx id
    have h01 : 0 < w1.heap.size := by have := hf1.size; omega
    generalize (decide (d.kind = 2) || decide (d.kind = 3)) = g1
    clear a0 a1 a2 a3 a4 a5 a6 a7 a8 a9 b2 b7 hbx hby hmx h0x
    have b0 : w1.cell? ⟨w.heap.size + 1, 0, none⟩ = some (.int .i64 d'.index) := cell_of_block hby1 0
    have b1 : w1.cell? ⟨w.heap.size + 1, 1, none⟩ = some (.int .i64 d'.parent) := cell_of_block hby1 1
    have b2 : w1.cell? ⟨w.heap.size + 1, 2, none⟩ = some (.string d'.name) := cell_of_block hby1 2
    have b3 : w1.cell? ⟨w.heap.size + 1, 3, none⟩ = some (.string d'.orig) := cell_of_block hby1 3
    have b4 : w1.cell? ⟨w.heap.size + 1, 4, none⟩ = some (.string d'.sub) := cell_of_block hby1 4
    have b5 : w1.cell? ⟨w.heap.size + 1, 5, none⟩ = some (.string d'.drv) := cell_of_block hby1 5
    have b6 : w1.cell? ⟨w.heap.size + 1, 6, none⟩ = some (.string d'.ali) := cell_of_block hby1 6
    have b7 : w1.cell? ⟨w.heap.size + 1, 7, none⟩ = some (.int .i64 d'.kind) := cell_of_block hby1 7
    have b8 : w1.cell? ⟨w.heap.size + 1, 8, none⟩ = some (.int .i64 d'.num) := cell_of_block hby1 8
    have b9 : w1.cell? ⟨w.heap.size + 1, 9, none⟩ = some (.slice d'.aa d'.an d'.ac) := cell_of_block hby1 9
    go_wp2_with fail
    refine (N2.out _ hm1 h01).mono ?_
    rintro e w2 ⟨⟨u, huz, rfl⟩, hf2⟩
    have hx2 := hx1.step hf2 (fun _ _ h => h)
    have hbx2 := hf2.heap hbx1 id
    have hby2 := hf2.heap hby1 id
    generalize (decide (d'.kind = 2) || decide (d'.kind = 3)) = g2
    clear b0 b1 b2 b3 b4 b5 b6 b7 b8 b9 hbx1 hby1
    have a7 : w2.cell? ⟨w.heap.size, 7, none⟩ = some (.int .i64 d.kind) := cell_of_block hbx2 7
    have a8 : w2.cell? ⟨w.heap.size, 8, none⟩ = some (.int .i64 d.num) := cell_of_block hbx2 8
    have b7 : w2.cell? ⟨w.heap.size + 1, 7, none⟩ = some (.int .i64 d'.kind) := cell_of_block hby2 7
    have b8 : w2.cell? ⟨w.heap.size + 1, 8, none⟩ = some (.int .i64 d'.num) := cell_of_block hby2 8
    cases g1
    · cases g2
      all_goals
        go_wp2_with fail
        go_ret
        exact ⟨RetB.mk _, hx2⟩
    cases g2
    · go_wp2_with fail
      go_ret
      exact ⟨RetB.mk _, hx2⟩
    have HB1 := Lib.hid (fun W => t_beneath s u W hsz huz)
    have HB2 := Lib.hid (fun W => t_beneath u s W huz hsz)
    rcases hk : (d.kind == d'.kind) with _ | _
    all_goals rcases hn : (d.num == d'.num) with _ | _
    all_goals rcases hsu : (s.toList == u.toList) with _ | _
    all_goals
      go_wp2_with fail
    all_goals first
      | (go_ret; exact ⟨RetB.mk _, hx2⟩)
      | skip
    all_goals
      refine (HB1.out _).mono ?_
      rintro e w3 ⟨⟨b, rfl⟩, rfl⟩
      cases b
    all_goals
      go_wp2_with fail
    all_goals first
      | (go_ret; exact ⟨RetB.mk _, hx2⟩)
      | skip
    all_goals
      refine (HB2.out _).mono ?_
      rintro e w3 ⟨⟨b, rfl⟩, rfl⟩
      go_wp2_with fail
      go_ret
      exact ⟨RetB.mk _, hx2⟩
end Go.Proofs.YtanaompgapiikaaGreatDoor
