/- The law VolumeWants returns true at every input and leaves its arguments as they were. Conditions: none beyond the given statement's own. -/
import Derived.Test.YtbblkknndaoefaaGreatDoorZV14
import Derived.Test.YtbblkknndaoefaaGreatDoorZV12
import Derived.Test.YtbblkknndaoefaaGreatDoorZV22
import Derived.Test.YtbblkknndaoefaaGreatDoorZV24
import Derived.Test.YtbblkknndaoefaaGreatDoorCards
import Derived.Test.YtbblkknndaoefaaGreatDoorTie
import Derived.WalkKit
import Derived.ProofKit
import Derived.OpenShut
import Derived.ShutString
import Derived.ChangeOld
import Derived.Below
import Derived.LaidMore
import Derived.Lay
import Derived.SevenTiedAt
import Derived.Shelf.Vars
import Derived.Stop.LaidErr
import Derived.MakeChecks
import Derived.SizedLaws
namespace Go.Proofs.YtbblkknndaoefaaGreatDoor
open Go.RowKit Go.Maps Go.ChangeShapes
set_option linter.unusedVariables false

section
variable {H : Type} {enc : TypeId × Value → H} {w : World} {base : Nat} {spare : Nat → Bool} {held : Bool}
set_option maxRecDepth 100000 in
theorem structArr : ∃ f0 f1 f2 f3 f4 f5 : Field, Tryz.prog.underlying 42 = some (.struct #[f0, f1, f2, f3, f4, f5]) ∧ (f0.offset = 0 ∧ f0.type = 9) ∧ (f1.offset = 1 ∧ f1.type = 33) ∧ (f2.offset = 2 ∧ f2.type = 3) ∧ (f3.offset = 3 ∧ f3.type = 3) ∧ (f4.offset = 4 ∧ f4.type = 3) ∧ (f5.offset = 5 ∧ f5.type = 33) :=
  ⟨_, _, _, _, _, _, Tryz.underlying42, ⟨rfl, rfl⟩, ⟨rfl, rfl⟩, ⟨rfl, rfl⟩, ⟨rfl, rfl⟩, ⟨rfl, rfl⟩, ⟨rfl, rfl⟩⟩
/-- The bounds of an array that came in. -/
structure ArrIn (m : ArrM) : Prop where
  i : m.i.size ≤ reachBytes
  ps : StrsIn m.ps
  t : (Lit.int .i64 m.t).wf = true
  e : (Lit.int .i64 m.e).wf = true
  n : (Lit.int .i64 m.n).wf = true
  l : StrsIn m.l
set_option maxRecDepth 100000 in
theorem open_arr_raw {fuel : Nat} {cs : List Value} {x : DataW H × List MemPlace} (h : DataW.trod enc Tryz.prog w base spare held fuel 42 cs = some x) (hz : Wt 42 x.1) :
    ∃ m : ArrM, cs = m.vals.toList ∧ (Strs w m.pa m.pc m.ps ∧ Strs w m.la m.lc m.l) ∧ ArrIn m := by
  obtain ⟨f0, f1, f2, f3, f4, f5, hu, ⟨o0, t0⟩, ⟨o1, t1⟩, ⟨o2, t2⟩, ⟨o3, t3⟩, ⟨o4, t4⟩, ⟨o5, t5⟩⟩ := structArr
  obtain ⟨xs, k, hk, hxy, hlen, hxl, hf⟩ := DataW.trod_struct hu h
  have hc : Tryz.prog.cellsOf 42 = 6 := by kernel_rfl
  have hcs : Tryz.prog.cellsOf 9 = 1 := by kernel_rfl
  have hci : Tryz.prog.cellsOf 3 = 1 := by kernel_rfl
  have hcl : Tryz.prog.cellsOf 33 = 1 := by kernel_rfl
  rw [hc] at hlen
  match xs, hxl, cs, hlen with
  | [y0, y1, y2, y3, y4, y5], _, [v0, v1, v2, v3, v4, v5], _ =>
    have g0 := hf 0 f0 rfl
    have g1 := hf 1 f1 rfl
    have g2 := hf 2 f2 rfl
    have g3 := hf 3 f3 rfl
    have g4 := hf 4 f4 rfl
    have g5 := hf 5 f5 rfl
    rw [o0, t0, hcs] at g0
    rw [o1, t1, hcl] at g1
    rw [o2, t2, hci] at g2
    rw [o3, t3, hci] at g3
    rw [o4, t4, hci] at g4
    rw [o5, t5, hcl] at g5
    subst hxy
    have zz := fun (j : Nat) (f : Field) (d : DataW H) h1 h2 => wt_struct (j := j) (f := f) (d := d) hu hz h1 h2
    have z0 := zz 0 f0 y0.1 rfl rfl
    have z1 := zz 1 f1 y1.1 rfl rfl
    have z5 := zz 5 f5 y5.1 rfl rfl
    rw [t0] at z0
    rw [t1] at z1
    rw [t5] at z5
    obtain ⟨s0, e0, d0, b0⟩ := DataW.trod_string Tryz.underlying9 (show DataW.trod enc Tryz.prog w base spare held k 9 [v0] = some y0 from g0)
    obtain ⟨pa, pc, ps, e1, hS1, hl1⟩ := open_strs_raw (show DataW.trod enc Tryz.prog w base spare held k 33 [v1] = some y1 from g1) z1
    obtain ⟨n2, e2, _, b2⟩ := DataW.trod_int Tryz.underlying3 (show DataW.trod enc Tryz.prog w base spare held k 3 [v2] = some y2 from g2)
    obtain ⟨n3, e3, _, b3⟩ := DataW.trod_int Tryz.underlying3 (show DataW.trod enc Tryz.prog w base spare held k 3 [v3] = some y3 from g3)
    obtain ⟨n4, e4, _, b4⟩ := DataW.trod_int Tryz.underlying3 (show DataW.trod enc Tryz.prog w base spare held k 3 [v4] = some y4 from g4)
    obtain ⟨la, lc, l, e5, hS5, hl5⟩ := open_strs_raw (show DataW.trod enc Tryz.prog w base spare held k 33 [v5] = some y5 from g5) z5
    rw [d0] at z0
    cases e0; cases e1; cases e2; cases e3; cases e4; cases e5
    exact ⟨⟨⟨s0, ps, n2, n3, n4, l⟩, pa, pc, la, lc⟩, rfl, ⟨hS1, hS5⟩, ⟨wt_string z0, hl1, b2, b3, b4, hl5⟩⟩
end
end Go.Proofs.YtbblkknndaoefaaGreatDoor
namespace Go.Proofs.YtbblkknndaoefaaGreatDoor
open Go.RowKit Go.Maps
set_option linter.unusedVariables false

set_option maxRecDepth 100000 in
set_option maxHeartbeats 8000000 in
theorem vwants_walk (A : ArrM) (di : ByteArray) (k rd : Int) (w : World) (hS : Strs w A.pa A.pc A.ps ∧ Strs w A.la A.lc A.l) (hA : ArrIn A) (hdi : di.size ≤ reachBytes) (hk : (Lit.int .i64 k).wf = true) (hrd : (Lit.int .i64 rd).wf = true) (hE : Env w) :
    Calls Tryz.prog 5 #[.agg A.vals, .string di, .int .i64 k, .int .i64 rd] w fun e w' => e = .returned (.bool true) ∧ Fr No w w' := by
  obtain ⟨⟨ai, ps, t, e, n, l⟩, pa, pc, la, lc⟩ := A
  obtain ⟨hS1, hS2⟩ := hS
  obtain ⟨hz1, ⟨hz2, _⟩, _, _, _, ⟨hz3, _⟩⟩ := hA
  simp only at hS1 hS2 hz1 hz2 hz3
  have hz1' : ai.size ≤ 140737488351232 := hz1
  have hz2' : ps.length * 16 ≤ 140737488351232 := hz2
  have hz3' : l.length * 16 ≤ 140737488351232 := hz3
  have hz4' : di.size ≤ 140737488351232 := hdi
  clear hz1 hz2 hz3 hdi
  unfold ArrM.vals
  simp only
  have hx : Fr No w (w.alloc (.cells #[.string ai, .slice pa ps.length pc, .int .i64 t, .int .i64 e, .int .i64 n, .slice la l.length lc] 42)) := (Fr.refl _ _).alloc _
  have q4 := block_alloc w (.cells #[.string ai, .slice pa ps.length pc, .int .i64 t, .int .i64 e, .int .i64 n, .slice la l.length lc] 42)
  obtain ⟨W0, hW0⟩ : ∃ W0, W0 = w.alloc (.cells #[.string ai, .slice pa ps.length pc, .int .i64 t, .int .i64 e, .int .i64 n, .slice la l.length lc] 42) := ⟨_, rfl⟩
  rw [← hW0] at hx q4
  have hE0 := hE.no hx
  have y0 : W0.cell? ⟨w.heap.size, 0, none⟩ = some (.string ai) := cell_of_block q4 0
  have y1 : W0.cell? ⟨w.heap.size, 1, none⟩ = some (.slice pa ps.length pc) := cell_of_block q4 1
  have y2 : W0.cell? ⟨w.heap.size, 2, none⟩ = some (.int .i64 t) := cell_of_block q4 2
  have y3 : W0.cell? ⟨w.heap.size, 3, none⟩ = some (.int .i64 e) := cell_of_block q4 3
  have y4 : W0.cell? ⟨w.heap.size, 4, none⟩ = some (.int .i64 n) := cell_of_block q4 4
  have y5 : W0.cell? ⟨w.heap.size, 5, none⟩ = some (.slice la l.length lc) := cell_of_block q4 5
  have Hx := Lib.hid hx
  have Hq4 := Lib.hid q4
  have hkn := known34 W0 hE0
  have hlt0 := lt_of_block q4
  clear hx q4 hE
  go_enter Tryz.func5, Tryz.ntmps5
  go_upto_region 1 with (fail)
  rw [← hW0]
  clear hW0
  by_cases h1 : ai.size + di.size ≤ 200
  · by_cases h2 : l.length + ps.length ≤ 100
    · have h1' : ¬ (200 : Int) < (ai.size : Int) + di.size := by omega
      have h2' : ¬ (100 : Int) < (l.length : Int) + ps.length := by omega
      have hai : ai.size ≤ 1000000 := by omega
      have hdi : di.size ≤ 1000000 := by omega
      have hl6 : l.length ≤ 1000000 := by omega
      have hp6 : ps.length ≤ 1000000 := by omega
      clear hkn
      -- the copy
      have hfx : Fr No W0 (W0.alloc (.cells #[.string ai, .slice pa ps.length pc, .int .i64 t, .int .i64 e, .int .i64 t, .slice la l.length lc] 42)) := (Fr.refl _ _).alloc _
      have qs := block_alloc W0 (.cells #[.string ai, .slice pa ps.length pc, .int .i64 t, .int .i64 e, .int .i64 t, .slice la l.length lc] 42)
      have q44 := hfx.heap Hq4.out id
      obtain ⟨W1, hW1⟩ : ∃ W1, W1 = W0.alloc (.cells #[.string ai, .slice pa ps.length pc, .int .i64 t, .int .i64 e, .int .i64 t, .slice la l.length lc] 42) := ⟨_, rfl⟩
      rw [← hW1] at qs hfx q44
      have hE1 := hE0.no hfx
      have hS11 := (hS1.no Hx.out (fun _ => id)).no hfx (fun _ => id)
      have hS21 := (hS2.no Hx.out (fun _ => id)).no hfx (fun _ => id)
      have Hfx := Lib.hid (Hx.out.step hfx (fun _ _ h => h))
      clear hfx hE0 Hx Hq4 hS1 hS2
      go_upto_region 5 with (fail)
      rw [← hW1]
      clear hW1 y0 y1 y2 y3 y4 y5
      have hG : ∀ (W : World), Fr No W1 W → ((∀ g : Gr No W, g.W.cell? ⟨w.heap.size, 0, none⟩ = some (.string ai)) ∧ (∀ g : Gr No W, g.W.cell? ⟨w.heap.size, 1, none⟩ = some (.slice pa ps.length pc)) ∧ (∀ g : Gr No W, g.W.cell? ⟨w.heap.size, 2, none⟩ = some (.int .i64 t)) ∧ (∀ g : Gr No W, g.W.cell? ⟨w.heap.size, 3, none⟩ = some (.int .i64 e)) ∧ (∀ g : Gr No W, g.W.cell? ⟨w.heap.size, 4, none⟩ = some (.int .i64 n)) ∧ (∀ g : Gr No W, g.W.cell? ⟨w.heap.size, 5, none⟩ = some (.slice la l.length lc))) ∧ ((∀ g : Gr No W, g.W.cell? ⟨W0.heap.size, 0, none⟩ = some (.string ai)) ∧ (∀ g : Gr No W, g.W.cell? ⟨W0.heap.size, 1, none⟩ = some (.slice pa ps.length pc)) ∧ (∀ g : Gr No W, g.W.cell? ⟨W0.heap.size, 2, none⟩ = some (.int .i64 t)) ∧ (∀ g : Gr No W, g.W.cell? ⟨W0.heap.size, 3, none⟩ = some (.int .i64 e)) ∧ (∀ g : Gr No W, g.W.cell? ⟨W0.heap.size, 4, none⟩ = some (.int .i64 t)) ∧ (∀ g : Gr No W, g.W.cell? ⟨W0.heap.size, 5, none⟩ = some (.slice la l.length lc))) := fun W h =>
        ⟨⟨fun g => g.fr.cell (cell_of_block (h.heap q44 id) 0) id, fun g => g.fr.cell (cell_of_block (h.heap q44 id) 1) id, fun g => g.fr.cell (cell_of_block (h.heap q44 id) 2) id, fun g => g.fr.cell (cell_of_block (h.heap q44 id) 3) id, fun g => g.fr.cell (cell_of_block (h.heap q44 id) 4) id, fun g => g.fr.cell (cell_of_block (h.heap q44 id) 5) id⟩, ⟨fun g => g.fr.cell (cell_of_block (h.heap qs id) 0) id, fun g => g.fr.cell (cell_of_block (h.heap qs id) 1) id, fun g => g.fr.cell (cell_of_block (h.heap qs id) 2) id, fun g => g.fr.cell (cell_of_block (h.heap qs id) 3) id, fun g => g.fr.cell (cell_of_block (h.heap qs id) 4) id, fun g => g.fr.cell (cell_of_block (h.heap qs id) 5) id⟩⟩
      have HG := Lib.hid hG
      have HE := Lib.hid hE1
      have HS := Lib.hid (And.intro hS11 hS21)
      obtain ⟨nm, hnm⟩ : ∃ nm, nm = (if lvOk di k = true then lvT di k else ⟨#[]⟩) := ⟨_, rfl⟩
      obtain ⟨er, her⟩ : ∃ er : Int, er = (if lvOk di k = true then 0 else 340) := ⟨_, rfl⟩
      have hn1 := v_name di k W1 HE.out hdi hk
      rw [← hnm, ← her] at hn1
      have Hnm := Lib.hid hnm
      have Her := Lib.hid her
      clear hG hE1 hS11 hS21 qs q44 hnm her
      go_wp2_with fail
      refine hn1.mono ?_
      rintro en w2 ⟨rfl, hf2⟩
      have hn2 := ref_name di k w2 (HE.out.no hf2) hdi hk
      rw [← Hnm.out, ← Her.out] at hn2
      have Hf2 := Lib.hid hf2
      clear hn1 hf2
      go_wp2_with fail
      refine hn2.mono ?_
      rintro en w3 ⟨rfl, hf3⟩
      have Hf3 := Lib.hid (Hf2.out.step hf3 (fun _ _ h => h))
      clear hn2 hf3
      go_wp2_with fail
      refine region_sig No [(0, false), (1, false), (2, false), (3, false), (4, false), (5, false), (6, false), (7, false), (8, false), (9, false), (10, false), (12, false), (13, false), (11, true), (14, true), (15, true), (16, false), (17, false), (18, false), (19, false), (21, false), (22, false), (20, true), (23, true), (24, true), (25, false), (26, false), (27, false), (29, false), (28, true), (30, true), (31, true), (32, false), (33, false), (34, true), (35, false), (36, false)] (by kernel_rfl) (by kernel_rfl) (fun w0 hf0 => ?_)
      have Hf0 := Lib.hid (Hf3.out.step hf0 (fun _ _ h => h))
      obtain ⟨⟨g0, g1, g2, g3, g4, g5⟩, k0, k1, k2, k3, k4, k5⟩ := HG.out w0 Hf0.out
      clear hf0
      repeat (first | (apply sig_q; exact rfl; exact rfl; exact rfl; intro K hK; go_big_quiet_op; go_big_quiet_on) | (apply sig_skip; exact rfl; exact rfl; exact rfl; intro K hK; go_big_quiet_op; go_big_quiet_on))
      clear g0 g1 g2 g3 g4 g5 k0 k1 k2 k3 k4 k5
      have hwn := v_want ai t e n rd pa ps.length pc la lc l _ (HE.out.no Hf0.out) hai (HS.out.2.no Hf0.out (fun _ => id)) hl6
      apply sig_m
      exact rfl
      go_wp2_with fail
      refine hwn.mono ?_
      rintro en w7 ⟨⟨ua, uc, U, rfl, hU, hUe⟩, hf7⟩
      have HUe := Lib.hid hUe
      have Hf7 := Lib.hid (Hf0.out.step hf7 (fun _ _ h => h))
      have hrw := ref_want ai t e n rd pa ps.length pc la lc l w7 (HE.out.no Hf7.out) hai (HS.out.2.no Hf7.out (fun _ => id)) hl6
      clear hwn hUe
      go_wp2_with fail
      refine OnlyN.mk ⟨hf7, ?_⟩
      clear hf7
      apply sig_m
      exact rfl
      go_wp2_with fail
      refine hrw.mono ?_
      rintro en w8 ⟨⟨va, vc, V, rfl, hV, hVe⟩, hf8⟩
      have hUV : U = V := by rw [HUe.out, hVe]
      subst hUV
      have hsv := same_virtuals_eq ua va uc vc U w8 (hU.no hf8 (fun _ => id)) hV
      have Hf8 := Lib.hid (Hf7.out.step hf8 (fun _ _ h => h))
      clear hrw hVe hU hV HUe
      go_wp2_with fail
      refine OnlyN.mk ⟨hf8, ?_⟩
      clear hf8
      apply sig_m
      exact rfl
      go_wp2_with fail
      refine hsv.mono ?_
      rintro en w9 ⟨rfl, hf9⟩
      have Hp := Lib.hid (Hf8.out.step hf9 (fun _ _ h => h))
      clear hsv
      go_wp2_with fail
      refine OnlyN.mk ⟨hf9, ?_⟩
      clear hf9
      obtain ⟨⟨g0, g1, g2, g3, g4, g5⟩, k0, k1, k2, k3, k4, k5⟩ := HG.out _ Hp.out
      repeat (first | (apply sig_q; exact rfl; exact rfl; exact rfl; intro K hK; go_big_quiet_op; go_big_quiet_on) | (apply sig_skip; exact rfl; exact rfl; exact rfl; intro K hK; go_big_quiet_op; go_big_quiet_on))
      clear g0 g1 g2 g3 g4 g5 k0 k1 k2 k3 k4 k5
      have Hf0 := Hp
      clear Hp
      have hwn := v_want ai t e t rd pa ps.length pc la lc l _ (HE.out.no Hf0.out) hai (HS.out.2.no Hf0.out (fun _ => id)) hl6
      apply sig_m
      exact rfl
      go_wp2_with fail
      refine hwn.mono ?_
      rintro en w7 ⟨⟨ua, uc, U, rfl, hU, hUe⟩, hf7⟩
      have HUe := Lib.hid hUe
      have Hf7 := Lib.hid (Hf0.out.step hf7 (fun _ _ h => h))
      have hrw := ref_want ai t e t rd pa ps.length pc la lc l w7 (HE.out.no Hf7.out) hai (HS.out.2.no Hf7.out (fun _ => id)) hl6
      clear hwn hUe
      go_wp2_with fail
      refine OnlyN.mk ⟨hf7, ?_⟩
      clear hf7
      apply sig_m
      exact rfl
      go_wp2_with fail
      refine hrw.mono ?_
      rintro en w8 ⟨⟨va, vc, V, rfl, hV, hVe⟩, hf8⟩
      have hUV : U = V := by rw [HUe.out, hVe]
      subst hUV
      have hsv := same_virtuals_eq ua va uc vc U w8 (hU.no hf8 (fun _ => id)) hV
      have Hf8 := Lib.hid (Hf7.out.step hf8 (fun _ _ h => h))
      clear hrw hVe hU hV HUe
      go_wp2_with fail
      refine OnlyN.mk ⟨hf8, ?_⟩
      clear hf8
      apply sig_m
      exact rfl
      go_wp2_with fail
      refine hsv.mono ?_
      rintro en w9 ⟨rfl, hf9⟩
      have Hp := Lib.hid (Hf8.out.step hf9 (fun _ _ h => h))
      clear hsv
      go_wp2_with fail
      refine OnlyN.mk ⟨hf9, ?_⟩
      clear hf9
      obtain ⟨⟨g0, g1, g2, g3, g4, g5⟩, k0, k1, k2, k3, k4, k5⟩ := HG.out _ Hp.out
      repeat (first | (apply sig_q; exact rfl; exact rfl; exact rfl; intro K hK; go_big_quiet_op; go_big_quiet_on) | (apply sig_skip; exact rfl; exact rfl; exact rfl; intro K hK; go_big_quiet_op; go_big_quiet_on))
      clear g0 g1 g2 g3 g4 g5 k0 k1 k2 k3 k4 k5
      have hvl := v_lacks ai t e n (.slice la l.length lc) pa pc ps _ (HS.out.1.no Hp.out (fun _ => id)) hp6
      apply sig_m
      exact rfl
      go_wp2_with fail
      refine hvl.mono ?_
      rintro en w10 ⟨⟨xa, xc, rfl, hX⟩, hf10⟩
      have hrl := ref_lacks ai t e n (.slice la l.length lc) pa pc ps w10 (HS.out.1.no (Hp.out.step hf10 (fun _ _ h => h)) (fun _ => id)) hp6
      have Hf10 := Lib.hid (Hp.out.step hf10 (fun _ _ h => h))
      clear hvl
      go_wp2_with fail
      refine OnlyN.mk ⟨hf10, ?_⟩
      clear hf10
      apply sig_m
      exact rfl
      go_wp2_with fail
      refine hrl.mono ?_
      rintro en w11 ⟨⟨ya, yc, rfl, hY⟩, hf11⟩
      have hsi := ints_same xa ya xc yc (lacksF ps ps.length) (lacksF ps ps.length) w11 (hX.no hf11 (fun _ => id)) hY
      have Hf11 := Lib.hid (Hf10.out.step hf11 (fun _ _ h => h))
      clear hrl hX hY
      go_wp2_with fail
      refine OnlyN.mk ⟨hf11, ?_⟩
      clear hf11
      apply sig_m
      exact rfl
      go_wp2_with fail
      refine hsi.mono ?_
      rintro en w12 ⟨rfl, hf12⟩
      have Hf12 := Lib.hid (Hf11.out.step hf12 (fun _ _ h => h))
      clear hsi
      go_wp2_with fail
      refine OnlyN.mk ⟨hf12, ?_⟩
      clear hf12
      repeat (first | (apply sig_q; exact rfl; exact rfl; exact rfl; intro K hK; go_big_quiet_op; go_big_quiet_on) | (apply sig_skip; exact rfl; exact rfl; exact rfl; intro K hK; go_big_quiet_op; go_big_quiet_on))
      have hkn := known34 w12 (HE.out.no Hf12.out)
      apply sig_m
      exact rfl
      go_wp2_with fail
      refine hkn.mono ?_
      rintro en wf ⟨rfl, hff⟩
      have Hff := Lib.hid (Hfx.out.step (Hf12.out.step hff (fun _ _ h => h)) (fun _ _ h => h))
      clear hkn
      go_wp2_with fail
      refine OnlyN.mk ⟨hff, ?_⟩
      clear hff
      repeat (first | (apply sig_q; exact rfl; exact rfl; exact rfl; intro K hK; go_big_quiet_op; go_big_quiet_on) | (apply sig_skip; exact rfl; exact rfl; exact rfl; intro K hK; go_big_quiet_op; go_big_quiet_on))
      refine sig_end ?_
      go_wp2_with fail
      go_ret
      exact ⟨rfl, Hff.out⟩
    · have h1' : ¬ (200 : Int) < (ai.size : Int) + di.size := by omega
      have h2' : (100 : Int) < (l.length : Int) + ps.length := by omega
      go_wp2_with fail
      refine hkn.mono ?_
      rintro en wf ⟨rfl, hff⟩
      have hfin := Hx.out.step hff (fun _ _ h => h)
      go_wp2_with fail
      go_ret
      exact ⟨rfl, hfin⟩
  · have h1' : (200 : Int) < (ai.size : Int) + di.size := by omega
    go_wp2_with fail
    refine hkn.mono ?_
    rintro en wf ⟨rfl, hff⟩
    have hfin := Hx.out.step hff (fun _ _ h => h)
    go_wp2_with fail
    go_ret
    exact ⟨rfl, hfin⟩
end Go.Proofs.YtbblkknndaoefaaGreatDoor
namespace Go.Proofs.YtbblkknndaoefaaGreatDoor.volumeWants
open Go.ChangeShapes Go.WideShapes Go.ChangeAt Go.RowKit
open Go.ChangeMaps (open_string shut_string)
set_option linter.unusedVariables false

theorem own : ownKnob Tryz.prog.godebug = none := by kernel_rfl
theorem laidOut : laidOutB Tryz.prog = true := by kernel_rfl

set_option maxRecDepth 100000 in
theorem lifted (os : Os) (started : os.Started) (H : Type) (enc : TypeId × Value → H) :
    ReturnsInHanded {} Tryz.checked os 5 .any (fun w args => (Rows.volumeWantsSpec.pre enc Tryz.prog Tryz.f5 Rows.volumeWantsRow.domain false w args ∧ laidMetH Tryz.prog Rows.volumeWantsRow.laid w) ∧ sizedMet enc Tryz.prog Tryz.f5 (OpenSpec.ofChange Rows.volumeWantsSpec) false w args)
      (Rows.volumeWantsSpec.post enc Tryz.prog Tryz.f5 false true false false) := by
  refine returns_laid_sized (C := Tryz.checked) (X := fun w _ => laidMetH Tryz.prog Rows.volumeWantsRow.laid w) (fun _ _ _ hh h => h.of_heap hh) own started (by kernel_rfl) Tryz.func5
    (ChangeSpec.witness_shaped (enc := enc) (C := Tryz.checked) (os := os) (X := fun w _ => laidMetH Tryz.prog Rows.volumeWantsRow.laid w) false (World.laidAll Tryz.prog os Rows.volumeWantsRow.laid) #[.agg #[.string ⟨#[]⟩, .slice none 0 0, .int .i64 0, .int .i64 0, .int .i64 0, .slice none 0 0], .string ⟨#[]⟩, .int .i64 0, .int .i64 0] 8 (World.laidAll_os _ _ _)
      (World.shaped_of_ZipB (by kernel_rfl) (by kernel_rfl)) (by kernel_rfl) (by kernel_rfl) (by kernel_rfl)
      (by rw [MakeChecks.laidMetH_plain _ _ _ (by kernel_rfl)]; exact laidMet_laidAll _ (by kernel_rfl) (by kernel_rfl))) ?_
  intro W base args ds gs before hval0 hW hz hL hsh
  have hval : ∀ (j : Nat) t v, Tryz.f5.params[j]? = some t → args[j]? = some v → Value.okWide Tryz.prog W .any base t v := hval0
  have hW' := hW
  obtain ⟨p, q, hA0, hV, rfl, hfz, hnd⟩ := hW
  have hA : DataW.TrodAll enc Tryz.prog W 0 (fun _ => true) true Tryz.f5.params.toList args.toList ds p := hA0
  have hsz : ∀ (j : Nat) (t : TypeId) (d : DataW H), (Tryz.f5.params.toList ++ (OpenSpec.ofChange Rows.volumeWantsSpec).bare.plain.varTypes Tryz.prog)[j]? = some t → (ds ++ gs)[j]? = some d → Wt t d := fun j t d h1 h2 => wt_each hz h1 h2
  rw [Tryz.params5] at hA hval hsz
  obtain ⟨v0, vs0, d0, ds0, p0, q0, hargs, rfl, rfl, h0, r0⟩ := trodAll_cons hA
  obtain ⟨v1, vs1, d1, ds1, p1, q1, rfl, rfl, rfl, h1, r1⟩ := trodAll_cons r0
  obtain ⟨v2, vs2, d2, ds2, p2, q2, rfl, rfl, rfl, h2, r2⟩ := trodAll_cons r1
  obtain ⟨v3, vs3, d3, ds3, p3, q3, rfl, rfl, rfl, h3, r3⟩ := trodAll_cons r2
  obtain ⟨rfl, rfl, rfl⟩ := trodAll_nil r3
  obtain rfl : args = #[v0, v1, v2, v3] := by cases args; simp_all
  obtain ⟨rfl, rfl⟩ := trodVars_none hV
  have z0 : Wt 42 d0 := hsz 0 _ _ rfl rfl
  have z1 : Wt 9 d1 := hsz 1 _ _ rfl rfl
  have z2 : Wt 3 d2 := hsz 2 _ _ rfl rfl
  have z3 : Wt 3 d3 := hsz 3 _ _ rfl rfl
  clear hsz hz
  obtain ⟨cs0, rfl, _⟩ := okWide_struct Tryz.underlying42 (hval 0 42 v0 rfl rfl)
  have k0 := h0
  have lt0 : ∀ x ∈ p0, x.block < W.heap.size := by obtain ⟨m, hm⟩ := k0; exact DataW.trod_lt m _ _ _ hm
  obtain ⟨a0, e0, hl0, b0⟩ : ∃ m : ArrM, cs0 = m.vals ∧ (Strs W m.pa m.pc m.ps ∧ Strs W m.la m.lc m.l) ∧ ArrIn m := by
    obtain ⟨fuel, hf⟩ := h0
    obtain ⟨m, hcs, h1, h2⟩ := open_arr_raw hf z0
    refine ⟨m, ?_, h1, h2⟩
    simp [Value.cells] at hcs
    exact hcs
  subst e0
  obtain ⟨a1, rfl, rfl, rfl, w1⟩ := open_string Tryz.underlying9 (hval 1 9 v1 rfl rfl) h1
  have b1 : a1.size ≤ reachBytes := wt_string z1
  obtain ⟨a2, rfl, rfl, rfl, w2⟩ := open_int Tryz.underlying3 (hval 2 3 v2 rfl rfl) h2
  obtain ⟨a3, rfl, rfl, rfl, w3⟩ := open_int Tryz.underlying3 (hval 3 3 v3 rfl rfl) h3
  rw [MakeChecks.laidMetH_plain _ _ _ (by kernel_rfl)] at hL
  have hE := env_of hsh hL
  clear hA0 hval0
  refine (vwants_walk a0 a1 a2 a3 W hl0 b0 b1 w2 w3 hE).mono fun e W' ⟨he, hfr⟩ => ?_
  have bel : Below W.heap.size W W' := hfr.below (Nat.le_refl _) (fun b hb e => e)
  subst he
  exact ⟨_, rfl, _, _, _, [], _, [], hW', trodAll_mk1 (shut_bool Tryz.underlying4 _), (trodAll_cons_mk (Below.trod laidOut (by kernel_rfl) (of_decide_eq_true (by kernel_rfl)) k0 bel lt0) (trodAll_cons_mk (shut_string Tryz.underlying9 w1) (trodAll_cons_mk (shut_int Tryz.underlying3 w2) (trodAll_cons_mk (shut_int Tryz.underlying3 w3) trodAll_mk0)))), rfl, bel.frame _, fun h => by cases h⟩

theorem isNamed : Tryz.pinned.checked.prog.funcNamed Rows.volumeWantsRow.func = some 5 := by kernel_rfl
theorem and2 {a b : Bool} (h : a = true) (k : b = true) : (a && b) = true := by rw [h, k]; rfl
theorem c0 : (Rows.volumeWantsRow.wf (OpenSpec.ofChange Rows.volumeWantsSpec)) = true := by kernel_rfl
theorem c1 : (laidOutB Tryz.pinned.checked.prog) = true := by kernel_rfl
theorem c2 : (mapsRowed Tryz.pinned.checked.prog) = true := by kernel_rfl
theorem c3 : (Tryz.f5.params.all (Tryz.pinned.checked.prog.readableRec ·)) = true := by kernel_rfl
theorem c4 : (namedTie Tryz.pinned.checked.prog Rows.volumeWantsRow.named Rows.volumeWantsSpec.vars) = true := by kernel_rfl
theorem c5 : ((Rows.volumeWantsRow.stops == [])) = true := by kernel_rfl
theorem c6 : ((Tryz.pinned.checked.prog.stops == [])) = true := by kernel_rfl
theorem c7 : ((Rows.volumeWantsRow.knobs == [])) = true := by kernel_rfl
theorem c8 : ((Tryz.pinned.checked.prog.stopKnobs == [])) = true := by kernel_rfl
theorem c9 : ((Rows.volumeWantsRow.inPlace == Tryz.pinned.checked.prog.inPlace 5)) = true := by kernel_rfl
theorem c10 : ((Rows.volumeWantsRow.unfollowed == Tryz.pinned.checked.prog.unfollowed 5)) = true := by kernel_rfl
theorem c11 : ((Rows.volumeWantsRow.recurses == Tryz.pinned.checked.prog.recurses 5)) = true := by kernel_rfl
theorem c12 : ((Rows.volumeWantsRow.named == Tryz.pinned.checked.prog.varsNamed 5)) = true := by kernel_rfl
theorem c13 : ((Rows.volumeWantsRow.maps == (Tryz.f5.params.toList ++ Rows.volumeWantsSpec.plain.varTypes Tryz.pinned.checked.prog).any (Tryz.pinned.checked.prog.mapsRec ·))) = true := by kernel_rfl
theorem c14 : ((Rows.volumeWantsRow.ifaces == (Tryz.f5.params.toList ++ Rows.volumeWantsSpec.plain.varTypes Tryz.pinned.checked.prog).any (Tryz.pinned.checked.prog.ifacesRec ·))) = true := by kernel_rfl
theorem c15 : ((Rows.volumeWantsRow.mapsOut == Tryz.pinned.checked.prog.mapsAmong Tryz.f5.resultTypes.toList)) = true := by kernel_rfl
theorem c16 : ((Rows.volumeWantsRow.loops == (Tryz.f5.params.toList ++ Rows.volumeWantsSpec.plain.varTypes Tryz.pinned.checked.prog).any (Tryz.pinned.checked.prog.loopsFrom ·))) = true := by kernel_rfl
theorem c17 : ((Rows.volumeWantsRow.wideKeys == (Tryz.f5.params.toList ++ Rows.volumeWantsSpec.plain.varTypes Tryz.pinned.checked.prog ++ Tryz.f5.resultTypes.toList).any (Tryz.pinned.checked.prog.wideKeysFrom ·))) = true := by kernel_rfl
theorem c18 : (Rows.volumeWantsSpec.vars.all (Tryz.pinned.checked.prog.varReadable ·)) = true := by kernel_rfl
theorem c19 : (Tryz.f5.resultTypes.all (fun t => Tryz.pinned.checked.prog.readableRec t && decide (t < Tryz.pinned.checked.prog.types.size))) = true := by kernel_rfl
theorem c20 : ((Rows.volumeWantsRow.ifacesOut == Tryz.f5.resultTypes.toList.any (Tryz.pinned.checked.prog.ifacesRec ·))) = true := by kernel_rfl
theorem c21 : ((Rows.volumeWantsRow.loopsOut == Tryz.f5.resultTypes.toList.any (Tryz.pinned.checked.prog.loopsFrom ·))) = true := by kernel_rfl
theorem c22 : ((Rows.volumeWantsRow.plainKeys == Tryz.pinned.checked.prog.plainKeys)) = true := by kernel_rfl
theorem c23 : (Rows.volumeWantsRow.shortTexts.isNone) = true := by kernel_rfl
theorem c24 : (Tryz.pinned.checked.prog.stopsHeard) = true := by kernel_rfl
theorem c25 : (Tryz.pinned.checked.prog.mayEnter) = true := by kernel_rfl
theorem c26 : ((Rows.volumeWantsRow.lifted == Tryz.pinned.checked.prog.liftsFinal)) = true := by kernel_rfl
theorem c27 : ((Tryz.pinned.checked.prog.make == some Rows.volumeWantsRow.make)) = true := by kernel_rfl
theorem c28 : ((Rows.volumeWantsRow.kinds == (if Rows.volumeWantsRow.domain.isEmpty then [] else Tryz.f5.params.toList.map fun t => match Tryz.pinned.checked.prog.underlying t with | some (.int k) => some k | _ => none))) = true := by kernel_rfl
theorem c29 : ((Rows.volumeWantsRow.pinned == Rows.volumeWantsRow.pinnedBy)) = true := by kernel_rfl
theorem c30 : ((Rows.volumeWantsRow.veiled == (Tryz.f5.params.toList ++ Rows.volumeWantsSpec.plain.varTypes Tryz.pinned.checked.prog ++ Tryz.f5.resultTypes.toList).any (Tryz.pinned.checked.prog.veiledRec ·))) = true := by kernel_rfl
theorem c31 : (Rows.volumeWantsRow.veiledFits Tryz.pinned.checked.prog Tryz.f5.params.toList (Tryz.f5.params.toList ++ Rows.volumeWantsSpec.plain.varTypes Tryz.pinned.checked.prog ++ Tryz.f5.resultTypes.toList)) = true := by kernel_rfl
set_option maxRecDepth 100000 in
theorem closed : joinedFacts Tryz.pinned.checked.prog 5 Tryz.f5 Rows.volumeWantsSpec Rows.volumeWantsRow = true := by
  unfold joinedFacts
  exact (and2 (and2 (and2 (and2 (and2 (and2 (and2 (and2 (and2 (and2 (and2 (and2 (and2 (and2 (and2 (and2 (and2 (and2 (and2 (and2 (and2 (and2 (and2 (and2 (and2 (and2 (and2 (and2 (and2 (and2 (and2 c0 c1) c2) c3) c4) c5) c6) c7) c8) c9) c10) c11) c12) c13) c14) c15) c16) c17) c18) c19) c20) c21) c22) c23) c24) c25) c26) c27) c28) c29) c30) c31)
theorem inst : Tryz.f5.isInstance Tryz.pinned.checked.prog Rows.volumeWantsRow.origin Rows.volumeWantsRow.targs := of_decide_eq_true (by kernel_rfl)
theorem wrap : Tryz.f5.isWrapper Tryz.pinned.checked.prog Rows.volumeWantsRow.wrapper Rows.volumeWantsRow.mainSum := by
  unfold Func.isWrapper; first | (rw [if_pos (by decide +kernel)]; kernel_rfl) | (rw [if_neg (by decide +kernel)]; exact ⟨rfl, rfl⟩)
theorem over : Rows.volumeWantsRow.holds Tryz.pinned (OpenSpec.ofChange Rows.volumeWantsSpec) :=
  OpenClaim.holds_of_wide 5 Tryz.f5 rfl rfl rfl rfl rfl rfl rfl ⟨rfl, rfl, rfl, rfl, rfl⟩ rfl rfl rfl rfl rfl isNamed Tryz.func5 closed inst wrap
    (fun os started H enc _ => lifted os started H enc)

theorem t1 : Rows.volumeWantsRow.wfByText (OpenSpec.ofChange Rows.volumeWantsSpec) = true := by kernel_rfl
theorem t2 : Tryz.pinned.checked.prog.mainIs = some ((true, "7c35bbe876a6797357c7d4d4c7eda80dfa3d5b512daa5cf20d9229a0a48d5af4").1, (true, "7c35bbe876a6797357c7d4d4c7eda80dfa3d5b512daa5cf20d9229a0a48d5af4").2.toList) := by kernel_rfl
theorem t3 : true = Tryz.pinned.checked.prog.looks [] := by kernel_rfl
theorem t4 : false = Rows.volumeWantsRow.goesBy Tryz.pinned.checked.prog := by kernel_rfl
theorem t5 : Tryz.prog.funcNamed "coldplug/coldpluglaw34.VolumeWants" = some 5 := by kernel_rfl
theorem t6 : ([42, 9, 3, 3].all fun u => !Tryz.prog.wantsStandIn u) = true := by kernel_rfl
theorem proved : Rows.VolumeWantsCardSaid :=
  Claim7.holds_tied_plain_at .later [] [.data, .data, .data, .data, .sentinel, .sentinel, .pinned, .pinned] true (true, "7c35bbe876a6797357c7d4d4c7eda80dfa3d5b512daa5cf20d9229a0a48d5af4") true over (fun _ h => by cases h) t1 (fun _ h => by cases h) volumeWants_row_tie rfl ⟨rfl, rfl⟩ t2 rfl
    (fun f fn hf hfn => by
      obtain rfl : f = 5 := Option.some.inj (t5.symm.trans hf) |>.symm
      obtain rfl : fn = Tryz.f5 := (Option.some.inj (Tryz.func5.symm.trans hfn)).symm
      exact ⟨t3, fun j t ht => by
        rw [Tryz.params5] at ht
        have hm : t ∈ [42, 9, 3, 3] := by simpa using Array.mem_of_getElem? ht
        have hall : ([42, 9, 3, 3].all fun u => !Tryz.prog.wantsStandIn u) = true := t6
        exact (show Tryz.prog.wantsStandIn t = false by simpa using List.all_eq_true.1 hall t hm)⟩)
    t4
#print axioms proved
end Go.Proofs.YtbblkknndaoefaaGreatDoor.volumeWants
