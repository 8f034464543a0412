/- SeatOf: the walk. -/
import Derived.Test.YtpnpjaemlflplaaGreatDoorKH
import Derived.Test.YtpnpjaemlflplaaGreatDoorKE
namespace Go.Proofs.YtpnpjaemlflplaaGreatDoor
open Go.RowKit Go.Maps
set_option linter.unusedVariables false

set_option maxRecDepth 100000 in
set_option maxHeartbeats 4000000 in
theorem of_walk (la : Option Addr) (lc : Nat) (l : List Int) (n : Int) (m : Int) (w : World) (hl : Ints w la lc l) (hn : (Lit.int .i64 n).wf = true) (hm : w.cell? ⟨0, 0, none⟩ = some (.int .i64 m)) (hw0 : 0 < w.heap.size) :
    Calls Tryz.prog 3 #[.slice la l.length lc, .int .i64 n] w fun e w' => e = .returned (.bool true) ∧ Fr No w w' := by
  go_enter Tryz.func3, Tryz.ntmps3
  go_wp2_with fail
  refine (site_walk la lc l m w hl hm hw0).mono ?_
  rintro e w1 ⟨⟨base, a, cap, ds, ra, rc, out, rfl, hS⟩, hf1⟩
  have hT := hS.tr.wf.1
  have hx : Fr No w1 (w1.alloc (.cells #[.slice a ds.length cap] 25)) := (Fr.refl _ _).alloc _
  have b3 := block_alloc w1 (.cells #[.slice a ds.length cap] 25)
  have Hfx := Lib.hid (hf1.step hx (fun _ _ h => h))
  have hTr := hS.tr.no hx
  have hRc := hS.recs.no hx (fun _ => id)
  have hm1 := hS.tr.dv.lenmax
  have hdl := hS.len
  clear hf1 hl hm hS hx
  go_wp2_with fail
  generalize w1.alloc (.cells #[.slice a ds.length cap] 25) = W1 at *
  go_loopw [7] (fun i wr => ∃ k : Nat, k ≤ ds.length ∧ i = .int .i64 (k : Int) ∧ Fr No W1 wr) (fun i _ => ds.length - (intOf i).toNat)
  case atStart => exact ⟨0, by omega, rfl, Fr.refl _ _⟩
  case round =>
    obtain ⟨k, hk, rfl, hfr⟩ := hrel
    obtain ⟨Wk, rfl⟩ : ∃ Wk, Wk = wr := ⟨_, rfl⟩
    have b3r := hfr.heap b3 id
    have c3 : Wk.cell? ⟨w1.heap.size, 0, none⟩ = some (.slice a ds.length cap) := cell_of_block b3r 0
    by_cases hlt : k < ds.length
    · have hlt' : (k : Int) < ds.length := by omega
      go_wp2_with fail
      refine region_sig No [(0, false), (1, false), (2, false), (3, false), (4, false), (5, false), (6, false), (7, false), (9, false), (10, false), (11, false), (12, false), (13, false), (14, false), (15, false), (16, false), (8, true), (17, true), (18, false)] (by kernel_rfl) (by kernel_rfl) (fun w0 hf0 => ?_)
      have hf0w := hfr.step hf0 (fun _ _ h => h)
      have hT0 := hTr.no hf0w
      have hR0 := hRc.no hf0w (fun _ => id)
      obtain ⟨bb, off, x, hax, hxk, y0, y1, y2, y3, y4, y5, y6, y7, y8, y9⟩ := hT0.dv.dev hlt
      subst hax
      have hxw := hT.iwf (List.mem_of_getElem? hxk)
      have g3 : ∀ g : Gr No w0, g.W.cell? ⟨w1.heap.size, 0, none⟩ = some (.slice (some ⟨bb, off, none⟩) ds.length cap) := fun g => g.fr.cell (hf0.cell c3 id) id
      have g0 : ∀ g : Gr No w0, g.W.cell? ⟨bb, off + k * 10, none⟩ = some (.int .i64 x.index) := fun g => g.fr.cell y0 id
      have Hf0 := Lib.hid hf0w
      clear hxk y0 y1 y2 y3 y4 y5 y6 y7 y8 y9 c3 hf0w hfr
      repeat (apply sig_q; exact rfl; exact rfl; exact rfl; intro K hK; go_big_quiet_op; go_big_quiet_on)
      clear g3 g0
      apply sig_m
      exact rfl
      go_wp2_with fail
      refine (seat_of _ ra cap rc base ds out x.index _ hT0 (by omega) hxw hR0).mono ?_
      rintro e w2 ⟨rfl, hf2⟩
      have hT2 := hT0.no hf2
      have hR2 := hR0.no hf2 (fun _ => id)
      have Hf2 := Lib.hid (Hf0.out.step hf2 (fun _ _ h => h))
      clear hT0 hR0
      go_wp2_with fail
      refine OnlyN.mk ⟨hf2, ?_⟩
      clear hf2
      apply sig_m
      exact rfl
      go_wp2_with fail
      refine (ref_of _ ra cap rc ds out x.index _ hT2.dv hT (by omega) hR2).mono ?_
      rintro e w3 ⟨rfl, hf3⟩
      have Hf3 := Lib.hid (Hf2.out.step hf3 (fun _ _ h => h))
      clear hT2 hR2
      generalize seatOf ds out x.index = so at *
      have hb : (so.toList == so.toList) = true := by simp
      go_wp2_with fail
      refine OnlyN.mk ⟨hf3, ?_⟩
      clear hf3
      repeat (apply sig_q; exact rfl; exact rfl; exact rfl; intro K hK; go_big_quiet_op; go_big_quiet_on)
      refine sig_end ?_
      go_wp2_with fail
      go_roundw
      case rel => exact ⟨k + 1, by omega, by go_num, Hf3.out⟩
      case measure => simp [intOf]; omega
    · obtain rfl : k = ds.length := by omega
      have hTr4 := hTr.no hfr
      have hRc4 := hRc.no hfr (fun _ => id)
      have Hf4 := Lib.hid (Hfx.out.step hfr (fun _ _ h => h))
      clear hfr hTr hRc
      go_wp2_with fail
      refine region_sig No [(0, false), (1, false), (2, false), (4, false), (5, false), (6, false), (3, true), (7, true), (8, false), (9, false), (10, true), (11, false), (12, false)] (by kernel_rfl) (by kernel_rfl) (fun w0 hf0 => ?_)
      have g3 : ∀ g : Gr No w0, g.W.cell? ⟨w1.heap.size, 0, none⟩ = some (.slice a ds.length cap) := fun g => g.fr.cell (hf0.cell c3 id) id
      have hTr5 := hTr4.no hf0
      have hRc5 := hRc4.no hf0 (fun _ => id)
      have Hf5 := Lib.hid (Hf4.out.step hf0 (fun _ _ h => h))
      clear hTr4 hRc4 hf0 b3r c3
      repeat (apply sig_q; exact rfl; exact rfl; exact rfl; intro K hK; go_big_quiet_op; go_big_quiet_on)
      clear g3
      apply sig_m
      exact rfl
      go_wp2_with fail
      refine (seat_of a ra cap rc base ds out n _ hTr5 (by omega) hn hRc5).mono ?_
      rintro e w5 ⟨rfl, hf5⟩
      have hTr6 := hTr5.no hf5
      have hRc6 := hRc5.no hf5 (fun _ => id)
      have Hf6 := Lib.hid (Hf5.out.step hf5 (fun _ _ h => h))
      clear hTr5 hRc5
      go_wp2_with fail
      refine OnlyN.mk ⟨hf5, ?_⟩
      clear hf5
      apply sig_m
      exact rfl
      go_wp2_with fail
      refine (ref_of a ra cap rc ds out n _ hTr6.dv hT (by omega) hRc6).mono ?_
      rintro e w6 ⟨rfl, hf6⟩
      have Hf7 := Lib.hid (Hf6.out.step hf6 (fun _ _ h => h))
      clear hTr6 hRc6
      generalize seatOf ds out n = so at *
      have hb : (so.toList == so.toList) = true := by simp
      go_wp2_with fail
      refine OnlyN.mk ⟨hf6, ?_⟩
      clear hf6
      repeat (apply sig_q; exact rfl; exact rfl; exact rfl; intro K hK; go_big_quiet_op; go_big_quiet_on)
      apply sig_m
      exact rfl
      go_wp2_with fail
      refine (known_walk _).mono ?_
      rintro e w7 ⟨rfl, hf7⟩
      have Hf8 := Lib.hid (Hf7.out.step hf7 (fun _ _ h => h))
      go_wp2_with fail
      refine OnlyN.mk ⟨hf7, ?_⟩
      clear hf7
      repeat (apply sig_q; exact rfl; exact rfl; exact rfl; intro K hK; go_big_quiet_op; go_big_quiet_on)
      refine sig_end ?_
      go_wp2_with fail
      go_ret
      exact ⟨rfl, Hf8.out⟩
end Go.Proofs.YtpnpjaemlflplaaGreatDoor
