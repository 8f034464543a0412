/- SeatDevices: the walk. -/
import Derived.Test.YtpnpjaemlflplaaGreatDoorKJ
namespace Go.Proofs.YtpnpjaemlflplaaGreatDoor
open Go.RowKit Go.Maps
set_option linter.unusedVariables false

def all4 (raw : ByteArray) : List ByteArray := [seat0, seat1, seat2, raw]

set_option maxRecDepth 100000 in
set_option maxHeartbeats 4000000 in
theorem devices_walk (la : Option Addr) (lc : Nat) (l : List Int) (raw : ByteArray) (m : Int) (w : World) (hl : Ints w la lc l) (hraw : raw.size ≤ maxLen) (hm : w.cell? ⟨0, 0, none⟩ = some (.int .i64 m)) (hw0 : 0 < w.heap.size) :
    Calls Tryz.prog 4 #[.slice la l.length lc, .string raw] w fun e w' => e = .returned (.bool true) ∧ Fr No w w' := by
  have hrs : raw.size ≤ 9223372036854775807 := by unfold maxLen at hraw; omega
  go_enter Tryz.func4, Tryz.ntmps4
  by_cases h100 : (100 : Int) < (raw.size : Int)
  · go_wp2_with fail
    refine (known_walk _).mono ?_
    rintro e w5 ⟨rfl, hf5⟩
    go_wp2_with fail
    go_ret
    exact ⟨rfl, hf5⟩
  go_wp2_with fail
  refine (site_walk la lc l m w hl hm hw0).mono ?_
  rintro e w1 ⟨⟨base, a, cap, ds, ra, rc, out, rfl, hS⟩, hf1⟩
  have hT := hS.tr.wf.1
  have hx : Fr No w1 (w1.alloc (.cells #[.slice a ds.length cap] 25)) := (Fr.refl _ _).alloc _
  have b3 := block_alloc w1 (.cells #[.slice a ds.length cap] 25)
  have Hfx := Lib.hid (hf1.step hx (fun _ _ h => h))
  have hTr := hS.tr.no hx
  have hRc := hS.recs.no hx (fun _ => id)
  have hm1 := hS.tr.dv.lenmax
  have hdl := hS.len
  clear hf1 hl hm hS hx
  go_upto_region 4 with (fail)
  generalize w1.alloc (.cells #[.slice a ds.length cap] 25) = W1 at *
  have hy : Fr No W1 (W1.alloc (.cells #[.string seat0, .string seat1, .string seat2, .string raw] 9)) := (Fr.refl _ _).alloc _
  have hA : Strs (W1.alloc (.cells #[.string seat0, .string seat1, .string seat2, .string raw] 9)) (some ⟨W1.heap.size, 0, none⟩) 4 (all4 raw) := Strs.of_block (l := all4 raw) (block_alloc _ _) (by unfold maxLen all4; simp)
  have hlen4 : (all4 raw).length = 4 := rfl
  unfold seat0 seat1 seat2 at hy hA
  go_wp2_with fail
  have hTr3 := hTr.no hy
  have hRc3 := hRc.no hy (fun _ => id)
  have Hfx3 := Lib.hid (Hfx.out.step hy (fun _ _ h => h))
  have b33 := hy.heap b3 id
  clear hTr hRc b3 hy
  generalize W1.alloc (.cells _ 9) = W2 at *
  go_loopw [8] (fun i wr => ∃ k : Nat, k ≤ 4 ∧ i = .int .i64 (k : Int) ∧ Fr No W2 wr) (fun i _ => 4 - (intOf i).toNat)
  case atStart => exact ⟨0, by omega, rfl, Fr.refl _ _⟩
  case round =>
    obtain ⟨k, hk, rfl, hfr⟩ := hrel
    by_cases hlt : k < 4
    · have hlt' : (k : Int) < 4 := by omega
      go_wp2_with fail
      refine region_sig No [(0, false), (1, false), (2, false), (3, false), (4, false), (5, false), (7, false), (8, false), (9, false), (10, false), (11, false), (12, false), (6, true), (13, true), (14, true), (15, false), (16, false), (17, false), (18, false), (19, false), (20, false), (21, false), (22, false), (24, false), (25, false), (26, false), (27, false), (28, false), (29, false), (23, true), (30, true), (31, true), (32, false), (33, false)] (by kernel_rfl) (by kernel_rfl) (fun w0 hf0 => ?_)
      have hf0w := hfr.step hf0 (fun _ _ h => h)
      have hT0 := hTr3.no hf0w
      have hR0 := hRc3.no hf0w (fun _ => id)
      have b30 := hf0w.heap b33 id
      obtain ⟨bb, off, s, has, hsk, y0⟩ := (hA.no hf0w (fun _ => id)).at (k := k) (by rw [hlen4]; omega)
      cases has
      rw [Nat.zero_add] at y0
      have c3 : w0.cell? ⟨w1.heap.size, 0, none⟩ = some (.slice a ds.length cap) := cell_of_block b30 0
      have g0 : ∀ g : Gr No w0, g.W.cell? ⟨w1.heap.size, 0, none⟩ = some (.slice a ds.length cap) := fun g => g.fr.cell c3 id
      have g1 : ∀ g : Gr No w0, g.W.cell? ⟨W1.heap.size, k, none⟩ = some (.string s) := fun g => g.fr.cell y0 id
      have Hf0 := Lib.hid hf0w
      clear hf0w hf0 hfr b30 hsk
      repeat (apply sig_q; exact rfl; exact rfl; exact rfl; intro K hK; go_big_quiet_op; go_big_quiet_on)
      clear g0 g1
      apply sig_m
      exact rfl
      go_wp2_with fail
      refine (seat_devices a ra cap rc base ds out s _ hT0 (by omega) hR0).mono ?_
      rintro e w3 ⟨⟨a3, c3', rfl, hI3, _⟩, hf3⟩
      have hT1 := hT0.no hf3
      have hR1 := hR0.no hf3 (fun _ => id)
      have c31 := hf3.cell c3 id
      have y1 := hf3.cell y0 id
      have Hf1 := Lib.hid (Hf0.out.step hf3 (fun _ _ h => h))
      clear hT0 hR0 c3 y0
      go_wp2_with fail
      refine OnlyN.mk ⟨hf3, ?_⟩
      clear hf3
      apply sig_m
      exact rfl
      go_wp2_with fail
      refine (ref_devices a ra cap rc ds out s _ hT1.dv hT (by omega) hR1).mono ?_
      rintro e w4 ⟨⟨a4, c4, rfl, hI4, _⟩, hf4⟩
      have hI3 := hI3.no hf4 (fun _ => id)
      have hT2 := hT1.no hf4
      have hR2 := hR1.no hf4 (fun _ => id)
      have c32 := hf4.cell c31 id
      have y2 := hf4.cell y1 id
      have Hf2 := Lib.hid (Hf1.out.step hf4 (fun _ _ h => h))
      clear hT1 hR1 c31 y1
      generalize taggedL ds out s [tagSeat] ds = L at *
      go_wp2_with fail
      refine OnlyN.mk ⟨hf4, ?_⟩
      clear hf4
      apply sig_m
      exact rfl
      go_wp2_with fail
      refine (ints_same a3 a4 c3' c4 L L _ hI3 hI4).mono ?_
      rintro e w5 ⟨rfl, hf5⟩
      rw [show decide (L = L) = true from decide_eq_true rfl]
      have hT3 := hT2.no hf5
      have hR3 := hR2.no hf5 (fun _ => id)
      have c33 := hf5.cell c32 id
      have y3 := hf5.cell y2 id
      have Hf3 := Lib.hid (Hf2.out.step hf5 (fun _ _ h => h))
      have g0 : ∀ g : Gr No w5, g.W.cell? ⟨w1.heap.size, 0, none⟩ = some (.slice a ds.length cap) := fun g => g.fr.cell c33 id
      have g1 : ∀ g : Gr No w5, g.W.cell? ⟨W1.heap.size, k, none⟩ = some (.string s) := fun g => g.fr.cell y3 id
      clear hT2 hR2 c32 y2 hI3 hI4
      go_wp2_with fail
      refine OnlyN.mk ⟨hf5, ?_⟩
      clear hf5
      repeat (apply sig_q; exact rfl; exact rfl; exact rfl; intro K hK; go_big_quiet_op; go_big_quiet_on)
      clear g0 g1 c33 y3
      apply sig_m
      exact rfl
      go_wp2_with fail
      refine (seat_masters a ra cap rc base ds out s _ hT3 (by omega) hR3).mono ?_
      rintro e w6 ⟨⟨a6, c6, rfl, hI6, _⟩, hf6⟩
      have hT4 := hT3.no hf6
      have hR4 := hR3.no hf6 (fun _ => id)
      have Hf4 := Lib.hid (Hf3.out.step hf6 (fun _ _ h => h))
      clear hT3 hR3
      go_wp2_with fail
      refine OnlyN.mk ⟨hf6, ?_⟩
      clear hf6
      apply sig_m
      exact rfl
      go_wp2_with fail
      refine (ref_masters a ra cap rc ds out s _ hT4.dv hT (by omega) hR4).mono ?_
      rintro e w7 ⟨⟨a7, c7, rfl, hI7, _⟩, hf7⟩
      have hI6 := hI6.no hf7 (fun _ => id)
      have Hf5 := Lib.hid (Hf4.out.step hf7 (fun _ _ h => h))
      clear hT4 hR4
      generalize taggedL ds out s [tagSeat, tagMaster] ds = M at *
      go_wp2_with fail
      refine OnlyN.mk ⟨hf7, ?_⟩
      clear hf7
      apply sig_m
      exact rfl
      go_wp2_with fail
      refine (ints_same a6 a7 c6 c7 M M _ hI6 hI7).mono ?_
      rintro e w8 ⟨rfl, hf8⟩
      rw [show decide (M = M) = true from decide_eq_true rfl]
      have Hf6 := Lib.hid (Hf5.out.step hf8 (fun _ _ h => h))
      clear hI6 hI7
      go_wp2_with fail
      refine OnlyN.mk ⟨hf8, ?_⟩
      clear hf8
      repeat (apply sig_q; exact rfl; exact rfl; exact rfl; intro K hK; go_big_quiet_op; go_big_quiet_on)
      refine sig_end ?_
      go_wp2_with fail
      go_roundw
      case rel => exact ⟨k + 1, by omega, by go_num, Hf6.out⟩
      case measure => simp [intOf]; omega
    · obtain rfl : k = 4 := by omega
      have hTr4 := hTr3.no hfr
      have hRc4 := hRc3.no hfr (fun _ => id)
      have b34 := hfr.heap b33 id
      have Hf4 := Lib.hid (Hfx3.out.step hfr (fun _ _ h => h))
      clear hfr hTr3 hRc3 hA b33
      go_wp2_with fail
      refine region_sig No [(0, false), (1, false), (3, false), (4, false), (2, true), (5, true), (6, true), (7, false), (8, true), (9, false), (10, false)] (by kernel_rfl) (by kernel_rfl) (fun w0 hf0 => ?_)
      have hT0 := hTr4.no hf0
      have hR0 := hRc4.no hf0 (fun _ => id)
      have g0 : ∀ g : Gr No w0, g.W.cell? ⟨w1.heap.size, 0, none⟩ = some (.slice a ds.length cap) := fun g => g.fr.cell (cell_of_block (hf0.heap b34 id) 0) id
      have Hf0 := Lib.hid (Hf4.out.step hf0 (fun _ _ h => h))
      clear hTr4 hRc4 b34 hf0
      repeat (apply sig_q; exact rfl; exact rfl; exact rfl; intro K hK; go_big_quiet_op; go_big_quiet_on)
      clear g0
      apply sig_m
      exact rfl
      go_wp2_with fail
      refine (seat_seats a ra cap rc base ds out _ hT0 (by omega) hR0).mono ?_
      rintro e w2 ⟨⟨a2, c2, rfl, hS2, _⟩, hf2⟩
      have hT1 := hT0.no hf2
      have hR1 := hR0.no hf2 (fun _ => id)
      have Hf1 := Lib.hid (Hf0.out.step hf2 (fun _ _ h => h))
      clear hT0 hR0
      go_wp2_with fail
      refine OnlyN.mk ⟨hf2, ?_⟩
      clear hf2
      apply sig_m
      exact rfl
      go_wp2_with fail
      refine (ref_seats a ra cap rc ds out _ hT1.dv hT (by omega) hR1).mono ?_
      rintro e w3 ⟨⟨a3, c3, rfl, hS3⟩, hf3⟩
      have hS2 := hS2.no hf3 (fun _ => id)
      have Hf2 := Lib.hid (Hf1.out.step hf3 (fun _ _ h => h))
      clear hT1 hR1
      generalize seatsOut ds out ds = S at *
      go_wp2_with fail
      refine OnlyN.mk ⟨hf3, ?_⟩
      clear hf3
      apply sig_m
      exact rfl
      go_wp2_with fail
      refine (same_texts a2 a3 c2 c3 S S _ hS2 hS3).mono ?_
      rintro e w4 ⟨rfl, hf4⟩
      rw [show sameT S S = true from by simp [sameT]]
      have Hf3 := Lib.hid (Hf2.out.step hf4 (fun _ _ h => h))
      clear hS2 hS3
      go_wp2_with fail
      refine OnlyN.mk ⟨hf4, ?_⟩
      clear hf4
      repeat (apply sig_q; exact rfl; exact rfl; exact rfl; intro K hK; go_big_quiet_op; go_big_quiet_on)
      apply sig_m
      exact rfl
      go_wp2_with fail
      refine (known_walk _).mono ?_
      rintro e w7 ⟨rfl, hf7⟩
      have Hf8 := Lib.hid (Hf3.out.step hf7 (fun _ _ h => h))
      go_wp2_with fail
      refine OnlyN.mk ⟨hf7, ?_⟩
      clear hf7
      repeat (apply sig_q; exact rfl; exact rfl; exact rfl; intro K hK; go_big_quiet_op; go_big_quiet_on)
      refine sig_end ?_
      go_wp2_with fail
      go_ret
      exact ⟨rfl, Hf8.out⟩
end Go.Proofs.YtpnpjaemlflplaaGreatDoor
