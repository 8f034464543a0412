/- SeatMasters: the walk. -/
import Derived.Test.YtpnpjaemlflplaaGreatDoorKM
namespace Go.Proofs.YtpnpjaemlflplaaGreatDoor
open Go.RowKit Go.Maps
set_option linter.unusedVariables false

def all3 : List ByteArray := [seat0, seat1, seat2]

set_option maxRecDepth 100000 in
set_option maxHeartbeats 4000000 in
theorem masters_walk (la : Option Addr) (lc : Nat) (l : List Int) (m : Int) (w : World) (hl : Ints w la lc l) (hm : w.cell? ⟨0, 0, none⟩ = some (.int .i64 m)) (hw0 : 0 < w.heap.size) :
    Calls Tryz.prog 7 #[.slice la l.length lc] w fun e w' => e = .returned (.bool true) ∧ Fr No w w' := by
  go_enter Tryz.func7, Tryz.ntmps7
  go_wp2_with fail
  refine (site_walk la lc l m w hl hm hw0).mono ?_
  rintro e w1 ⟨⟨base, a, cap, ds, ra, rc, out, rfl, hS⟩, hf1⟩
  have hx : Fr No w1 (w1.alloc (.cells #[.slice a ds.length cap] 25)) := (Fr.refl _ _).alloc _
  have b3 := block_alloc w1 (.cells #[.slice a ds.length cap] 25)
  have hfx := hf1.step hx (fun _ _ h => h)
  have hTr := hS.tr.no hx
  have hRc := hS.recs.no hx (fun _ => id)
  have hm1 := hS.tr.dv.lenmax
  have hdl := hS.len
  clear hf1 hl hm hS
  go_wp2_with fail
  generalize w1.alloc (.cells #[.slice a ds.length cap] 25) = W1 at *
  refine (seat_seats a ra cap rc base ds out _ hTr (by omega) hRc).mono ?_
  rintro e w2 ⟨⟨a2, c2, rfl, hS2, _⟩, hf2⟩
  have hTr2 := hTr.no hf2
  have hRc2 := hRc.no hf2 (fun _ => id)
  have hfx2 := hfx.step hf2 (fun _ _ h => h)
  have b32 := hf2.heap b3 id
  clear hTr hRc hfx b3 hf2 hx
  have hy : Fr No w2 (w2.alloc (.cells #[.string seat0, .string seat1, .string seat2] 9)) := (Fr.refl _ _).alloc _
  have hA : Strs (w2.alloc (.cells #[.string seat0, .string seat1, .string seat2] 9)) (some ⟨w2.heap.size, 0, none⟩) 3 all3 := Strs.of_block (l := all3) (block_alloc _ _) (by unfold maxLen all3; simp)
  have hlen3 : all3.length = 3 := rfl
  unfold seat0 seat1 seat2 at hy hA
  go_wp2_with fail
  have hTr3 := hTr2.no hy
  have hRc3 := hRc2.no hy (fun _ => id)
  have hSt := hS2.no hy (fun _ => id)
  have hfx3 := hfx2.step hy (fun _ _ h => h)
  have b33 := hy.heap b32 id
  clear hTr2 hRc2 hS2 hfx2 b32 hy
  generalize w2.alloc (.cells _ 9) = W2 at *
  go_loopw [7] (fun i wr => ∃ k : Nat, k ≤ 3 ∧ i = .int .i64 (k : Int) ∧ Fr No W2 wr) (fun i _ => 3 - (intOf i).toNat)
  case atStart => exact ⟨0, by omega, rfl, Fr.refl _ _⟩
  case round =>
    obtain ⟨k, hk, rfl, hfr⟩ := hrel
    by_cases hlt : k < 3
    · have hlt' : (k : Int) < 3 := by omega
      go_wp2_with fail
      refine region_sig No [(0, false), (1, false), (2, false), (3, false), (4, false), (5, false), (7, false), (8, false), (9, false), (10, false), (11, false), (12, false), (6, true), (13, true), (14, false), (15, false)] (by kernel_rfl) (by kernel_rfl) (fun w0 hf0 => ?_)
      have hf0w := hfr.step hf0 (fun _ _ h => h)
      have hT0 := hTr3.no hf0w
      have hR0 := hRc3.no hf0w (fun _ => id)
      have hA0 := hA.no hf0w (fun _ => id)
      have hS0 := hSt.no hf0w (fun _ => id)
      have b30 := hf0w.heap b33 id
      obtain ⟨bb, off, s, has, hsk, y0⟩ := hA0.at (k := k) (by rw [hlen3]; omega)
      cases has
      rw [Nat.zero_add] at y0
      have g0 : ∀ g : Gr No w0, g.W.cell? ⟨w1.heap.size, 0, none⟩ = some (.slice a ds.length cap) := fun g => g.fr.cell (cell_of_block b30 0) id
      have g1 : ∀ g : Gr No w0, g.W.cell? ⟨w2.heap.size, k, none⟩ = some (.string s) := fun g => g.fr.cell y0 id
      have Hf0 := Lib.hid hf0w
      clear hf0w hf0 y0 hfr hA0 b30
      repeat (apply sig_q; exact rfl; exact rfl; exact rfl; intro K hK; go_big_quiet_op; go_big_quiet_on)
      clear g0 g1
      apply sig_m
      exact rfl
      go_wp2_with fail
      refine (seat_masters a ra cap rc base ds out s _ hT0 (by omega) hR0).mono ?_
      rintro e w3 ⟨⟨a3, c3, rfl, hI3, _⟩, hf3⟩
      have hT3 := hT0.no hf3
      have hR3 := hR0.no hf3 (fun _ => id)
      have hS3 := hS0.no hf3 (fun _ => id)
      have Hf3 := Lib.hid (Hf0.out.step hf3 (fun _ _ h => h))
      have HI3 := Lib.hid hI3
      have hm3 := hI3.lenmax
      clear hT0 hR0 hS0 hI3
      go_wp2_with fail
      refine OnlyN.mk ⟨hf3, ?_⟩
      clear hf3
      apply sig_m
      exact rfl
      go_wp2_with fail
      refine (seat_devices a ra cap rc base ds out s _ hT3 (by omega) hR3).mono ?_
      rintro e w4 ⟨⟨a4, c4, rfl, hI4, _⟩, hf4⟩
      have hS4 := hS3.no hf4 (fun _ => id)
      have Hf4 := Lib.hid (Hf3.out.step hf4 (fun _ _ h => h))
      have HI4 := Lib.hid hI4
      have HI3 := Lib.hid (HI3.out.no hf4 (fun _ => id))
      clear hT3 hR3 hS3 hI4
      go_wp2_with fail
      refine OnlyN.mk ⟨hf4, ?_⟩
      clear hf4
      repeat (apply sig_q; exact rfl; exact rfl; exact rfl; intro K hK; go_big_quiet_op; go_big_quiet_on)
      refine sig_end ?_
      go_wp2_with fail
      go_loopw [10] (fun i wr => ∃ j : Nat, j ≤ (taggedL ds out s [tagSeat, tagMaster] ds).length ∧ i = .int .i64 (j : Int) ∧ Fr No w4 wr) (fun i _ => (taggedL ds out s [tagSeat, tagMaster] ds).length - (intOf i).toNat)
      case atStart => exact ⟨0, by omega, rfl, Fr.refl _ _⟩
      case round =>
        obtain ⟨j, hj, rfl, hfr⟩ := hrel
        by_cases hlj : j < (taggedL ds out s [tagSeat, tagMaster] ds).length
        · have hlj' : (j : Int) < (taggedL ds out s [tagSeat, tagMaster] ds).length := by omega
          have hI3 := HI3.out.no hfr (fun _ => id)
          obtain ⟨bb, off, x, rfl, hxk, y0⟩ := hI3.at hlj
          have Hx : Hid (decide (x ∈ taggedL ds out s [tagSeat] ds) = true) := masters_in ds out s ds (List.mem_of_getElem? hxk)
          clear hxk
          go_wp2_with fail
          refine (ints_in a4 c4 (taggedL ds out s [tagSeat] ds) x _ (HI4.out.no hfr (fun _ => id))).mono ?_
          rintro e w5 ⟨rfl, rfl⟩
          rw [Hx.out]
          go_wp2_with fail
          go_roundw
          case rel => exact ⟨j + 1, by omega, by go_num, hfr⟩
          case measure => simp [intOf]; omega
        · obtain rfl : j = (taggedL ds out s [tagSeat, tagMaster] ds).length := by omega
          have Hf5 := Lib.hid (Hf4.out.step hfr (fun _ _ h => h))
          have hS5 := hS4.no hfr (fun _ => id)
          have hA5 := hA.no Hf5.out (fun _ => id)
          have Hsh : Hid (hasS (seatsOut ds out ds) s = ((s.toList == seat0.toList) || decide ((0 : Int) < ((taggedL ds out s [tagSeat, tagMaster] ds).length : Int)))) := seats_has ds out s
          clear hfr
          go_wp2_with fail
          refine region_sig No [(0, false), (1, false), (2, false), (3, false), (4, false), (6, false), (7, false), (8, false), (9, false), (10, false), (5, true), (11, false), (12, false), (13, false), (14, false), (15, false), (16, false)] (by kernel_rfl) (by kernel_rfl) (fun w0 hf0 => ?_)
          have hS6 := hS5.no hf0 (fun _ => id)
          have Hf6 := Lib.hid (Hf5.out.step hf0 (fun _ _ h => h))
          obtain ⟨bb2, off2, s2, has2, hsk2, y0⟩ := (hA5.no hf0 (fun _ => id)).at (k := k) (by rw [hlen3]; omega)
          cases has2
          obtain rfl : s = s2 := by rw [hsk] at hsk2; exact Option.some.inj hsk2
          rw [Nat.zero_add] at y0
          have g1 : ∀ g : Gr No w0, g.W.cell? ⟨w2.heap.size, k, none⟩ = some (.string s) := fun g => g.fr.cell y0 id
          clear hsk2 y0 hA5 hS5 hf0
          generalize (taggedL ds out s [tagSeat, tagMaster] ds).length = nm at *
          rcases e0 : (s.toList == seat0.toList) with _ | _
          · rw [e0, Bool.false_or] at Hsh
            have e1 : (s.toList == [115, 101, 97, 116, 48]) = false := by rw [← show seat0.toList = [115, 101, 97, 116, 48] from by rw [ByteArray.toList_eq]; rfl]; exact e0
            clear e0
            repeat (apply sig_q; exact rfl; exact rfl; exact rfl; intro K hK; go_big_quiet_op; go_big_quiet_on)
            apply sig_m
            exact rfl
            go_wp2_with fail
            refine (ref_in32 a2 c2 (seatsOut ds out ds) s _ hS6).mono ?_
            rintro e w7 ⟨rfl, hf7⟩
            rw [Hsh.out]
            have Hf7 := Lib.hid (Hf6.out.step hf7 (fun _ _ h => h))
            clear hS6 g1
            go_wp2_with fail
            refine OnlyN.mk ⟨hf7, ?_⟩
            clear hf7
            by_cases hp : (0 : Int) < (nm : Int)
            · repeat (first | (apply sig_q; exact rfl; exact rfl; exact rfl; intro K hK; go_big_quiet_op; go_big_quiet_on) | (apply sig_skip; exact rfl; exact rfl; exact rfl; intro K hK; go_big_quiet_op; go_big_quiet_on))
              refine sig_end ?_
              go_wp2_with fail
              go_roundw
              case rel => exact ⟨k + 1, by omega, by go_num, Hf7.out⟩
              case measure => simp [intOf]; omega
            · repeat (first | (apply sig_q; exact rfl; exact rfl; exact rfl; intro K hK; go_big_quiet_op; go_big_quiet_on) | (apply sig_skip; exact rfl; exact rfl; exact rfl; intro K hK; go_big_quiet_op; go_big_quiet_on))
              refine sig_end ?_
              go_wp2_with fail
              go_roundw
              case rel => exact ⟨k + 1, by omega, by go_num, Hf7.out⟩
              case measure => simp [intOf]; omega
          · rw [e0, Bool.true_or] at Hsh
            have e1 : (s.toList == [115, 101, 97, 116, 48]) = true := by rw [← show seat0.toList = [115, 101, 97, 116, 48] from by rw [ByteArray.toList_eq]; rfl]; exact e0
            clear e0
            repeat (apply sig_q; exact rfl; exact rfl; exact rfl; intro K hK; go_big_quiet_op; go_big_quiet_on)
            apply sig_m
            exact rfl
            go_wp2_with fail
            refine (ref_in32 a2 c2 (seatsOut ds out ds) s _ hS6).mono ?_
            rintro e w7 ⟨rfl, hf7⟩
            rw [Hsh.out]
            have Hf7 := Lib.hid (Hf6.out.step hf7 (fun _ _ h => h))
            clear hS6 g1
            go_wp2_with fail
            refine OnlyN.mk ⟨hf7, ?_⟩
            clear hf7
            repeat (first | (apply sig_q; exact rfl; exact rfl; exact rfl; intro K hK; go_big_quiet_op; go_big_quiet_on) | (apply sig_skip; exact rfl; exact rfl; exact rfl; intro K hK; go_big_quiet_op; go_big_quiet_on))
            refine sig_end ?_
            go_wp2_with fail
            go_roundw
            case rel => exact ⟨k + 1, by omega, by go_num, Hf7.out⟩
            case measure => simp [intOf]; omega
    · obtain rfl : k = 3 := by omega
      have hS5 := hSt.no hfr (fun _ => id)
      have Hf5 := Lib.hid (hfx3.step hfr (fun _ _ h => h))
      have hpos : 1 ≤ (seatsOut ds out ds).length := by
        have h : seat0 ∈ seatsOut ds out ds := by
          unfold seatsOut; rw [mem_tidy]; unfold seatsL; simp
        exact List.length_pos_of_mem h
      have hlm := hS5.lenmax
      have Hnx : Hid (∀ (j : Nat) (x y : ByteArray), (seatsOut ds out ds)[j]? = some x → (seatsOut ds out ds)[j + 1]? = some y → Op.bytesLess x.toList y.toList = true) := fun j x y h1 h2 => tidy_next _ h1 h2
      generalize seatsOut ds out ds = L at *
      obtain ⟨W5, rfl⟩ : ∃ W5, W5 = wr := ⟨_, rfl⟩
      clear hfr hSt hTr3 hRc3 hA hfx3 b33
      go_wp2_with fail
      go_loopw [11] (fun i wr => ∃ j : Nat, 1 ≤ j ∧ j ≤ L.length ∧ i = .int .i64 (j : Int) ∧ Fr No W5 wr) (fun i _ => L.length - (intOf i).toNat)
      case atStart => exact ⟨1, by omega, by omega, rfl, Fr.refl _ _⟩
      case round =>
        obtain ⟨j, hj1, hj, rfl, hfr⟩ := hrel
        by_cases hlj : j < L.length
        · have hlj' : (j : Int) < L.length := by omega
          obtain ⟨i, rfl⟩ : ∃ i, j = i + 1 := ⟨j - 1, by omega⟩
          have hli' : (i : Int) < L.length := by omega
          go_wp2_with fail
          refine region_sig No [(0, false), (1, false), (2, false), (3, false), (4, false), (5, false), (6, false), (7, false), (8, false), (9, false)] (by kernel_rfl) (by kernel_rfl) (fun w0 hf0 => ?_)
          have hS6 := hS5.no (hfr.step hf0 (fun _ _ h => h)) (fun _ => id)
          obtain ⟨bb, off, x, rfl, hxk, y0⟩ := hS6.at (k := i) (by omega)
          obtain ⟨bb2, off2, y, has, hyk, y1⟩ := hS6.at (k := i + 1) (by omega)
          cases has
          have hlt := Hnx.out i x y hxk hyk
          have g0 : ∀ g : Gr No w0, g.W.cell? ⟨bb, off + i, none⟩ = some (.string x) := fun g => g.fr.cell y0 id
          have g1 : ∀ g : Gr No w0, g.W.cell? ⟨bb, off + (i + 1), none⟩ = some (.string y) := fun g => g.fr.cell y1 id
          have Hfr := Lib.hid (hfr.step hf0 (fun _ _ h => h))
          have hsub : ((i + 1 : Nat) : Int) - 1 = (i : Int) := by omega
          clear hxk hyk y0 y1 hfr hf0
          repeat (apply sig_q; exact rfl; exact rfl; exact rfl; intro K hK; go_big_quiet_op; go_big_quiet_on)
          refine sig_end ?_
          go_wp2_with fail
          go_roundw
          case rel => exact ⟨i + 1 + 1, by omega, by omega, by go_num, Hfr.out⟩
          case measure => simp [intOf]; omega
        · have Hf6 := Lib.hid (Hf5.out.step hfr (fun _ _ h => h))
          obtain rfl : j = L.length := by omega
          clear hfr hS5
          go_wp2_with fail
          refine (known_walk _).mono ?_
          rintro e w5 ⟨rfl, hf6⟩
          have hfe := Hf6.out.step hf6 (fun _ _ h => h)
          go_wp2_with fail
          go_ret
          exact ⟨rfl, hfe⟩
end Go.Proofs.YtpnpjaemlflplaaGreatDoor
