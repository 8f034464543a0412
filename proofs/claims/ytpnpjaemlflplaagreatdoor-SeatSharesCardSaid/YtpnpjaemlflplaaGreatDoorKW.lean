/- SeatShares: the walk. -/
import Derived.Test.YtpnpjaemlflplaaGreatDoorKU
import Derived.Test.YtpnpjaemlflplaaGreatDoorKT
namespace Go.Proofs.YtpnpjaemlflplaaGreatDoor
open Go.RowKit Go.Maps
set_option linter.unusedVariables false

set_option maxRecDepth 100000 in
set_option maxHeartbeats 4000000 in
theorem shares_walk (la : Option Addr) (lc : Nat) (l : List Int) (m : Int) (w : World) (hl : Ints w la lc l) (hm : w.cell? ⟨0, 0, none⟩ = some (.int .i64 m)) (hw0 : 0 < w.heap.size) :
    Calls Tryz.prog 6 #[.slice la l.length lc] w fun e w' => e = .returned (.bool true) ∧ Fr No w w' := by
  go_enter Tryz.func6, Tryz.ntmps6
  go_wp2_with fail
  refine (site_walk la lc l m w hl hm hw0).mono ?_
  rintro e w1 ⟨⟨base, a, cap, ds, ra, rc, out, rfl, hS⟩, hf1⟩
  have hT := hS.tr.wf.1
  have hx : Fr No w1 (w1.alloc (.cells #[.slice a ds.length cap] 25)) := (Fr.refl _ _).alloc _
  have b3 := block_alloc w1 (.cells #[.slice a ds.length cap] 25)
  have hfx := hf1.step hx (fun _ _ h => h)
  have hTr := hS.tr.no hx
  have hRc := hS.recs.no hx (fun _ => id)
  have hm1 := hS.tr.dv.lenmax
  have hdl := hS.len
  clear hf1 hl hm hS hx
  go_wp2_with fail
  generalize w1.alloc (.cells #[.slice a ds.length cap] 25) = W1 at *
  go_loopw [5, 6] (fun v i wr => ∃ (k : Nat) (av : Option Addr) (cv : Nat), k ≤ ds.length ∧ i = .int .i64 (k : Int) ∧ v = .slice av (shSeats ds out (ds.take k)).length cv ∧ Strs wr av cv (shSeats ds out (ds.take k)) ∧ Fr No W1 wr) (fun _ i _ => ds.length - (intOf i).toNat)
  case atStart => exact ⟨0, none, 0, by omega, rfl, rfl, Strs.nil _, Fr.refl _ _⟩
  case round =>
    obtain ⟨k, av, cv, hk, rfl, rfl, hSv, hfr⟩ := hrel
    have b3r := hfr.heap b3 id
    have c3 : wr.cell? ⟨w1.heap.size, 0, none⟩ = some (.slice a ds.length cap) := cell_of_block b3r 0
    by_cases hlt : k < ds.length
    · have hlt' : (k : Int) < ds.length := by omega
      go_wp2_with fail
      refine region_sig No [(0, false), (1, false), (2, false), (3, false), (4, false), (5, false), (6, false), (7, false), (8, false), (9, true), (10, true), (11, false)] (by kernel_rfl) (by kernel_rfl) (fun w0 hf0 => ?_)
      have hf0w := hfr.step hf0 (fun _ _ h => h)
      have hT0 := hTr.no hf0w
      have hR0 := hRc.no hf0w (fun _ => id)
      have hS0 := hSv.no hf0 (fun _ => id)
      obtain ⟨bb, off, x, hax, hxk, y0, y1, y2, y3, y4, y5, y6, y7, y8, y9⟩ := hT0.dv.dev hlt
      subst hax
      have hxw := hT.iwf (List.mem_of_getElem? hxk)
      have Hsn : Hid (shSeats ds out (ds.take (k + 1)) = with32 (shSeats ds out (ds.take k)) (seatOf ds out x.index)) := by unfold Hid; rw [List.take_add_one, hxk]; exact shSeats_snoc ds out _ x
      have Hso := Lib.hid (shSeats_ok ds out (ds.take k)).1
      have hsl : (shSeats ds out (ds.take k)).length ≤ 1000 := by have := shSeats_le ds out (ds.take k); rw [List.length_take] at this; omega
      have g3 : ∀ g : Gr No w0, g.W.cell? ⟨w1.heap.size, 0, none⟩ = some (.slice (some ⟨bb, off, none⟩) ds.length cap) := fun g => g.fr.cell (hf0.cell c3 id) id
      have g0 : ∀ g : Gr No w0, g.W.cell? ⟨bb, off + k * 10, none⟩ = some (.int .i64 x.index) := fun g => g.fr.cell y0 id
      generalize shSeats ds out (ds.take k) = Sk at *
      have Hf0w := Lib.hid hf0w
      clear hxk y0 y1 y2 y3 y4 y5 y6 y7 y8 y9 c3 hf0w hfr hSv
      repeat (apply sig_q; exact rfl; exact rfl; exact rfl; intro K hK; go_big_quiet_op; go_big_quiet_on)
      apply sig_m
      exact rfl
      go_wp2_with fail
      refine (seat_of _ ra cap rc base ds out x.index _ hT0 (by omega) hxw hR0).mono ?_
      rintro e w2 ⟨rfl, hf2⟩
      have hS2 := hS0.no hf2 (fun _ => id)
      have Hf2 := Lib.hid (Hf0w.out.step hf2 (fun _ _ h => h))
      clear hT0 hR0 hS0 g3 g0
      generalize seatOf ds out x.index = sx at *
      go_wp2_with fail
      refine OnlyN.mk ⟨hf2, ?_⟩
      clear hf2
      apply sig_m
      exact rfl
      go_wp2_with fail
      refine (ref_with32 av cv Sk sx _ hS2 Hso.out (by omega)).mono ?_
      rintro e w3 ⟨⟨a3, c3, rfl, hS3, _⟩, hf3⟩
      have HS3 := Lib.hid hS3
      have Hf3 := Lib.hid (Hf2.out.step hf3 (fun _ _ h => h))
      clear hS2 hS3
      go_wp2_with fail
      refine OnlyN.mk ⟨hf3, ?_⟩
      clear hf3
      repeat (apply sig_q; exact rfl; exact rfl; exact rfl; intro K hK; go_big_quiet_op; go_big_quiet_on)
      refine sig_end ?_
      go_wp2_with fail
      go_roundw
      case rel => exact ⟨k + 1, a3, c3, by omega, by go_num, by rw [Hsn.out], by rw [Hsn.out]; exact HS3.out, Hf3.out⟩
      case measure => simp [intOf]; omega
    · obtain rfl : k = ds.length := by omega
      rw [List.take_length] at hSv ⊢
      have hTr2 := hTr.no hfr
      have hRc2 := hRc.no hfr (fun _ => id)
      have Hfx2 := Lib.hid (hfx.step hfr (fun _ _ h => h))
      have hsl : (shSeats ds out ds).length ≤ 1000 := by have := shSeats_le ds out ds; omega
      have Hsh := Lib.hid (fun (x : Dev) (hx : x ∈ ds) => shares ds out hx)
      obtain ⟨S, hSd⟩ : ∃ S, S = shSeats ds out ds := ⟨_, rfl⟩
      rw [← hSd] at hSv hsl Hsh ⊢
      clear hfr hTr hRc hfx b3 hSd
      obtain ⟨W2, rfl⟩ : ∃ W2, W2 = wr := ⟨_, rfl⟩
      go_wp2_with fail
      go_loopw [7] (fun i wr => ∃ k : Nat, k ≤ ds.length ∧ i = .int .i64 (k : Int) ∧ Fr No W2 wr) (fun i _ => ds.length - (intOf i).toNat)
      case atStart => exact ⟨0, by omega, rfl, Fr.refl _ _⟩
      case round =>
        obtain ⟨k, hk, rfl, hfr⟩ := hrel
        obtain ⟨W3, rfl⟩ : ∃ W3, W3 = wr := ⟨_, rfl⟩
        have b3s := hfr.heap b3r id
        have c3 : W3.cell? ⟨w1.heap.size, 0, none⟩ = some (.slice a ds.length cap) := cell_of_block b3s 0
        by_cases hlt : k < ds.length
        · have hlt' : (k : Int) < ds.length := by omega
          obtain ⟨x, hxk⟩ : ∃ x, ds[k]? = some x := ⟨ds[k], List.getElem?_eq_getElem hlt⟩
          have Hx := Lib.hid (Hsh.out x (List.mem_of_getElem? hxk))
          have Hxk := Lib.hid hxk
          clear hxk
          have hTr3 := hTr2.no hfr
          have hRc3 := hRc2.no hfr (fun _ => id)
          have hSv3 := hSv.no hfr (fun _ => id)
          have Hf3 := Lib.hid hfr
          clear hfr
          go_wp2_with fail
          go_loopw [8, 9] (fun n i wr => ∃ j : Nat, j ≤ S.length ∧ n = .int .i64 ((cntS ds out (S.take j) x.index : Nat) : Int) ∧ i = .int .i64 (j : Int) ∧ Fr No W3 wr) (fun _ i _ => S.length - (intOf i).toNat)
          case atStart => exact ⟨0, by omega, rfl, rfl, Fr.refl _ _⟩
          case round =>
            obtain ⟨j, hj, rfl, rfl, hfr⟩ := hrel
            have hcl : cntS ds out (S.take j) x.index ≤ 1000 := by
              have := List.length_filter_le (fun s => decide (x.index ∈ taggedL ds out s [tagSeat] ds)) (S.take j)
              rw [List.length_take] at this
              unfold cntS; omega
            by_cases hlj : j < S.length
            · have hlj' : (j : Int) < S.length := by omega
              go_wp2_with fail
              refine region_sig No [(0, false), (1, false), (2, false), (3, false), (4, false), (5, false), (7, false), (8, false), (9, false), (10, false), (11, false), (12, false), (6, true), (13, true)] (by kernel_rfl) (by kernel_rfl) (fun w0 hf0 => ?_)
              have hf0w := hfr.step hf0 (fun _ _ h => h)
              have hT0 := hTr3.no hf0w
              have hR0 := hRc3.no hf0w (fun _ => id)
              obtain ⟨bs, offs, s, has, hsk, z0⟩ := (hSv3.no hf0w (fun _ => id)).at hlj
              subst has
              obtain ⟨bb, off, x', hax, hxk', y0, y1, y2, y3, y4, y5, y6, y7, y8, y9⟩ := hT0.dv.dev hlt
              obtain rfl : x = x' := by have := Hxk.out; rw [this] at hxk'; exact Option.some.inj hxk'
              subst hax
              have Hc : Hid (cntS ds out (S.take (j + 1)) x.index = cntS ds out (S.take j) x.index + if x.index ∈ taggedL ds out s [tagSeat] ds then 1 else 0) := by
                unfold Hid
                rw [List.take_add_one, hsk]
                exact cntS_snoc ds out _ s x.index
              have g3 : ∀ g : Gr No w0, g.W.cell? ⟨w1.heap.size, 0, none⟩ = some (.slice (some ⟨bb, off, none⟩) ds.length cap) := fun g => g.fr.cell (hf0w.cell c3 id) id
              have g0 : ∀ g : Gr No w0, g.W.cell? ⟨bb, off + k * 10, none⟩ = some (.int .i64 x.index) := fun g => g.fr.cell y0 id
              have gs : ∀ g : Gr No w0, g.W.cell? ⟨bs, offs + j, none⟩ = some (.string s) := fun g => g.fr.cell z0 id
              generalize cntS ds out (S.take j) x.index = cj at *
              have Hf0w := Lib.hid hf0w
              clear hxk' hsk y0 y1 y2 y3 y4 y5 y6 y7 y8 y9 z0 hf0w hfr c3
              repeat (apply sig_q; exact rfl; exact rfl; exact rfl; intro K hK; go_big_quiet_op; go_big_quiet_on)
              apply sig_m
              exact rfl
              go_wp2_with fail
              refine (seat_devices _ ra cap rc base ds out s _ hT0 (by omega) hR0).mono ?_
              rintro e w4 ⟨⟨a4, c4, rfl, hI4, _⟩, hf4⟩
              have HI4 := Lib.hid hI4
              have Hf4 := Lib.hid (Hf0w.out.step hf4 (fun _ _ h => h))
              clear hT0 hR0 g3 g0 gs hI4
              go_wp2_with fail
              refine OnlyN.mk ⟨hf4, ?_⟩
              clear hf4
              apply sig_m
              exact rfl
              go_wp2_with fail
              refine (ints_in a4 c4 (taggedL ds out s [tagSeat] ds) x.index _ HI4.out).mono ?_
              rintro e w5 ⟨rfl, rfl⟩
              go_wp2_with fail
              refine OnlyN.mk ⟨Fr.refl _ _, ?_⟩
              refine sig_end ?_
              by_cases hin : x.index ∈ taggedL ds out s [tagSeat] ds
              · have hd : decide (x.index ∈ taggedL ds out s [tagSeat] ds) = true := decide_eq_true hin
                rw [hd]
                have Hc2 : Hid (cntS ds out (S.take (j + 1)) x.index = cj + 1) := by unfold Hid; rw [Hc.out, if_pos hin]
                clear hd hin
                go_wp2_with fail
                go_roundw
                case rel => exact ⟨j + 1, by omega, by rw [Hc2.out]; go_num, by go_num, Hf4.out⟩
                case measure => simp [intOf]; omega
              · have hd : decide (x.index ∈ taggedL ds out s [tagSeat] ds) = false := decide_eq_false hin
                rw [hd]
                have Hc2 : Hid (cntS ds out (S.take (j + 1)) x.index = cj) := by unfold Hid; rw [Hc.out, if_neg hin]; rfl
                clear hd hin
                go_wp2_with fail
                go_roundw
                case rel => exact ⟨j + 1, by omega, by rw [Hc2.out], by go_num, Hf4.out⟩
                case measure => simp [intOf]; omega
            · obtain rfl : j = S.length := by omega
              rw [List.take_length] at hcl ⊢
              go_wp2_with fail
              refine region_sig No [(0, false), (1, false), (2, false), (3, false), (4, false), (5, false), (6, false), (7, false), (8, true)] (by kernel_rfl) (by kernel_rfl) (fun w0 hf0 => ?_)
              have hf0w := hfr.step hf0 (fun _ _ h => h)
              have hT0 := hTr3.no hf0w
              have hR0 := hRc3.no hf0w (fun _ => id)
              obtain ⟨bb, off, x', hax, hxk', y0, y1, y2, y3, y4, y5, y6, y7, y8, y9⟩ := hT0.dv.dev hlt
              obtain rfl : x = x' := by have := Hxk.out; rw [this] at hxk'; exact Option.some.inj hxk'
              subst hax
              have g3 : ∀ g : Gr No w0, g.W.cell? ⟨w1.heap.size, 0, none⟩ = some (.slice (some ⟨bb, off, none⟩) ds.length cap) := fun g => g.fr.cell (hf0w.cell c3 id) id
              have g0 : ∀ g : Gr No w0, g.W.cell? ⟨bb, off + k * 10, none⟩ = some (.int .i64 x.index) := fun g => g.fr.cell y0 id
              have Hf0w := Lib.hid hf0w
              clear hxk' y0 y1 y2 y3 y4 y5 y6 y7 y8 y9 hf0w hfr c3
              repeat (apply sig_q; exact rfl; exact rfl; exact rfl; intro K hK; go_big_quiet_op; go_big_quiet_on)
              apply sig_m
              exact rfl
              go_wp2_with fail
              refine (ref_tagged _ ra cap rc ds out x.index tagSeat _ hT0.dv hT (by omega) hR0).mono ?_
              rintro e w4 ⟨rfl, hf4⟩
              have Hf4 := Lib.hid (Hf3.out.step (Hf0w.out.step hf4 (fun _ _ h => h)) (fun _ _ h => h))
              clear hT0 hR0 g3 g0
              go_wp2_with fail
              refine OnlyN.mk ⟨hf4, ?_⟩
              clear hf4
              refine sig_end ?_
              cases htk : tagOk ds out [tagSeat] x.index with
              | false =>
                have e0 : cntS ds out S x.index = 0 := by rw [Hx.out, htk]; rfl
                rw [e0]
                clear htk e0 hcl
                go_wp2_with fail
                go_roundw
                case rel => exact ⟨k + 1, by omega, by go_num, Hf4.out⟩
                case measure => simp [intOf]; omega
              | true =>
                have e0 : cntS ds out S x.index = 1 := by rw [Hx.out, htk]; rfl
                rw [e0]
                clear htk e0 hcl
                go_wp2_with fail
                go_roundw
                case rel => exact ⟨k + 1, by omega, by go_num, Hf4.out⟩
                case measure => simp [intOf]; omega
        · obtain rfl : k = ds.length := by omega
          have Hf4 := Lib.hid (Hfx2.out.step hfr (fun _ _ h => h))
          clear hfr hSv hTr2 hRc2 b3s b3r
          go_wp2_with fail
          refine (known_walk _).mono ?_
          rintro e w5 ⟨rfl, hf5⟩
          have hfe := Hf4.out.step hf5 (fun _ _ h => h)
          go_wp2_with fail
          go_ret
          exact ⟨rfl, hfe⟩
end Go.Proofs.YtpnpjaemlflplaaGreatDoor
