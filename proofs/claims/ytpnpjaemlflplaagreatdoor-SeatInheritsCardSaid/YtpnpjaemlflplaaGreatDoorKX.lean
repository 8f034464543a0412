/- SeatInherits: the walk. -/
import Derived.Test.YtpnpjaemlflplaaGreatDoorKQ
namespace Go.Proofs.YtpnpjaemlflplaaGreatDoor
open Go.RowKit Go.Maps
set_option linter.unusedVariables false

set_option maxRecDepth 100000 in
set_option maxHeartbeats 4000000 in
theorem inherits_walk (la : Option Addr) (lc : Nat) (l : List Int) (m : Int) (w : World) (hl : Ints w la lc l) (hm : w.cell? ⟨0, 0, none⟩ = some (.int .i64 m)) (hw0 : 0 < w.heap.size) :
    Calls Tryz.prog 5 #[.slice la l.length lc] w fun e w' => e = .returned (.bool true) ∧ Fr No w w' := by
  go_enter Tryz.func5, Tryz.ntmps5
  go_wp2_with fail
  refine (site_walk la lc l m w hl hm hw0).mono ?_
  rintro e w1 ⟨⟨base, a, cap, ds, ra, rc, out, rfl, hS⟩, hf1⟩
  have hT := hS.tr.wf.1
  have hx : Fr No w1 (w1.alloc (.cells #[.slice a ds.length cap] 25)) := (Fr.refl _ _).alloc _
  have b3 := block_alloc w1 (.cells #[.slice a ds.length cap] 25)
  have Hfx := Lib.hid (hf1.step hx (fun _ _ h => h))
  have hTr := hS.tr.no hx
  have hRc := hS.recs.no hx (fun _ => id)
  have hm1 := hS.tr.dv.lenmax
  have hm2 := hS.recs.lenmax
  have hdl := hS.len
  have hGd := Lib.hid hS.good.val
  clear hf1 hl hm hS hx
  go_wp2_with fail
  generalize w1.alloc (.cells #[.slice a ds.length cap] 25) = W1 at *
  go_loopw [5] (fun i wr => ∃ k : Nat, k ≤ ds.length ∧ i = .int .i64 (k : Int) ∧ Fr No W1 wr) (fun i _ => ds.length - (intOf i).toNat)
  case atStart => exact ⟨0, by omega, rfl, Fr.refl _ _⟩
  case round =>
    obtain ⟨k, hk, rfl, hfr⟩ := hrel
    obtain ⟨Wk, rfl⟩ : ∃ Wk, Wk = wr := ⟨_, rfl⟩
    have b3r := hfr.heap b3 id
    have c3 : Wk.cell? ⟨w1.heap.size, 0, none⟩ = some (.slice a ds.length cap) := cell_of_block b3r 0
    by_cases hlt : k < ds.length
    · have hlt' : (k : Int) < ds.length := by omega
      obtain ⟨bb, off, x, hax, hxk, y0, y1, y2, y3, y4, y5, y6, y7, y8, y9⟩ := (hTr.no hfr).dv.dev hlt
      subst hax
      have hxw := hT.iwf (List.mem_of_getElem? hxk)
      have hxm := Lib.hid (List.mem_of_getElem? hxk)
      clear hxk
      go_wp2_with fail
      have hxx : Fr No Wk (Wk.alloc (.cells x.vals 32)) := (Fr.refl _ _).alloc _
      have b6 := block_alloc Wk (.cells x.vals 32)
      unfold Dev.vals at hxx b6
      clear y0 y1 y2 y3 y4 y5 y6 y7 y8 y9 c3
      generalize Wk.alloc (.cells _ 32) = W3 at *
      have hTr3 := (hTr.no hfr).no hxx
      have hRc3 := (hRc.no hfr (fun _ => id)).no hxx (fun _ => id)
      have b33 := hxx.heap b3r id
      have Hf3 := Lib.hid (hfr.step hxx (fun _ _ h => h))
      clear hfr hxx
      obtain ⟨p, hpd⟩ : ∃ p, p = Rec.is x.index (pathOf (origin ds x.index)) := ⟨_, rfl⟩
      have Hp := Lib.hid hpd
      clear hpd
      go_loopw [7, 8] (fun v i wr => ∃ (k2 : Nat) (own : ByteArray), k2 ≤ out.length ∧ v = .string own ∧ i = .int .i64 (k2 : Int) ∧ Hid (OwnA own p (out.take k2)) ∧ Fr No W3 wr) (fun _ i _ => out.length - (intOf i).toNat)
      case atStart => exact ⟨0, ⟨#[]⟩, by omega, rfl, rfl, OwnA.start _ _, Fr.refl _ _⟩
      case round =>
        obtain ⟨k2, own, hk2, rfl, rfl, hOwn, hfr⟩ := hrel
        obtain ⟨W4, rfl⟩ : ∃ W4, W4 = wr := ⟨_, rfl⟩
        have hTr4 := hTr3.no hfr
        have hRc4 := hRc3.no hfr (fun _ => id)
        have b34 := hfr.heap b33 id
        have b64 := hfr.heap b6 id
        have Hf4 := Lib.hid hfr
        clear hfr
        by_cases hlt2 : k2 < out.length
        · have hlt2' : (k2 : Int) < out.length := by omega
          obtain ⟨r, hrk⟩ : ∃ r, out[k2]? = some r := ⟨out[k2], List.getElem?_eq_getElem hlt2⟩
          have Hrk := Lib.hid hrk
          have Hval := Lib.hid (hGd.out r (List.mem_of_getElem? hrk))
          have Htk : Hid (out.take (k2 + 1) = out.take k2 ++ [r]) := by unfold Hid; rw [List.take_add_one, hrk]; rfl
          clear hrk
          go_wp2_with fail
          go_loopw [7, 9] (fun v i wr => ∃ (j : Nat) (own : ByteArray), j ≤ r.props.length ∧ v = .string own ∧ i = .int .i64 (j : Int) ∧ Hid (OwnB own p (out.take k2) r j) ∧ Fr No W4 wr) (fun _ i _ => r.props.length - (intOf i).toNat)
          case atStart => exact ⟨0, own, by omega, rfl, rfl, OwnA.into hOwn.out r, Fr.refl _ _⟩
          case round =>
            obtain ⟨j, own2, hj, rfl, rfl, hB, hfr⟩ := hrel
            obtain ⟨rb, ro, r', hra, hrk', hok, x0, x1, x2, x3, x4, x5, x6, x7, x8, x9, x10, x11⟩ := (hRc4.no hfr (fun _ => id)).elem hlt2
            obtain rfl : r = r' := by have := Hrk.out; rw [this] at hrk'; exact Option.some.inj hrk'
            have hpl := hok.props.lenmax
            subst hra
            clear hrk' x3 x4 x5 x6 x7 x8 x9 x10 x11
            by_cases hlj : j < r.props.length
            · have hlj' : (j : Int) < r.props.length := by omega
              go_wp2_with fail
              clear x0 x1 x2 hok
              refine region_sig No [(0, false), (1, false), (2, false), (3, false), (4, false), (5, false), (6, false), (7, false), (8, false), (9, false), (10, false), (11, false), (12, false), (13, false), (14, false), (15, false), (16, false), (17, true), (18, false), (19, false), (20, false), (21, false), (22, false), (23, false), (24, false), (25, false), (26, false), (27, false), (28, false), (29, false), (30, false), (31, false)] (by kernel_rfl) (by kernel_rfl) (fun w0 hf0 => ?_)
              have hf0w := hfr.step hf0 (fun _ _ h => h)
              obtain ⟨rb2, ro2, r', hra, hrk', hok, x0, x1, x2, x3, x4, x5, x6, x7, x8, x9, x10, x11⟩ := (hRc4.no hf0w (fun _ => id)).elem hlt2
              cases hra
              obtain rfl : r = r' := by have := Hrk.out; rw [this] at hrk'; exact Option.some.inj hrk'
              obtain ⟨pb, po, yk, yv, hpa, hyj, _, _, z0, z1⟩ := hok.props.at hlj
              rw [hpa] at x2
              have Hyj := Lib.hid hyj
              have Hpa := Lib.hid hpa
              have Hv := Lib.hid (Hval.out _ (List.mem_of_getElem? hyj))
              have g3 : ∀ g : Gr No w0, g.W.cell? ⟨w1.heap.size, 0, none⟩ = some (.slice (some ⟨bb, off, none⟩) ds.length cap) := fun g => g.fr.cell (cell_of_block (hf0w.heap b34 id) 0) id
              have gD : ∀ g : Gr No w0, g.W.cell? ⟨Wk.heap.size, 0, none⟩ = some (.int .i64 x.index) := fun g => g.fr.cell (cell_of_block (hf0w.heap b64 id) 0) id
              have gP : ∀ g : Gr No w0, g.W.cell? ⟨rb, ro + k2 * 12, none⟩ = some (.string r.path) := fun g => g.fr.cell x0 id
              have gI : ∀ g : Gr No w0, g.W.cell? ⟨rb, ro + k2 * 12 + 1, none⟩ = some (.int .i64 r.index) := fun g => g.fr.cell x1 id
              have gS : ∀ g : Gr No w0, g.W.cell? ⟨rb, ro + k2 * 12 + 2, none⟩ = some (.slice (some ⟨pb, po, none⟩) r.props.length r.pc) := fun g => g.fr.cell x2 id
              have gA : ∀ g : Gr No w0, g.W.cell? ⟨pb, po + j * 2, none⟩ = some (.string yk) := fun g => g.fr.cell z0 id
              have hT0 := hTr4.no hf0w
              have Hf0 := Lib.hid hf0w
              clear hrk' x0 x1 x2 x3 x4 x5 x6 x7 x8 x9 x10 x11 z0 z1 hok hyj hpa hf0w hf0 hfr
              rcases hix : (r.index == x.index) with _ | _
              · have Hm : Hid (OwnB own2 p (out.take k2) r (j + 1)) := hB.out.miss Hyj.out (fun e => by rw [Hp.out] at e; unfold Rec.is at e; simp at hix; simp [hix] at e)
                repeat (first | (apply sig_q; exact rfl; exact rfl; exact rfl; intro K hK; go_big_quiet_op; go_big_quiet_on) | (apply sig_skip; exact rfl; exact rfl; exact rfl; intro K hK; go_big_quiet_op; go_big_quiet_on))
                apply sig_m
                exact rfl
                go_wp2_with fail
                refine OnlyN.mk ⟨Fr.refl _ _, ?_⟩
                repeat (first | (apply sig_q; exact rfl; exact rfl; exact rfl; intro K hK; go_big_quiet_op; go_big_quiet_on) | (apply sig_skip; exact rfl; exact rfl; exact rfl; intro K hK; go_big_quiet_op; go_big_quiet_on))
                refine sig_end ?_
                clear g3 gD gP gI gS gA
                go_wp2_with fail
                go_roundw
                case rel => exact ⟨j + 1, own2, by omega, rfl, by go_num, Hm, Hf0.out⟩
                case measure => simp [intOf]; omega
              · repeat (first | (apply sig_q; exact rfl; exact rfl; exact rfl; intro K hK; go_big_quiet_op; go_big_quiet_on) | (apply sig_skip; exact rfl; exact rfl; exact rfl; intro K hK; go_big_quiet_op; go_big_quiet_on))
                apply sig_m
                exact rfl
                clear g3 gD gP gI gS gA
                go_wp2_with fail
                refine (ref_place _ cap ds x.index _ hT0.dv hT (by omega)).mono ?_
                rintro e w2 ⟨rfl, hf2⟩
                obtain ⟨pp, hpp⟩ : ∃ pp, pp = pathOf (origin ds x.index) := ⟨_, rfl⟩
                rw [← hpp]
                have Hpp := Lib.hid hpp
                clear hpp
                go_wp2_with fail
                refine OnlyN.mk ⟨hf2, ?_⟩
                have hf2w := Hf0.out.step hf2 (fun _ _ h => h)
                obtain ⟨rb2, ro2, r', hra, hrk', hok, x0, x1, x2, x3, x4, x5, x6, x7, x8, x9, x10, x11⟩ := (hRc4.no hf2w (fun _ => id)).elem hlt2
                cases hra
                obtain rfl : r = r' := by have := Hrk.out; rw [this] at hrk'; exact Option.some.inj hrk'
                obtain ⟨pb', po', yk', yv', hpa', hyj', _, _, z0, z1⟩ := hok.props.at hlj
                rw [Hpa.out] at hpa'
                cases hpa'
                rw [Hyj.out] at hyj'
                cases hyj'
                rw [Hpa.out] at x2
                have gS : ∀ g : Gr No w2, g.W.cell? ⟨rb, ro + k2 * 12 + 2, none⟩ = some (.slice (some ⟨pb, po, none⟩) r.props.length r.pc) := fun g => g.fr.cell x2 id
                have gA : ∀ g : Gr No w2, g.W.cell? ⟨pb, po + j * 2, none⟩ = some (.string yk) := fun g => g.fr.cell z0 id
                have Hf2 := Lib.hid hf2w
                clear hrk' x0 x1 x3 x4 x5 x6 x7 x8 x9 x10 x11 z0 hok hf2w hf2 hT0
                rcases hpe : (r.path.toList == pp.toList) with _ | _
                · have Hm : Hid (OwnB own2 p (out.take k2) r (j + 1)) := hB.out.miss Hyj.out (fun e => by rw [Hp.out] at e; unfold Rec.is at e; rw [← Hpp.out, hpe] at e; simp at e)
                  repeat (first | (apply sig_q; exact rfl; exact rfl; exact rfl; intro K hK; go_big_quiet_op; go_big_quiet_on) | (apply sig_skip; exact rfl; exact rfl; exact rfl; intro K hK; go_big_quiet_op; go_big_quiet_on))
                  refine sig_end ?_
                  clear gS gA x2 z1
                  go_wp2_with fail
                  go_roundw
                  case rel => exact ⟨j + 1, own2, by omega, rfl, by go_num, Hm, Hf2.out⟩
                  case measure => simp [intOf]; omega
                · rcases e0 : (yk.toList == keySeat.toList) with _ | _
                  · have e1 : (yk.toList == [73, 68, 95, 83, 69, 65, 84]) = false := by rw [← show keySeat.toList = [73, 68, 95, 83, 69, 65, 84] from by rw [ByteArray.toList_eq]; rfl]; exact e0
                    have Hm : Hid (OwnB own2 p (out.take k2) r (j + 1)) := hB.out.miss Hyj.out (fun _ => e0)
                    clear e0
                    repeat (first | (apply sig_q; exact rfl; exact rfl; exact rfl; intro K hK; go_big_quiet_op; go_big_quiet_on) | (apply sig_skip; exact rfl; exact rfl; exact rfl; intro K hK; go_big_quiet_op; go_big_quiet_on))
                    refine sig_end ?_
                    clear gS gA x2 z1
                    go_wp2_with fail
                    go_roundw
                    case rel => exact ⟨j + 1, own2, by omega, rfl, by go_num, Hm, Hf2.out⟩
                    case measure => simp [intOf]; omega
                  · have e1 : (yk.toList == [73, 68, 95, 83, 69, 65, 84]) = true := by rw [← show keySeat.toList = [73, 68, 95, 83, 69, 65, 84] from by rw [ByteArray.toList_eq]; rfl]; exact e0
                    have Hm : Hid (OwnB yv p (out.take k2) r (j + 1)) := OwnB.hit p _ r _ Hv.out
                    clear e0
                    repeat (first | (apply sig_q; exact rfl; exact rfl; exact rfl; intro K hK; go_big_quiet_op; go_big_quiet_on) | (apply sig_skip; exact rfl; exact rfl; exact rfl; intro K hK; go_big_quiet_op; go_big_quiet_on))
                    refine sig_end ?_
                    clear gS gA
                    go_wp2_with fail
                    go_roundw
                    case rel => exact ⟨j + 1, yv, by omega, rfl, by go_num, Hm, Hf2.out⟩
                    case measure => simp [intOf]; omega
            · obtain rfl : j = r.props.length := by omega
              have Hm : Hid (OwnA own2 p (out.take (k2 + 1))) := by unfold Hid; rw [Htk.out]; exact hB.out.done
              have Hf5 := Lib.hid (Hf4.out.step hfr (fun _ _ h => h))
              go_wp2_with fail
              go_roundw
              case rel => exact ⟨k2 + 1, own2, by omega, rfl, by go_num, Hm, Hf5.out⟩
              case measure => simp [intOf]; omega
        · obtain rfl : k2 = out.length := by omega
          have Hno : Hid (OwnA own p out) := by have := hOwn.out; rwa [List.take_length] at this
          have Hf5 := Lib.hid (Hf3.out.step Hf4.out (fun _ _ h => h))
          have d0 : W4.cell? ⟨Wk.heap.size, 0, none⟩ = some (.int .i64 x.index) := cell_of_block b64 0
          have d1 : W4.cell? ⟨Wk.heap.size, 1, none⟩ = some (.int .i64 x.parent) := cell_of_block b64 1
          have c34 : W4.cell? ⟨w1.heap.size, 0, none⟩ = some (.slice (some ⟨bb, off, none⟩) ds.length cap) := cell_of_block b34 0
          rcases he : own.toList.isEmpty with _ | _
          · go_wp2_with fail
            go_roundw
            case rel => exact ⟨k + 1, by omega, by go_num, Hf5.out⟩
            case measure => simp [intOf]; omega
          · have Hin : Hid (seatOf ds out x.index = if x.parent = 0 then seat0 else seatOf ds out x.parent) := inherits hT hxm.out (fun r hr hp => Hno.out he r hr (by rw [Hp.out]; exact hp))
            by_cases hp0 : x.parent = 0
            · have hp1 : (x.parent == 0) = true := by simpa using hp0
              rw [if_pos hp0] at Hin
              have Hp0 := Lib.hid hp0
              clear hp0
              go_wp2_with fail
              refine (seat_of _ ra cap rc base ds out x.index _ hTr4 (by omega) hxw hRc4).mono ?_
              rintro e w5 ⟨rfl, hf5⟩
              rw [Hin.out]
              have Hf6 := Lib.hid (Hf5.out.step hf5 (fun _ _ h => h))
              clear hf5 d0 d1 c34
              unfold seat0
              go_wp2_with fail
              go_roundw
              case rel => exact ⟨k + 1, by omega, by go_num, Hf6.out⟩
              case measure => simp [intOf]; omega
            · have hp1 : (x.parent == 0) = false := by simpa using hp0
              rw [if_neg hp0] at Hin
              have hpw : (Lit.int .i64 x.parent).wf = true := by
                obtain ⟨k', hk'⟩ := List.getElem?_of_mem hxm.out
                rcases hT.pa k' x hk' with e | ⟨j, e, _, he, hi⟩
                · exact absurd e hp0
                · rw [← hi]; exact hT.iwf (List.mem_of_getElem? he)
              have Hp0 := Lib.hid hp0
              clear hp0
              go_wp2_with fail
              refine (seat_of _ ra cap rc base ds out x.parent _ hTr4 (by omega) hpw hRc4).mono ?_
              rintro e w5 ⟨rfl, hf5⟩
              have Hf6 := Lib.hid (Hf5.out.step hf5 (fun _ _ h => h))
              have hTr5 := hTr4.no hf5
              have hRc5 := hRc4.no hf5 (fun _ => id)
              have d05 : w5.cell? ⟨Wk.heap.size, 0, none⟩ = some (.int .i64 x.index) := hf5.cell d0 id
              have c35 : w5.cell? ⟨w1.heap.size, 0, none⟩ = some (.slice (some ⟨bb, off, none⟩) ds.length cap) := hf5.cell c34 id
              clear hf5 d0 d1 c34
              go_wp2_with fail
              refine (seat_of _ ra cap rc base ds out x.index _ hTr5 (by omega) hxw hRc5).mono ?_
              rintro e w6 ⟨rfl, hf6⟩
              rw [Hin.out]
              have Hf7 := Lib.hid (Hf6.out.step hf6 (fun _ _ h => h))
              generalize seatOf ds out x.parent = so at *
              have hb : (so.toList == so.toList) = true := by simp
              clear hf6 d05 c35
              go_wp2_with fail
              go_roundw
              case rel => exact ⟨k + 1, by omega, by go_num, Hf7.out⟩
              case measure => simp [intOf]; omega
    · obtain rfl : k = ds.length := by omega
      have Hf4 := Lib.hid (Hfx.out.step hfr (fun _ _ h => h))
      clear hfr b3r hTr hRc
      go_wp2_with fail
      refine (known_walk _).mono ?_
      rintro e w5 ⟨rfl, hf5⟩
      have hfe := Hf4.out.step hf5 (fun _ _ h => h)
      go_wp2_with fail
      go_ret
      exact ⟨rfl, hfe⟩
end Go.Proofs.YtpnpjaemlflplaaGreatDoor
