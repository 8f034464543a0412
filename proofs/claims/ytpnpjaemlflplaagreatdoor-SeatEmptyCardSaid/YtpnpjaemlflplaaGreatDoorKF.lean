/- SeatEmpty: the walk. -/
import Derived.Test.YtpnpjaemlflplaaGreatDoorKE
namespace Go.Proofs.YtpnpjaemlflplaaGreatDoor
open Go.RowKit Go.Maps
set_option linter.unusedVariables false

theorem idSeat_nil (ds : List Dev) (n : Int) : idSeat ds [] n = ⟨#[]⟩ := by
  unfold idSeat recOf
  by_cases h : look ds n = none
  · rw [if_pos h]; rfl
  · rw [if_neg h]; rfl
theorem seatOf_nil {ds : List Dev} {n : Int} (h : look ds n ≠ none) : seatOf ds [] n = seat0 := by
  unfold seatOf
  rw [if_neg h]
  exact seatL_no ds [] _ (fun x _ => by rw [idSeat_nil]; exact n_none)
theorem tagOk_nil (ds : List Dev) (vs : List ByteArray) (n : Int) : tagOk ds [] vs n = false := by
  unfold tagOk recOf
  by_cases h : look ds n = none
  · rw [if_pos h]; rfl
  · rw [if_neg h]; rfl
theorem taggedL_nil (ds : List Dev) (seat : ByteArray) (vs : List ByteArray) (q : List Dev) : taggedL ds [] seat vs q = [] := by
  unfold taggedL
  rw [List.filter_eq_nil_iff]
  intro x _
  unfold inSeat
  rw [tagOk_nil]
  simp
theorem seatsOut_nil (ds q : List Dev) : seatsOut ds [] q = [seat0] := by
  unfold seatsOut seatsL
  rw [show (q.map Dev.index).filter (tagOk ds [] [tagSeat, tagMaster]) = [] from by rw [List.filter_eq_nil_iff]; intro x _; rw [tagOk_nil]; simp]
  exact tidy1

set_option maxRecDepth 100000 in
set_option maxHeartbeats 4000000 in
theorem empty_walk (la : Option Addr) (lc : Nat) (l : List Int) (m : Int) (w : World) (hl : Ints w la lc l) (hm : w.cell? ⟨0, 0, none⟩ = some (.int .i64 m)) (hw0 : 0 < w.heap.size) :
    Calls Tryz.prog 10 #[.slice la l.length lc] w fun e w' => e = .returned (.bool true) ∧ Fr No w w' := by
  go_enter Tryz.func10, Tryz.ntmps10
  go_wp2_with fail
  refine (site_walk la lc l m w hl hm hw0).mono ?_
  rintro e w1 ⟨⟨base, a, cap, ds, ra, rc, out, rfl, hS⟩, hf1⟩
  have hT := hS.tr.wf.1
  have hx : Fr No w1 (w1.alloc (.cells #[.slice a ds.length cap] 25)) := (Fr.refl _ _).alloc _
  have b3 := block_alloc w1 (.cells #[.slice a ds.length cap] 25)
  have hfx := hf1.step hx (fun _ _ h => h)
  have hTr := hS.tr.no hx
  have hm1 := hS.tr.dv.lenmax
  have hdl := hS.len
  clear hf1 hl hm
  go_wp2_with fail
  generalize w1.alloc (.cells #[.slice a ds.length cap] 25) = W1 at *
  go_loopw [5] (fun i wr => ∃ k : Nat, k ≤ ds.length ∧ i = .int .i64 (k : Int) ∧ Fr No W1 wr) (fun i _ => ds.length - (intOf i).toNat)
  case atStart => exact ⟨0, by omega, rfl, Fr.refl _ _⟩
  case round =>
    obtain ⟨k, hk, rfl, hfr⟩ := hrel
    have b3r := hfr.heap b3 id
    have c3 : wr.cell? ⟨w1.heap.size, 0, none⟩ = some (.slice a ds.length cap) := cell_of_block b3r 0
    by_cases hlt : k < ds.length
    · have hlt' : (k : Int) < ds.length := by omega
      go_wp2_with fail
      refine region_sig No [(0, false), (1, false), (2, false), (3, false), (4, false), (5, false), (6, false), (7, true), (8, false)] (by kernel_rfl) (by kernel_rfl) (fun w0 hf0 => ?_)
      have hT0 := (hTr.no hfr).no hf0
      have hf0w := hfr.step hf0 (fun _ _ h => h)
      obtain ⟨bb, off, x, hax, hxk, y0, y1, y2, y3, y4, y5, y6, y7, y8, y9⟩ := hT0.dv.dev hlt
      subst hax
      have hxw := hT.iwf (List.mem_of_getElem? hxk)
      have hlk := hT.lk (List.mem_of_getElem? hxk)
      have g3 : ∀ g : Gr No w0, g.W.cell? ⟨w1.heap.size, 0, none⟩ = some (.slice (some ⟨bb, off, none⟩) ds.length cap) := fun g => g.fr.cell (hf0.cell c3 id) id
      have g0 : ∀ g : Gr No w0, g.W.cell? ⟨bb, off + k * 10, none⟩ = some (.int .i64 x.index) := fun g => g.fr.cell y0 id
      have Hs : Hid (seatOf ds [] x.index = seat0) := seatOf_nil (by rw [hlk]; simp)
      clear hxk y0 y1 y2 y3 y4 y5 y6 y7 y8 y9 c3 hlk
      repeat (apply sig_q; exact rfl; exact rfl; exact rfl; intro K hK; go_big_quiet_op; go_big_quiet_on)
      apply sig_m
      exact rfl
      go_wp2_with fail
      refine (seat_of _ none cap 0 base ds [] x.index _ hT0 (by omega) hxw (Recs.nil _)).mono ?_
      rintro e w2 ⟨rfl, hf2⟩
      rw [Hs.out]
      unfold seat0
      go_wp2_with fail
      refine OnlyN.mk ⟨hf2, ?_⟩
      repeat (apply sig_q; exact rfl; exact rfl; exact rfl; intro K hK; go_big_quiet_op; go_big_quiet_on)
      refine sig_end ?_
      have hfin := hf0w.step hf2 (fun _ _ h => h)
      clear g3 g0
      go_wp2_with fail
      go_roundw
      case rel => exact ⟨k + 1, by omega, by go_num, hfin⟩
      case measure => simp [intOf]; omega
    · obtain rfl : k = ds.length := by omega
      have hTe := hTr.no hfr
      have hfe := hfx.step hfr (fun _ _ h => h)
      clear hfr hfx b3 hTr
      go_wp2_with fail
      refine (seat_seats a none cap 0 base ds [] _ hTe (by omega) (Recs.nil _)).mono ?_
      rintro e w2 ⟨⟨a2, c2, rfl, hS2, _⟩, hf2⟩
      have hs1 : (seatsOut ds [] ds).length = 1 := by rw [seatsOut_nil]; rfl
      rw [seatsOut_nil] at hS2
      rw [hs1]
      have hA : Fr No w2 (w2.alloc (.cells #[.string seat0] 9)) := (Fr.refl _ _).alloc _
      have hSL : Strs (w2.alloc (.cells #[.string seat0] 9)) (some ⟨w2.heap.size, 0, none⟩) 1 [seat0] := Strs.of_block (l := [seat0]) (block_alloc _ _) (by unfold maxLen; simp)
      have hst := same_texts a2 (some ⟨w2.heap.size, 0, none⟩) c2 1 [seat0] [seat0] _ (hS2.no hA (fun _ => id)) hSL
      rw [show sameT [seat0] [seat0] = true from by simp [sameT]] at hst
      have Hst := Lib.hid hst
      have hT2 := (hTe.no hf2).no hA
      have hfa := (hfe.step hf2 (fun _ _ h => h)).step hA (fun _ _ h => h)
      have b2 := hA.heap (hf2.heap b3r id) id
      clear hs1 hS2 hA hSL hst hf2 hfe
      unfold seat0 at Hst
      go_wp2_with fail
      refine Hst.out.mono ?_
      rintro e w3 ⟨rfl, hf3⟩
      have b33 := hf3.heap b2 id
      have c33 : w3.cell? ⟨w1.heap.size, 0, none⟩ = some (.slice a ds.length cap) := cell_of_block b33 0
      have hT3 := hT2.no hf3
      have hfb := hfa.step hf3 (fun _ _ h => h)
      clear hfa hT2 b2 b33 b3r hf3
      go_wp2_with fail
      refine (seat_devices a none cap 0 base ds [] seat0 _ hT3 (by omega) (Recs.nil _)).mono ?_
      rintro e w4 ⟨⟨a4, c4, rfl, hI4, _⟩, hf4⟩
      have hs4 : (taggedL ds [] seat0 [tagSeat] ds).length = 0 := by rw [taggedL_nil]; rfl
      rw [hs4]
      have hfd := hfb.step hf4 (fun _ _ h => h)
      clear hs4 hI4 hf4 hfb c33
      go_wp2_with fail
      refine (known_walk _).mono ?_
      rintro e w5 ⟨rfl, hf5⟩
      have hfe := hfd.step hf5 (fun _ _ h => h)
      go_wp2_with fail
      go_ret
      exact ⟨rfl, hfe⟩
end Go.Proofs.YtpnpjaemlflplaaGreatDoor
