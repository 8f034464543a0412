/- coldplugref36.Devices, Masters, Seats. -/
import Derived.Test.YtpnpjaemlflplaaGreatDoorKH
import Derived.Test.YtpnpjaemlflplaaGreatDoorKU
namespace Go.Proofs.YtpnpjaemlflplaaGreatDoor
open Go.RowKit Go.Maps
set_option linter.unusedVariables false

theorem Devs.from' {X W : World} {a : Option Addr} {cap N : Nat} {l : List Dev} (h : Devs X a cap l) (hf : Fr (From N) X W) (hN : X.heap.size ≤ N) : Devs W a cap l :=
  h.fr hf (fun ad e hne hS => by have := (h.cell ad e hne).2.1; unfold From at hS; omega)

set_option maxRecDepth 100000 in
set_option maxHeartbeats 4000000 in
theorem ref_devices (a ra : Option Addr) (cap rcap : Nat) (ds : List Dev) (l : List Rec) (seat : ByteArray) (w : World) (hl : Devs w a cap ds) (hT : TreeOk ds) (hn : ds.length ≤ 1000) (hr : Recs w ra rcap l) :
    Calls Tryz.prog 20 #[.agg #[.slice a ds.length cap], .slice ra l.length rcap, .string seat] w fun e w' =>
      (∃ a' c', e = .returned (.slice a' (taggedL ds l seat [tagSeat] ds).length c') ∧ Ints w' a' c' (taggedL ds l seat [tagSeat] ds) ∧ ∀ ad, a' = some ad → w.heap.size ≤ ad.block) ∧ Fr No w w' := by
  obtain ⟨i0, hi0, hz0, hz1, hz2⟩ := info_parts infoI
  have hm := hl.lenmax
  have h0 : Fr No w (w.alloc (.cells #[.slice a ds.length cap] 25)) := (Fr.refl _ _).alloc _
  have q4 := block_alloc w (.cells #[.slice a ds.length cap] 25)
  have hs0 : w.heap.size < (w.alloc (.cells #[.slice a ds.length cap] 25)).heap.size := by simp
  have hl0 := hl.no h0 (fun _ => id)
  have hr0 := hr.no h0 (fun _ => id)
  go_enter Tryz.func20, Tryz.ntmps20
  go_wp2_with fail
  generalize w.alloc (.cells #[.slice a ds.length cap] 25) = W0 at *
  go_loopw [7, 8] (fun v i wr => ∃ (k : Nat) (av : Option Addr) (cv : Nat), k ≤ ds.length ∧ v = .slice av (taggedL ds l seat [tagSeat] (ds.take k)).length cv ∧ i = .int .i64 (k : Int) ∧ wr.ownsRow W0.heap.size 3 1 (.slice av (taggedL ds l seat [tagSeat] (ds.take k)).length cv) (taggedL ds l seat [tagSeat] (ds.take k)).length ((taggedL ds l seat [tagSeat] (ds.take k)).map (Value.int .i64)) ∧ Fr (From W0.heap.size) W0 wr) (fun _ i _ => ds.length - (intOf i).toNat)
  case atStart => exact ⟨0, none, 0, by omega, rfl, rfl, World.ownsRow_nil _ _ _ _, Fr.refl _ _⟩
  case round =>
    obtain ⟨k, av, cv, hk, rfl, rfl, hown, hfr⟩ := hrel
    have hnl : ∀ b, b < W0.heap.size → ¬ From W0.heap.size b := fun b h1 h2 => by unfold From at h2; omega
    have hlr := hl0.from' hfr (Nat.le_refl _)
    have hrr := hr0.keep hfr hnl
    have b4 := hfr.heap q4 (fun h => by unfold From at h; omega)
    have c4 : wr.cell? ⟨w.heap.size, 0, none⟩ = some (.slice a ds.length cap) := cell_of_block b4 0
    by_cases hlt : k < ds.length
    · have hlt' : (k : Int) < ds.length := by omega
      obtain ⟨bb, off, x, hax, hxk, y0, y1, y2, y3, y4, y5, y6, y7, y8, y9⟩ := hlr.dev hlt
      subst hax
      have Htk : Hid (ds.take (k + 1) = ds.take k ++ [x]) := by unfold Hid; rw [List.take_add_one, hxk]; rfl
      have hin0 : inSeat ds l seat [tagSeat] x.index = (tagOk ds l [tagSeat] x.index && ((seatOf ds l x.index).toList == seat.toList)) := rfl
      have Hin := Lib.hid hin0
      clear hxk hin0
      go_wp2_with fail
      refine (ref_tagged _ ra cap rcap ds l x.index tagSeat _ hlr hT hn hrr).mono ?_
      rintro e w3 ⟨rfl, hf3⟩
      have c43 : w3.cell? ⟨w.heap.size, 0, none⟩ = some (.slice (some ⟨bb, off, none⟩) ds.length cap) := hf3.cell c4 id
      have hl3 := hlr.no hf3 (fun _ => id)
      have hr3 := hrr.no hf3 (fun _ => id)
      have Hf3 := Lib.hid hf3
      clear y0 y1 y2 y3 y4 y5 y6 y7 y8 y9 c4 hlr hrr hf3
      generalize tagOk ds l [tagSeat] x.index = b1 at *
      cases b1 with
      | false =>
        have Hn : Hid (taggedL ds l seat [tagSeat] (ds.take (k + 1)) = taggedL ds l seat [tagSeat] (ds.take k)) := by
          unfold Hid
          rw [Htk.out, taggedL_snoc, if_neg (by rw [Hin.out]; simp), List.append_nil]
        have Hown := Lib.hid (ownsRow_fr hown Hf3.out (fun _ _ => id))
        have Hfin := Lib.hid (hfr.step Hf3.out (fun _ _ h => h.elim))
        clear hown hfr c43
        go_wp2_with fail
        go_roundw
        case rel => exact ⟨k + 1, av, cv, by omega, by rw [Hn.out], by go_num, by rw [Hn.out]; exact Hown.out, Hfin.out⟩
        case measure => simp [intOf]; omega
      | true =>
        go_wp2_with fail
        refine (ref_of _ ra cap rcap ds l x.index _ hl3 hT hn hr3).mono ?_
        rintro e w5 ⟨rfl, hf5⟩
        generalize seatOf ds l x.index = s at *
        have Hf5 := Lib.hid (Hf3.out.step hf5 (fun _ _ h => h))
        clear hf5 c43 hl3 hr3
        rcases hs : (s.toList == seat.toList) with _ | _
        · have Hn : Hid (taggedL ds l seat [tagSeat] (ds.take (k + 1)) = taggedL ds l seat [tagSeat] (ds.take k)) := by
            unfold Hid
            rw [Htk.out, taggedL_snoc, if_neg (by rw [Hin.out, hs]; simp), List.append_nil]
          have Hown := Lib.hid (ownsRow_fr hown Hf5.out (fun _ _ => id))
          have Hfin := Lib.hid (hfr.step Hf5.out (fun _ _ h => h.elim))
          clear hown hfr
          go_wp2_with fail
          go_roundw
          case rel => exact ⟨k + 1, av, cv, by omega, by rw [Hn.out], by go_num, by rw [Hn.out]; exact Hown.out, Hfin.out⟩
          case measure => simp [intOf]; omega
        · have Hn : Hid (taggedL ds l seat [tagSeat] (ds.take (k + 1)) = taggedL ds l seat [tagSeat] (ds.take k) ++ [x.index]) := by
            unfold Hid
            rw [Htk.out, taggedL_snoc, if_pos (by rw [Hin.out, hs]; rfl)]
          have hown5 := ownsRow_fr hown Hf5.out (fun _ _ => id)
          have hsz5 := Hf5.out.size
          have hszr := hfr.size
          have htl : (taggedL ds l seat [tagSeat] (ds.take k)).length ≤ 1000 := by
            have h1 := taggedL_len ds l seat [tagSeat] (ds.take k)
            rw [List.length_take] at h1
            omega
          have Hfr5 := Lib.hid (hfr.step Hf5.out (fun _ _ h => h.elim))
          clear hown hfr
          go_wp2_with (at_builtin; refine wpList_append_own _ rfl _ _ 22 rfl W0.heap.size 3 i0 (.int .i64 0) 1 8 Tryz.underlying22 hi0 hz0 hz1 hz2 rfl (by decide) _ _ _ rfl (hown5.alloc _) ⟨w5.heap.size, 0, none⟩ 1 1 [.int .i64 x.index] rfl rfl (cell_one_new _ _ _) (ints_one [x.index]) (by unfold maxLen; omega) (by omega) (by simp; omega) ?_; intro v' w6 hown6 hgrow6 _; obtain ⟨av', cv', rfl⟩ := ownsRow_slice hown6)
          have hg6 : Fr (From W0.heap.size) w5 w6 := grown_fr hown5 hgrow6
          have Hg6 := Lib.hid (Hfr5.out.step hg6 (fun _ _ h => h))
          have Hown6 := Lib.hid hown6
          have hll : (taggedL ds l seat [tagSeat] (ds.take (k + 1))).length = (taggedL ds l seat [tagSeat] (ds.take k)).length + 1 := by rw [Hn.out]; simp
          have Hll := Lib.hid hll
          clear hg6 hown6 hgrow6 hown5 hll
          go_roundw
          case rel => exact ⟨k + 1, av', cv', by omega, by rw [Hll.out], by go_num, by rw [Hll.out, Hn.out, List.map_append]; exact Hown6.out, Hg6.out⟩
          case measure => simp [intOf]; omega
    · obtain rfl : k = ds.length := by omega
      rw [List.take_length] at hown ⊢
      obtain ⟨a', c', hv', hI, hfresh⟩ := Ints.of_own hown (fun y hy => by
        obtain ⟨z, hz, e⟩ := List.mem_map.1 (List.mem_filter.1 hy).1
        rw [← e]; exact hT.iwf hz)
      cases hv'
      have H := Lib.hid (And.intro hI (And.intro (show ∀ ad, av = some ad → w.heap.size ≤ ad.block from fun ad e => by have := hfresh ad e; omega) (h0.step hfr (fun b hb h => by unfold From at h; omega))))
      clear hown hfr hI hfresh hlr hrr
      go_wp2_with fail
      go_ret
      exact ⟨⟨_, _, rfl, H.out.1, H.out.2.1⟩, H.out.2.2⟩

theorem masters_filter (ds : List Dev) (l : List Rec) (seat : ByteArray) (q : List Dev) : (taggedL ds l seat [tagSeat] q).filter (tagOk ds l [tagMaster]) = taggedL ds l seat [tagSeat, tagMaster] q := by
  unfold taggedL
  rw [List.filter_filter]
  congr 1
  funext n
  unfold inSeat tagOk
  cases (recOf ds l n).isSome <;> simp
  cases hasS ((recOf ds l n).getD Rec.zero).tags tagSeat <;> cases hasS ((recOf ds l n).getD Rec.zero).tags tagMaster <;> simp
theorem filter_take {L : List Int} {k : Nat} {x : Int} (h : L[k]? = some x) (p : Int → Bool) : (L.take (k + 1)).filter p = (L.take k).filter p ++ if p x = true then [x] else [] := by
  rw [List.take_add_one, h, List.filter_append]
  congr 1
  by_cases hx : p x = true <;> simp [hx]
theorem filter_take_len (L : List Int) (k : Nat) (p : Int → Bool) : ((L.take k).filter p).length ≤ k := Nat.le_trans (List.length_filter_le _ _) (List.length_take_le _ _)

set_option maxRecDepth 100000 in
set_option maxHeartbeats 4000000 in
theorem ref_masters (a ra : Option Addr) (cap rcap : Nat) (ds : List Dev) (l : List Rec) (seat : ByteArray) (w : World) (hl : Devs w a cap ds) (hT : TreeOk ds) (hn : ds.length ≤ 1000) (hr : Recs w ra rcap l) :
    Calls Tryz.prog 22 #[.agg #[.slice a ds.length cap], .slice ra l.length rcap, .string seat] w fun e w' =>
      (∃ a' c', e = .returned (.slice a' (taggedL ds l seat [tagSeat, tagMaster] ds).length c') ∧ Ints w' a' c' (taggedL ds l seat [tagSeat, tagMaster] ds) ∧ ∀ ad, a' = some ad → w.heap.size ≤ ad.block) ∧ Fr No w w' := by
  obtain ⟨i0, hi0, hz0, hz1, hz2⟩ := info_parts infoI
  have h0 : Fr No w (w.alloc (.cells #[.slice a ds.length cap] 25)) := (Fr.refl _ _).alloc _
  have q4 := block_alloc w (.cells #[.slice a ds.length cap] 25)
  have hs0 : w.heap.size < (w.alloc (.cells #[.slice a ds.length cap] 25)).heap.size := by simp
  have hl0 := hl.no h0 (fun _ => id)
  have hr0 := hr.no h0 (fun _ => id)
  have Hmf := Lib.hid (masters_filter ds l seat ds)
  have hLl := taggedL_len ds l seat [tagSeat] ds
  have Hwf : Hid (∀ y ∈ taggedL ds l seat [tagSeat] ds, (Lit.int .i64 y).wf = true) := by
    intro y hy
    obtain ⟨z, hz, e⟩ := List.mem_map.1 (List.mem_filter.1 hy).1
    rw [← e]; exact hT.iwf hz
  go_enter Tryz.func22, Tryz.ntmps22
  go_wp2_with fail
  refine (ref_devices a ra cap rcap ds l seat _ hl0 hT hn hr0).mono ?_
  rintro e w1 ⟨⟨a1, c1, rfl, hI, _⟩, hf1⟩
  have hlx := hl0.no hf1 (fun _ => id)
  have hrx := hr0.no hf1 (fun _ => id)
  have qx := hf1.heap q4 id
  have hs1 := hf1.size
  have Hfx := Lib.hid (h0.step hf1 (fun _ _ h => h))
  generalize taggedL ds l seat [tagSeat] ds = L at *
  have hLm := hI.lenmax
  clear hl hr hl0 hr0 q4 hf1 h0
  go_wp2_with fail
  go_loopw [7, 9] (fun v i wr => ∃ (k : Nat) (av : Option Addr) (cv : Nat), k ≤ L.length ∧ v = .slice av ((L.take k).filter (tagOk ds l [tagMaster])).length cv ∧ i = .int .i64 (k : Int) ∧ wr.ownsRow w1.heap.size 3 1 (.slice av ((L.take k).filter (tagOk ds l [tagMaster])).length cv) ((L.take k).filter (tagOk ds l [tagMaster])).length (((L.take k).filter (tagOk ds l [tagMaster])).map (Value.int .i64)) ∧ Fr (From w1.heap.size) w1 wr) (fun _ i _ => L.length - (intOf i).toNat)
  case atStart => exact ⟨0, none, 0, by omega, rfl, rfl, World.ownsRow_nil _ _ _ _, Fr.refl _ _⟩
  case round =>
    obtain ⟨k, av, cv, hk, rfl, rfl, hown, hfr⟩ := hrel
    have hnl : ∀ b, b < w1.heap.size → ¬ From w1.heap.size b := fun b h1 h2 => by unfold From at h2; omega
    by_cases hlt : k < L.length
    · have hlt' : (k : Int) < L.length := by omega
      obtain ⟨x, hxk⟩ : ∃ x, L[k]? = some x := ⟨L[k], List.getElem?_eq_getElem hlt⟩
      have Hft := Lib.hid (filter_take hxk (tagOk ds l [tagMaster]))
      have hfl := filter_take_len L k (tagOk ds l [tagMaster])
      have Hxk := Lib.hid hxk
      clear hxk
      generalize (L.take k).filter (tagOk ds l [tagMaster]) = M at *
      go_wp2_with fail
      refine region_sig No [(0, false), (1, false), (2, false), (3, false), (4, false), (5, false), (6, true)] (by kernel_rfl) (by kernel_rfl) (fun w0 hf0 => ?_)
      have hfr0 := hfr.step hf0 (fun _ _ h => h.elim)
      have hown0 := ownsRow_fr hown hf0 (fun _ _ => id)
      have hl3 := hlx.from' hfr0 (Nat.le_refl _)
      have hr3 := hrx.keep hfr0 hnl
      have hI3 := hI.from hfr0
      have b40 := hfr0.heap qx (hnl _ (by omega))
      obtain ⟨ib, io, x', hia, hxk', y0⟩ := hI3.at hlt
      subst hia
      obtain rfl : x = x' := by have := Hxk.out; rw [this] at hxk'; exact Option.some.inj hxk'
      have g3 : ∀ g : Gr No w0, g.W.cell? ⟨w.heap.size, 0, none⟩ = some (.slice a ds.length cap) := fun g => g.fr.cell (cell_of_block b40 0) id
      have g0 : ∀ g : Gr No w0, g.W.cell? ⟨ib, io + k, none⟩ = some (.int .i64 x) := fun g => g.fr.cell y0 id
      clear hxk' hf0 hfr hown b40 y0
      repeat (apply sig_q; exact rfl; exact rfl; exact rfl; intro K hK; go_big_quiet_op; go_big_quiet_on)
      clear g3 g0
      apply sig_m
      exact rfl
      go_wp2_with fail
      refine (ref_tagged a ra cap rcap ds l x tagMaster _ hl3 hT hn hr3).mono ?_
      rintro e w3 ⟨rfl, hf3⟩
      have hfr3 := hfr0.step hf3 (fun _ _ h => h.elim)
      have hown3 := ownsRow_fr hown0 hf3 (fun _ _ => id)
      have hI4 := hI3.no hf3 (fun _ => id)
      obtain ⟨ib2, io2, x', hia, hxk', y0⟩ := hI4.at hlt
      cases hia
      obtain rfl : x = x' := by have := Hxk.out; rw [this] at hxk'; exact Option.some.inj hxk'
      generalize tagOk ds l [tagMaster] x = b1 at *
      go_wp2_with fail
      refine OnlyN.mk ⟨hf3, ?_⟩
      refine sig_end ?_
      have Hhr := Lib.hid (And.intro hfr3 hown3)
      have hs3 := hfr3.size
      clear hf3 hl3 hr3 hI3 hI4 hxk' hfr0 hown0 hfr3
      cases b1 with
      | false =>
        have Hn : Hid ((L.take (k + 1)).filter (tagOk ds l [tagMaster]) = M) := by unfold Hid; rw [Hft.out, if_neg (by simp), List.append_nil]
        clear hown3 y0
        go_wp2_with fail
        go_roundw
        case rel => exact ⟨k + 1, av, cv, by omega, by rw [Hn.out], by go_num, by rw [Hn.out]; exact Hhr.out.2, Hhr.out.1⟩
        case measure => simp [intOf]; omega
      | true =>
        have Hn : Hid ((L.take (k + 1)).filter (tagOk ds l [tagMaster]) = M ++ [x]) := by unfold Hid; rw [Hft.out, if_pos rfl]
        go_wp2_with (at_builtin; refine wpList_append_own _ rfl _ _ 22 rfl w1.heap.size 3 i0 (.int .i64 0) 1 8 Tryz.underlying22 hi0 hz0 hz1 hz2 rfl (by decide) _ _ _ rfl (hown3.alloc _) ⟨w3.heap.size, 0, none⟩ 1 1 [.int .i64 x] rfl rfl (cell_one_new _ _ _) (ints_one [x]) (by unfold maxLen; omega) (by omega) (by simp; omega) ?_; intro v' w6 hown6 hgrow6 _; obtain ⟨av', cv', rfl⟩ := ownsRow_slice hown6)
        have hg6 : Fr (From w1.heap.size) w3 w6 := grown_fr hown3 hgrow6
        have Hg6 := Lib.hid (Hhr.out.1.step hg6 (fun _ _ h => h))
        have Hown6 := Lib.hid hown6
        have hll : ((L.take (k + 1)).filter (tagOk ds l [tagMaster])).length = M.length + 1 := by rw [Hn.out]; simp
        have Hll := Lib.hid hll
        clear hg6 hown6 hgrow6 hown3 hll
        go_roundw
        case rel => exact ⟨k + 1, av', cv', by omega, by rw [Hll.out], by go_num, by rw [Hll.out, Hn.out, List.map_append]; exact Hown6.out, Hg6.out⟩
        case measure => simp [intOf]; omega
    · obtain rfl : k = L.length := by omega
      rw [List.take_length, Hmf.out] at hown
      rw [List.take_length, Hmf.out]
      have hmem : ∀ y ∈ taggedL ds l seat [tagSeat, tagMaster] ds, y ∈ L := fun y hy => by rw [← Hmf.out] at hy; exact (List.mem_filter.1 hy).1
      obtain ⟨a', c', hv', hI', hfresh⟩ := Ints.of_own hown (fun y hy => Hwf.out y (hmem y hy))
      cases hv'
      have H := Lib.hid (And.intro hI' (And.intro (show ∀ ad, av = some ad → w.heap.size ≤ ad.block from fun ad e => by have := hfresh ad e; omega) (Hfx.out.step hfr (fun b hb h => by unfold From at h; omega))))
      clear hown hfr hI' hfresh hmem
      go_wp2_with fail
      go_ret
      exact ⟨⟨_, _, rfl, H.out.1, H.out.2.1⟩, H.out.2.2⟩

/-- The seats as the reference gathers them. -/
def refSeats (ds : List Dev) (l : List Rec) (q : List Dev) (o : List ByteArray) : List ByteArray := q.foldl (fun o x => if 0 < (taggedL ds l (seatOf ds l x.index) [tagSeat, tagMaster] ds).length then with32 o (seatOf ds l x.index) else o) o
theorem refSeats_snoc (ds : List Dev) (l : List Rec) (q : List Dev) (o : List ByteArray) (x : Dev) : refSeats ds l (q ++ [x]) o = if 0 < (taggedL ds l (seatOf ds l x.index) [tagSeat, tagMaster] ds).length then with32 (refSeats ds l q o) (seatOf ds l x.index) else refSeats ds l q o := by
  unfold refSeats; rw [List.foldl_append]; rfl
theorem refSeats_len (ds : List Dev) (l : List Rec) : ∀ (q : List Dev) (o : List ByteArray), (refSeats ds l q o).length ≤ o.length + q.length
  | [], o => by simp [refSeats]
  | x :: t, o => by
    have h2 := with32_len o (seatOf ds l x.index)
    have e : refSeats ds l (x :: t) o = refSeats ds l t (if 0 < (taggedL ds l (seatOf ds l x.index) [tagSeat, tagMaster] ds).length then with32 o (seatOf ds l x.index) else o) := rfl
    rw [e, List.length_cons]
    by_cases hp : 0 < (taggedL ds l (seatOf ds l x.index) [tagSeat, tagMaster] ds).length
    · rw [if_pos hp]
      have h1 := refSeats_len ds l t (with32 o (seatOf ds l x.index))
      omega
    · rw [if_neg hp]
      have h1 := refSeats_len ds l t o
      omega
theorem refSeats_ok (ds : List Dev) (l : List Rec) : ∀ (q : List Dev) (o : List ByteArray), o.Pairwise ltS → (refSeats ds l q o).Pairwise ltS ∧ ∀ y, y ∈ refSeats ds l q o ↔ y ∈ o ∨ ∃ x ∈ q, 0 < (taggedL ds l (seatOf ds l x.index) [tagSeat, tagMaster] ds).length ∧ y = seatOf ds l x.index
  | [], o, h => ⟨h, by simp [refSeats]⟩
  | x :: t, o, h => by
    have e : refSeats ds l (x :: t) o = refSeats ds l t (if 0 < (taggedL ds l (seatOf ds l x.index) [tagSeat, tagMaster] ds).length then with32 o (seatOf ds l x.index) else o) := rfl
    rw [e]
    clear e
    by_cases hp : 0 < (taggedL ds l (seatOf ds l x.index) [tagSeat, tagMaster] ds).length
    · rw [if_pos hp]
      obtain ⟨h1, h2⟩ := with32_ok (seatOf ds l x.index) h
      obtain ⟨h3, h4⟩ := refSeats_ok ds l t _ h1
      refine ⟨h3, fun y => ?_⟩
      rw [h4, h2]
      constructor
      · rintro ((e | h) | ⟨z, hz, h5, e⟩)
        · exact .inr ⟨x, by simp, hp, e⟩
        · exact .inl h
        · exact .inr ⟨z, by simp [hz], h5, e⟩
      · rintro (h | ⟨z, hz, h5, e⟩)
        · exact .inl (.inr h)
        · rcases List.mem_cons.1 hz with rfl | hz
          · exact .inl (.inl e)
          · exact .inr ⟨z, hz, h5, e⟩
    · rw [if_neg hp]
      obtain ⟨h3, h4⟩ := refSeats_ok ds l t _ h
      refine ⟨h3, fun y => ?_⟩
      rw [h4]
      constructor
      · rintro (h | ⟨z, hz, h5, e⟩)
        · exact .inl h
        · exact .inr ⟨z, by simp [hz], h5, e⟩
      · rintro (h | ⟨z, hz, h5, e⟩)
        · exact .inl h
        · rcases List.mem_cons.1 hz with rfl | hz
          · exact absurd h5 hp
          · exact .inr ⟨z, hz, h5, e⟩
theorem refSeats_eq (ds : List Dev) (l : List Rec) : refSeats ds l ds [seat0] = seatsOut ds l ds := by
  obtain ⟨h1, h2⟩ := refSeats_ok ds l ds [seat0] (by simp)
  refine sorted_eq h1 (tidy_strict _) (fun y => ?_)
  rw [h2]
  unfold seatsOut
  rw [mem_tidy]
  unfold seatsL
  simp only [List.mem_cons, List.mem_map, List.not_mem_nil, or_false]
  refine or_congr Iff.rfl ⟨?_, ?_⟩
  · rintro ⟨x, hx, hp, rfl⟩
    obtain ⟨n, hn, ht, hs⟩ := (taggedL_pos ds l _ _ ds).1 hp
    exact ⟨n, List.mem_filter.2 ⟨hn, ht⟩, hs⟩
  · rintro ⟨n, hn, rfl⟩
    obtain ⟨h3, h4⟩ := List.mem_filter.1 hn
    obtain ⟨x, hx, rfl⟩ := List.mem_map.1 h3
    exact ⟨x, hx, (taggedL_pos ds l _ _ ds).2 ⟨x.index, h3, h4, rfl⟩, rfl⟩

set_option maxRecDepth 100000 in
set_option maxHeartbeats 4000000 in
theorem ref_seats (a ra : Option Addr) (cap rcap : Nat) (ds : List Dev) (l : List Rec) (w : World) (hl : Devs w a cap ds) (hT : TreeOk ds) (hn : ds.length ≤ 1000) (hr : Recs w ra rcap l) :
    Calls Tryz.prog 25 #[.agg #[.slice a ds.length cap], .slice ra l.length rcap] w fun e w' =>
      (∃ a' c', e = .returned (.slice a' (seatsOut ds l ds).length c') ∧ Strs w' a' c' (seatsOut ds l ds)) ∧ Fr No w w' := by
  have hm := hl.lenmax
  have h0 : Fr No w (w.alloc (.cells #[.slice a ds.length cap] 25)) := (Fr.refl _ _).alloc _
  have q4 := block_alloc w (.cells #[.slice a ds.length cap] 25)
  have hl0 := hl.no h0 (fun _ => id)
  have hr0 := hr.no h0 (fun _ => id)
  go_enter Tryz.func25, Tryz.ntmps25
  go_upto_region 1 with (fail)
  generalize w.alloc (.cells #[.slice a ds.length cap] 25) = W0 at *
  have hA : Fr No W0 (W0.alloc (.cells #[.string seat0] 9)) := (Fr.refl _ _).alloc _
  have hSA : Strs (W0.alloc (.cells #[.string seat0] 9)) (some ⟨W0.heap.size, 0, none⟩) 1 [seat0] := Strs.of_block (l := [seat0]) (block_alloc _ _) (by unfold maxLen; simp)
  have hl1 := hl0.no hA (fun _ => id)
  have hr1 := hr0.no hA (fun _ => id)
  have q41 := hA.heap q4 id
  have Hfx := Lib.hid (h0.step hA (fun _ _ h => h))
  clear hl hr hl0 hr0 q4 h0
  unfold seat0 at hA hSA hl1 hr1 q41 Hfx
  go_wp2_with fail
  generalize W0.alloc (.cells _ 9) = W1 at *
  go_loopw [5, 6] (fun v i wr => ∃ (k : Nat) (av : Option Addr) (cv : Nat), k ≤ ds.length ∧ v = .slice av (refSeats ds l (ds.take k) [seat0]).length cv ∧ i = .int .i64 (k : Int) ∧ Strs wr av cv (refSeats ds l (ds.take k) [seat0]) ∧ Fr No W1 wr) (fun _ i _ => ds.length - (intOf i).toNat)
  case atStart => exact ⟨0, _, _, by omega, rfl, rfl, hSA, Fr.refl _ _⟩
  case round =>
    obtain ⟨k, av, cv, hk, rfl, rfl, hSv, hfr⟩ := hrel
    have b4 := hfr.heap q41 id
    have c4 : wr.cell? ⟨w.heap.size, 0, none⟩ = some (.slice a ds.length cap) := cell_of_block b4 0
    by_cases hlt : k < ds.length
    · have hlt' : (k : Int) < ds.length := by omega
      obtain ⟨x, hxk⟩ : ∃ x, ds[k]? = some x := ⟨ds[k], List.getElem?_eq_getElem hlt⟩
      have Hsn : Hid (refSeats ds l (ds.take (k + 1)) [seat0] = if 0 < (taggedL ds l (seatOf ds l x.index) [tagSeat, tagMaster] ds).length then with32 (refSeats ds l (ds.take k) [seat0]) (seatOf ds l x.index) else refSeats ds l (ds.take k) [seat0]) := by unfold Hid; rw [List.take_add_one, hxk]; exact refSeats_snoc ds l _ _ x
      have Hso := Lib.hid (refSeats_ok ds l (ds.take k) [seat0] (by simp)).1
      have hsl : (refSeats ds l (ds.take k) [seat0]).length ≤ 1001 := by have := refSeats_len ds l (ds.take k) [seat0]; rw [List.length_take] at this; simp at this; omega
      have Hxk := Lib.hid hxk
      clear hxk
      generalize refSeats ds l (ds.take k) [seat0] = Sk at *
      go_wp2_with fail
      refine region_sig No [(0, false), (1, false), (2, false), (3, false), (4, false), (5, false), (6, false), (7, false), (8, true), (9, false)] (by kernel_rfl) (by kernel_rfl) (fun w0 hf0 => ?_)
      have hf0w := hfr.step hf0 (fun _ _ h => h)
      have hl3 := hl1.no hf0w (fun _ => id)
      have hr3 := hr1.no hf0w (fun _ => id)
      have hS3 := hSv.no hf0 (fun _ => id)
      obtain ⟨bb, off, x', hax, hxk', y0, y1, y2, y3, y4, y5, y6, y7, y8, y9⟩ := hl3.dev hlt
      subst hax
      obtain rfl : x = x' := by have := Hxk.out; rw [this] at hxk'; exact Option.some.inj hxk'
      have g3 : ∀ g : Gr No w0, g.W.cell? ⟨w.heap.size, 0, none⟩ = some (.slice (some ⟨bb, off, none⟩) ds.length cap) := fun g => g.fr.cell (hf0.cell c4 id) id
      have g0 : ∀ g : Gr No w0, g.W.cell? ⟨bb, off + k * 10, none⟩ = some (.int .i64 x.index) := fun g => g.fr.cell y0 id
      have c40 := hf0.cell c4 id
      have Hf0 := Lib.hid hf0w
      clear hxk' y0 y1 y2 y3 y4 y5 y6 y7 y8 y9 c4 hf0w hfr hf0 hSv
      repeat (apply sig_q; exact rfl; exact rfl; exact rfl; intro K hK; go_big_quiet_op; go_big_quiet_on)
      clear g3 g0
      apply sig_m
      exact rfl
      go_wp2_with fail
      refine (ref_of _ ra cap rcap ds l x.index _ hl3 hT hn hr3).mono ?_
      rintro e w2 ⟨rfl, hf2⟩
      have hl4 := hl3.no hf2 (fun _ => id)
      have hr4 := hr3.no hf2 (fun _ => id)
      have hS4 := hS3.no hf2 (fun _ => id)
      have c42 := hf2.cell c40 id
      have Hf2 := Lib.hid (Hf0.out.step hf2 (fun _ _ h => h))
      generalize seatOf ds l x.index = sx at *
      go_wp2_with fail
      refine OnlyN.mk ⟨hf2, ?_⟩
      repeat (apply sig_q; exact rfl; exact rfl; exact rfl; intro K hK; go_big_quiet_op; go_big_quiet_on)
      refine sig_end ?_
      clear hf2 hl3 hr3 hS3 c40
      go_wp2_with fail
      refine (ref_masters _ ra cap rcap ds l sx _ hl4 hT hn hr4).mono ?_
      rintro e w3 ⟨⟨a3, c3, rfl, hI3, _⟩, hf3⟩
      have hS5 := hS4.no hf3 (fun _ => id)
      have Hf3 := Lib.hid (Hf2.out.step hf3 (fun _ _ h => h))
      clear hf3 hl4 hr4 hS4 c42 hI3
      generalize (taggedL ds l sx [tagSeat, tagMaster] ds).length = nm at *
      by_cases hp : 0 < nm
      · have hp' : (0 : Int) < (nm : Int) := by omega
        have Hn : Hid (refSeats ds l (ds.take (k + 1)) [seat0] = with32 Sk sx) := by unfold Hid; rw [Hsn.out, if_pos hp]
        go_wp2_with fail
        refine (ref_with32 av cv Sk sx _ hS5 Hso.out (by omega)).mono ?_
        rintro e w4 ⟨⟨a4, c4, rfl, hS6, _⟩, hf4⟩
        have H := Lib.hid (And.intro hS6 (Hf3.out.step hf4 (fun _ _ h => h)))
        clear hS5 hS6 hf4
        go_wp2_with fail
        go_roundw
        case rel => exact ⟨k + 1, a4, c4, by omega, by rw [Hn.out], by go_num, by rw [Hn.out]; exact H.out.1, H.out.2⟩
        case measure => simp [intOf]; omega
      · have hp' : ¬ (0 : Int) < (nm : Int) := by omega
        have Hn : Hid (refSeats ds l (ds.take (k + 1)) [seat0] = Sk) := by unfold Hid; rw [Hsn.out, if_neg hp]
        have H := Lib.hid hS5
        clear hS5
        go_wp2_with fail
        go_roundw
        case rel => exact ⟨k + 1, av, cv, by omega, by rw [Hn.out], by go_num, by rw [Hn.out]; exact H.out, Hf3.out⟩
        case measure => simp [intOf]; omega
    · obtain rfl : k = ds.length := by omega
      rw [List.take_length, refSeats_eq] at hSv
      rw [List.take_length, refSeats_eq]
      have H := Lib.hid (And.intro hSv (Hfx.out.step hfr (fun _ _ h => h)))
      clear hSv hfr b4
      go_wp2_with fail
      go_ret
      exact ⟨⟨_, _, rfl, H.out.1⟩, H.out.2⟩
end Go.Proofs.YtpnpjaemlflplaaGreatDoor
