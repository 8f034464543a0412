/- seat.Devices, seat.Masters, seat.Seats. -/
import Derived.Test.YtpnpjaemlflplaaGreatDoorK6
import Derived.Test.YtpnpjaemlflplaaGreatDoorShelf
import Derived.Shelf.SortM.Plain
import Derived.Shelf.SlicesG.CompactS
namespace Go.Proofs.YtpnpjaemlflplaaGreatDoor
open Go.RowKit Go.Maps
set_option linter.unusedVariables false

def tagSeat : ByteArray := ⟨#[115, 101, 97, 116]⟩
def tagMaster : ByteArray := ⟨#[109, 97, 115, 116, 101, 114, 45, 111, 102, 45, 115, 101, 97, 116]⟩

set_option maxHeartbeats 1000000 in
theorem seat_devices (a ra : Option Addr) (cap rcap base : Nat) (ds : List Dev) (l : List Rec) (seat : ByteArray) (w : World) (hl : Tr w base a cap ds) (hn : ds.length ≤ 1000) (hr : Recs w ra rcap l) :
    Calls Tryz.prog 19 #[.agg #[.slice a ds.length cap], .slice ra l.length rcap, .string seat] w fun e w' =>
      (∃ a' c', e = .returned (.slice a' (taggedL ds l seat [tagSeat] ds).length c') ∧ Ints w' a' c' (taggedL ds l seat [tagSeat] ds) ∧ ∀ ad, a' = some ad → w.heap.size ≤ ad.block) ∧ Fr No w w' := by
  have h0 : Fr No w (w.alloc (.cells #[.slice a ds.length cap] 25)) := (Fr.refl _ _).alloc _
  have h1 : Fr No w ((w.alloc (.cells #[.slice a ds.length cap] 25)).alloc (.cells #[.string tagSeat] 9)) := h0.alloc _
  have hS : Strs ((w.alloc (.cells #[.slice a ds.length cap] 25)).alloc (.cells #[.string tagSeat] 9)) (some ⟨w.heap.size + 1, 0, none⟩) 1 [tagSeat] := Strs.of_block (l := [tagSeat]) (block_alloc2 _ _ _) (by unfold maxLen; simp)
  have H := Lib.hid (And.intro (hl.no h1) (And.intro (hr.no h1 (fun _ => id)) (And.intro hS h1)))
  clear h0 h1 hS hl hr
  go_enter Tryz.func19, Tryz.ntmps19
  go_wp2_with fail
  refine (seat_tagged a ra _ cap rcap 1 base ds l seat [tagSeat] _ H.out.1 hn H.out.2.1 H.out.2.2.1).mono ?_
  rintro e w1 ⟨⟨a', c', rfl, hI, hfresh⟩, hf1⟩
  have Hf := Lib.hid (And.intro hI (And.intro hfresh (H.out.2.2.2.step hf1 (fun _ _ h => h))))
  have hsz := H.out.2.2.2.size
  clear hI hfresh hf1 H
  go_wp2_with fail
  go_ret
  exact ⟨⟨a', c', rfl, Hf.out.1, fun ad e => by have := Hf.out.2.1 ad e; simp at this; omega⟩, Hf.out.2.2⟩

set_option maxHeartbeats 1000000 in
theorem seat_masters (a ra : Option Addr) (cap rcap base : Nat) (ds : List Dev) (l : List Rec) (seat : ByteArray) (w : World) (hl : Tr w base a cap ds) (hn : ds.length ≤ 1000) (hr : Recs w ra rcap l) :
    Calls Tryz.prog 21 #[.agg #[.slice a ds.length cap], .slice ra l.length rcap, .string seat] w fun e w' =>
      (∃ a' c', e = .returned (.slice a' (taggedL ds l seat [tagSeat, tagMaster] ds).length c') ∧ Ints w' a' c' (taggedL ds l seat [tagSeat, tagMaster] ds) ∧ ∀ ad, a' = some ad → w.heap.size ≤ ad.block) ∧ Fr No w w' := by
  have h0 : Fr No w (w.alloc (.cells #[.slice a ds.length cap] 25)) := (Fr.refl _ _).alloc _
  have h1 : Fr No w ((w.alloc (.cells #[.slice a ds.length cap] 25)).alloc (.cells #[.string tagSeat, .string tagMaster] 9)) := h0.alloc _
  have hS : Strs ((w.alloc (.cells #[.slice a ds.length cap] 25)).alloc (.cells #[.string tagSeat, .string tagMaster] 9)) (some ⟨w.heap.size + 1, 0, none⟩) 2 [tagSeat, tagMaster] := Strs.of_block (l := [tagSeat, tagMaster]) (block_alloc2 _ _ _) (by unfold maxLen; simp)
  have H := Lib.hid (And.intro (hl.no h1) (And.intro (hr.no h1 (fun _ => id)) (And.intro hS h1)))
  clear h0 h1 hS hl hr
  go_enter Tryz.func21, Tryz.ntmps21
  go_wp2_with fail
  refine (seat_tagged a ra _ cap rcap 2 base ds l seat [tagSeat, tagMaster] _ H.out.1 hn H.out.2.1 H.out.2.2.1).mono ?_
  rintro e w1 ⟨⟨a', c', rfl, hI, hfresh⟩, hf1⟩
  have Hf := Lib.hid (And.intro hI (And.intro hfresh (H.out.2.2.2.step hf1 (fun _ _ h => h))))
  have hsz := H.out.2.2.2.size
  clear hI hfresh hf1 H
  go_wp2_with fail
  go_ret
  exact ⟨⟨a', c', rfl, Hf.out.1, fun ad e => by have := Hf.out.2.1 ad e; simp at this; omega⟩, Hf.out.2.2⟩

/-- The seats, as they are gathered. -/
def seatsL (ds : List Dev) (l : List Rec) (q : List Dev) : List ByteArray := seat0 :: ((q.map Dev.index).filter (tagOk ds l [tagSeat, tagMaster])).map (seatOf ds l)
theorem seatsL_snoc (ds : List Dev) (l : List Rec) (q : List Dev) (x : Dev) : seatsL ds l (q ++ [x]) = seatsL ds l q ++ (if tagOk ds l [tagSeat, tagMaster] x.index then [seatOf ds l x.index] else []) := by
  unfold seatsL
  rw [List.map_append, List.filter_append, List.map_append, List.cons_append]
  congr 2
  by_cases h : tagOk ds l [tagSeat, tagMaster] x.index <;> simp [h]
theorem seatsL_len (ds : List Dev) (l : List Rec) (q : List Dev) : (seatsL ds l q).length ≤ q.length + 1 := by
  unfold seatsL
  have := List.length_filter_le (tagOk ds l [tagSeat, tagMaster]) (q.map Dev.index)
  simp at this ⊢; omega
def bl (x : ByteArray) : List UInt8 := x.data.toList
def lb (x : List UInt8) : ByteArray := ⟨x.toArray⟩
theorem lb_bl (x : ByteArray) : lb (bl x) = x := by unfold lb bl; simp
/-- Sorted, each once. -/
def tidy (L : List ByteArray) : List ByteArray := (Lib.compact ((L.map bl).mergeSort fun x y => decide (x ≤ y))).map lb
def seatsOut (ds : List Dev) (l : List Rec) (q : List Dev) : List ByteArray := tidy (seatsL ds l q)

theorem Fr.grown' {S : Nat → Prop} {w W : World} (h : Fr S w W) (os : Array Obj) : Fr S w (Go.Sort.grow W os) :=
  h.step (T := No) ⟨rfl, rfl, rfl, by simp [Go.Sort.grow], fun k hk _ => Go.Sort.heap_grow_old W os hk⟩ (fun _ _ h => h.elim)
theorem Fr.putRow' {α : Type} [Inhabited α] (enc : α → Value) {w W : World} {g : Nat} (h : Fr (Is g) w W) (off : Nat) (d : Array α) : Fr (Is g) w (Go.Sort.putRow enc W g off d) :=
  h.step (T := Is g) ⟨rfl, rfl, rfl, by simp [Go.Sort.putRow, Go.Sort.mapBlock], fun k _ hk => by
    simp only [Go.Sort.putRow, Go.Sort.mapBlock, Array.getElem?_modify]
    rw [if_neg (fun e => hk e.symm)]⟩ (fun _ _ h => h)
theorem Fr.ahead' {S : Nat → Prop} {w W : World} (h : Fr S w W) (n : Nat) : Fr S w (Go.Sort.ahead W n) := ⟨h.os, h.tape, h.output, h.size, h.block⟩

open Go.Sort in
theorem strs_sort (g cap : Nat) (zs : List (List UInt8)) (w : World) (hH : Holds encStr w g 0 zs.toArray) (hg : g < w.heap.size) (hn : zs.length < 4611686018427387904) :
    Calls Tryz.prog 64 #[.slice (some ⟨g, 0, none⟩) zs.length cap] w fun e w' => e = .returned (.tuple #[]) ∧ Fr (Is g) w w' ∧ Holds encStr w' g 0 (zs.mergeSort fun x y => decide (x ≤ y)).toArray := by
  refine (AnyM.slices_Sort_string Tryz.sortS g 0 cap zs w hH hg hn).mono ?_
  rintro e w' ⟨rfl, n, os, rfl⟩
  have hs : ((zs.mergeSort fun x y => decide (x ≤ y)).toArray).size = zs.toArray.size := by simp
  refine ⟨rfl, (Fr.putRow' encStr ((Fr.refl _ _).ahead' n) 0 _).grown' os, ?_⟩
  refine holds_grow encStr _ os g 0 _ ?_ (holds_putRow encStr (Go.Sort.ahead w n) g 0 _ _ (holds_ahead encStr w n g 0 _ hH) hs)
  show g < (putRow encStr (Go.Sort.ahead w n) g 0 _).heap.size
  have := (Fr.putRow' encStr ((Fr.refl (Is g) w).ahead' n) 0 ((zs.mergeSort fun x y => decide (x ≤ y)).toArray)).size
  omega

open Go.Sort in
theorem holds_strs (w : World) (g cap : Nat) (zs r : List (List UInt8)) (hH : Holds encStr w g 0 (zs ++ r).toArray) (hg : g < w.heap.size) (hc : zs.length ≤ cap) (hm : cap ≤ maxLen) : Strs w (some ⟨g, 0, none⟩) cap (zs.map lb) := by
  refine ⟨by simpa using hc, hm, (fun e => by cases e), fun ad e hne => ?_⟩
  cases e
  refine ⟨rfl, hg, fun i x hi => ?_⟩
  rw [List.getElem?_map] at hi
  obtain ⟨z, hz, rfl⟩ := Option.map_eq_some_iff.1 hi
  have hlt : i < zs.length := (List.getElem?_eq_some_iff.1 hz).1
  have h1 := (hH i (by simp; omega)).1
  rw [h1]
  congr 1
  have : ((zs ++ r).toArray)[i]! = z := by
    rw [getElem!_pos _ i (by simp; omega)]
    simp only [List.getElem_toArray]
    rw [List.getElem_append_left hlt]
    exact (List.getElem?_eq_some_iff.1 hz).2
  rw [this]; rfl

open Go.Sort in
theorem strs_compact (g cap : Nat) (zs : List (List UInt8)) (w : World) (hH : Holds encStr w g 0 zs.toArray) (hg : g < w.heap.size) (hc : zs.length ≤ cap) (hm : cap ≤ maxLen) :
    Calls Tryz.prog 65 #[.slice (some ⟨g, 0, none⟩) zs.length cap] w fun e w' => e = .returned (.slice (some ⟨g, 0, none⟩) (Lib.compact zs).length cap) ∧ Fr (Is g) w w' ∧ Strs w' (some ⟨g, 0, none⟩) cap ((Lib.compact zs).map lb) := by
  have hlc : (Lib.compact zs).length ≤ zs.length := by
    unfold Lib.compact Lib.compactUpTo
    rw [List.length_map]
    exact Nat.le_trans (List.length_filter_le _ _) (by simp)
  refine (AnyG.slices_Compact_string Tryz.compactS g 0 cap zs w hH (by unfold maxLen at hm; omega) hc).mono ?_
  rintro e w' ⟨rfl, q, rfl⟩
  have hs : ((Lib.compact zs ++ List.replicate (zs.length - (Lib.compact zs).length) []).toArray).size = zs.toArray.size := by simp; omega
  have hp := Fr.putRow' encStr ((Fr.refl (Is g) w).ahead' q) 0 ((Lib.compact zs ++ List.replicate (zs.length - (Lib.compact zs).length) []).toArray)
  refine ⟨rfl, hp, holds_strs _ g cap _ (List.replicate (zs.length - (Lib.compact zs).length) []) (holds_putRow encStr (Go.Sort.ahead w q) g 0 _ _ (holds_ahead encStr w q g 0 _ hH) hs) (by have := hp.size; omega) (by omega) hm⟩

open Go.Sort in
theorem own_holds {w : World} {base : Nat} {e : TypeId} {v : Value} {L : List ByteArray} (h : w.ownsRow base e 1 v L.length (L.map Value.string)) (hne : L ≠ []) :
    ∃ g c, v = .slice (some ⟨g, 0, none⟩) L.length c ∧ base ≤ g ∧ g < w.heap.size ∧ L.length ≤ c ∧ c ≤ maxLen ∧ Holds encStr w g 0 (L.map bl).toArray := by
  obtain ⟨_, ⟨_, h2⟩ | ⟨g, cap, cur, rfl, hg, hb, h1, h2, h3, h4⟩⟩ := h
  · exact absurd (List.eq_nil_of_length_eq_zero h2) hne
  · refine ⟨g, cap, rfl, hg, lt_of_block hb, h1, h2, fun j hj => ?_⟩
    have hj' : j < L.length := by simpa using hj
    refine ⟨?_, free_of_block hb _⟩
    rw [cell_of_block hb, Nat.zero_add, ← Array.getElem?_toList]
    have e1 : cur.toList[j]? = (L.map Value.string)[j]? := by
      rw [← h4, List.getElem?_take_of_lt (by simpa using hj')]
    rw [e1, List.getElem?_map, List.getElem?_eq_getElem hj']
    have : ((L.map bl).toArray)[j]! = bl L[j] := by
      rw [getElem!_pos _ j hj]; simp
    rw [this]
    show some (Value.string L[j]) = some (Value.string (lb (bl L[j])))
    rw [lb_bl]

set_option maxRecDepth 100000 in
set_option maxHeartbeats 2000000 in
theorem seat_seats (a ra : Option Addr) (cap rcap base : Nat) (ds : List Dev) (l : List Rec) (w : World) (hl : Tr w base a cap ds) (hn : ds.length ≤ 1000) (hr : Recs w ra rcap l) :
    Calls Tryz.prog 24 #[.agg #[.slice a ds.length cap], .slice ra l.length rcap] w fun e w' =>
      (∃ a' c', e = .returned (.slice a' (seatsOut ds l ds).length c') ∧ Strs w' a' c' (seatsOut ds l ds) ∧ ∀ ad, a' = some ad → w.heap.size ≤ ad.block) ∧ Fr No w w' := by
  obtain ⟨i0, hi0, hz0, hz1, hz2⟩ := info_parts infoS
  have hT := hl.wf.1
  have hm := hl.dv.lenmax
  have h0 : Fr No w (w.alloc (.cells #[.slice a ds.length cap] 25)) := (Fr.refl _ _).alloc _
  have q4 := block_alloc w (.cells #[.slice a ds.length cap] 25)
  have hs0 : w.heap.size < (w.alloc (.cells #[.slice a ds.length cap] 25)).heap.size := by simp
  go_enter Tryz.func24, Tryz.ntmps24
  go_wp2_with fail
  have ownI : ((w.alloc (.cells #[.slice a ds.length cap] 25)).alloc (.cells #[.string seat0] 9)).ownsRow (w.heap.size + 1) 9 1 (.slice (some ⟨w.heap.size + 1, 0, none⟩) 1 1) 1 ([seat0].map Value.string) :=
    ⟨rfl, .inr ⟨w.heap.size + 1, 1, #[.string seat0], rfl, Nat.le_refl _, block_alloc2 _ _ _, Nat.le_refl _, by unfold maxLen; omega, rfl, rfl⟩⟩
  have q4 := ((Fr.refl No _).alloc (.cells #[.string seat0] 9)).heap q4 id
  have h0 := h0.alloc (.cells #[.string seat0] 9)
  have hs0 : w.heap.size + 1 < ((w.alloc (.cells #[.slice a ds.length cap] 25)).alloc (.cells #[.string seat0] 9)).heap.size := by simp
  unfold seat0 at *
  generalize (w.alloc (.cells #[.slice a ds.length cap] 25)).alloc (.cells _ 9) = W0 at *
  go_loopw [5, 14] (fun v i wr => ∃ (k : Nat) (av : Option Addr) (cv : Nat), k ≤ ds.length ∧ v = .slice av (seatsL ds l (ds.take k)).length cv ∧ i = .int .i64 (k : Int) ∧ wr.ownsRow (w.heap.size + 1) 9 1 (.slice av (seatsL ds l (ds.take k)).length cv) (seatsL ds l (ds.take k)).length ((seatsL ds l (ds.take k)).map Value.string) ∧ Fr (From (w.heap.size + 1)) W0 wr) (fun _ i _ => ds.length - (intOf i).toNat)
  case atStart => exact ⟨0, some ⟨w.heap.size + 1, 0, none⟩, 1, by omega, rfl, rfl, ownI, Fr.refl _ _⟩
  case round =>
    obtain ⟨k, av, cv, hk, rfl, rfl, hown, hfr⟩ := hrel
    have hwr : Fr (From (w.heap.size + 1)) w wr := (h0.mono (fun _ _ h => h.elim)).step hfr (fun _ _ h => h)
    have hnl : ∀ b, b < w.heap.size → ¬ From (w.heap.size + 1) b := fun b h1 h2 => by unfold From at h2; omega
    have hlr := hl.keep hwr (fun b h1 _ => hnl b h1)
    have hrr := hr.keep hwr hnl
    have b4 := hfr.heap q4 (fun h => by unfold From at h; omega)
    by_cases hlt : k < ds.length
    · have hlt' : (k : Int) < ds.length := by omega
      obtain ⟨bb, off, x, rfl, hxk, y0, y1, y2, y3, y4, y5, y6, y7, y8, y9⟩ := hlr.dv.dev hlt
      have hxw := hT.iwf (List.mem_of_getElem? hxk)
      have Htk : Hid (ds.take (k + 1) = ds.take k ++ [x]) := by unfold Hid; rw [List.take_add_one, hxk]; rfl
      have hxx : Fr No wr (wr.alloc (.cells x.vals 32)) := (Fr.refl _ _).alloc _
      have Hxx := Lib.hid hxx
      have c4 : ∀ o, (wr.alloc o).cell? ⟨w.heap.size, 0, none⟩ = some (.slice (some ⟨bb, off, none⟩) ds.length cap) := fun o => ((Fr.refl No wr).alloc o).cell (cell_of_block b4 0) id
      clear hxk hxx
      go_wp2_with fail
      refine (seat_find _ ra cap rcap ds l x.index _ (hlr.no Hxx.out).dv hT hn hxw (hrr.no Hxx.out (fun _ => id))).mono ?_
      rintro e w3 ⟨hF, hf3⟩
      obtain rfl := hF.eq
      have hok := recOf_ok ((hrr.no Hxx.out (fun _ => id)).no hf3 (fun _ => id)) ds x.index
      have hto : tagOk ds l [tagSeat, tagMaster] x.index = ((recOf ds l x.index).isSome && [tagSeat, tagMaster].all (hasS ((recOf ds l x.index).getD Rec.zero).tags)) := rfl
      have Hto := Lib.hid hto
      clear hto hF
      generalize (recOf ds l x.index).isSome = bs at *
      generalize (recOf ds l x.index).getD Rec.zero = r at *
      have hyy : Fr No w3 (w3.alloc (.cells r.vals 42)) := (Fr.refl _ _).alloc _
      have Hok := Lib.hid (hok.no hyy (fun _ => id))
      have Hf3 := Lib.hid ((Hxx.out.step hf3 (fun _ _ h => h)).step hyy (fun _ _ h => h))
      have b43 := hf3.heap (Hxx.out.heap b4 id) id
      have e4 : ∀ o, (w3.alloc o).cell? ⟨w.heap.size, 0, none⟩ = some (.slice (some ⟨bb, off, none⟩) ds.length cap) := fun o => ((Fr.refl No w3).alloc o).cell (cell_of_block b43 0) id
      have xd := hf3.heap (block_alloc wr (.cells x.vals 32)) id
      have e0 : ∀ o, (w3.alloc o).cell? ⟨wr.heap.size, 0, none⟩ = some (.int .i64 x.index) := fun o => ((Fr.refl No w3).alloc o).cell (cell_of_block xd 0) id
      have Hlr := Lib.hid hlr
      have Hrr := Lib.hid hrr
      have Hb4 := Lib.hid b4
      clear hok hyy hf3 y0 y1 y2 y3 y4 y5 y6 y7 y8 y9 c4 b43 hlr hrr hwr hnl b4
      unfold Rec.vals
      cases bs with
      | false =>
        have Hn : Hid (seatsL ds l (ds.take (k + 1)) = seatsL ds l (ds.take k)) := by
          unfold Hid
          rw [Htk.out, seatsL_snoc, if_neg (by rw [Hto.out]; simp), List.append_nil]
        have Hown := Lib.hid (ownsRow_fr hown Hf3.out (fun _ _ => id))
        have Hfin := Lib.hid (hfr.step Hf3.out (fun _ _ h => h.elim))
        clear hown hfr e4 e0 xd
        go_wp2_with fail
        go_roundw
        case rel => exact ⟨k + 1, av, cv, by omega, by rw [Hn.out], by go_num, by rw [Hn.out]; exact Hown.out, Hfin.out⟩
        case measure => simp [intOf]; omega
      | true =>
        have hM : Fr No (w3.alloc (.cells r.vals 42)) ((w3.alloc (.cells r.vals 42)).alloc (.cells #[.string tagSeat, .string tagMaster] 9)) := (Fr.refl _ _).alloc _
        have hSM : Strs ((w3.alloc (.cells r.vals 42)).alloc (.cells #[.string tagSeat, .string tagMaster] 9)) (some ⟨w3.heap.size + 1, 0, none⟩) 2 [tagSeat, tagMaster] := Strs.of_block (l := [tagSeat, tagMaster]) (block_alloc2 w3 (.cells r.vals 42) (.cells #[.string tagSeat, .string tagMaster] 9)) (by unfold maxLen; simp)
        have HM := Lib.hid (And.intro hM hSM)
        clear hSM
        clear hM
        go_wp2_with fail
        refine (has_all r.ta (some ⟨w3.heap.size + 1, 0, none⟩) r.tc 2 r.tags [tagSeat, tagMaster] _ (Hok.out.tags.no HM.out.1 (fun _ => id)) HM.out.2).mono ?_
        rintro e w4 ⟨rfl, hf4⟩
        generalize [tagSeat, tagMaster].all (hasS r.tags) = b1 at *
        have Hf4 := Lib.hid ((Hf3.out.step HM.out.1 (fun _ _ h => h)).step hf4 (fun _ _ h => h))
        have d4 : w4.cell? ⟨w.heap.size, 0, none⟩ = some (.slice (some ⟨bb, off, none⟩) ds.length cap) := cell_of_block (Hf4.out.heap Hb4.out id) 0
        have hd4 := hf4.heap (HM.out.1.heap (((Fr.refl No w3).alloc (.cells r.vals 42)).heap xd id) id) id
        have d0 : w4.cell? ⟨wr.heap.size, 0, none⟩ = some (.int .i64 x.index) := cell_of_block hd4 0
        clear hf4 e4 e0 xd
        cases b1 with
        | false =>
          have Hn : Hid (seatsL ds l (ds.take (k + 1)) = seatsL ds l (ds.take k)) := by
            unfold Hid
            rw [Htk.out, seatsL_snoc, if_neg (by rw [Hto.out]; simp), List.append_nil]
          have Hown := Lib.hid (ownsRow_fr hown Hf4.out (fun _ _ => id))
          have Hfin := Lib.hid (hfr.step Hf4.out (fun _ _ h => h.elim))
          clear hown hfr d4 d0 hd4
          go_wp2_with fail
          go_roundw
          case rel => exact ⟨k + 1, av, cv, by omega, by rw [Hn.out], by go_num, by rw [Hn.out]; exact Hown.out, Hfin.out⟩
          case measure => simp [intOf]; omega
        | true =>
          go_wp2_with fail
          refine (seat_of _ ra cap rcap base ds l x.index _ (Hlr.out.no Hf4.out) hn hxw (Hrr.out.no Hf4.out (fun _ => id))).mono ?_
          rintro e w5 ⟨rfl, hf5⟩
          generalize hsx : seatOf ds l x.index = s at *
          have Hsx := Lib.hid hsx
          clear hsx
          have Hf5 := Lib.hid (Hf4.out.step hf5 (fun _ _ h => h))
          have d5 : w5.cell? ⟨wr.heap.size, 0, none⟩ = some (.int .i64 x.index) := cell_of_block (hf5.heap hd4 id) 0
          clear hf5 d4 d0 hd4
          have Hn : Hid (seatsL ds l (ds.take (k + 1)) = seatsL ds l (ds.take k) ++ [s]) := by
            unfold Hid
            rw [Htk.out, seatsL_snoc, if_pos (by rw [Hto.out]; rfl), Hsx.out]
          have hown5 := ownsRow_fr hown Hf5.out (fun _ _ => id)
          have hsz5 := Hf5.out.size
          have hszr := hfr.size
          have htl : (seatsL ds l (ds.take k)).length ≤ 1001 := by
            have h1 := seatsL_len ds l (ds.take k)
            rw [List.length_take] at h1
            omega
          have Hfr5 := Lib.hid (hfr.step Hf5.out (fun _ _ h => h.elim))
          clear hown hfr
          go_wp2_with (at_builtin; refine wpList_append_own _ rfl _ _ 35 rfl (w.heap.size + 1) 9 i0 (.string ByteArray.empty) 1 16 Tryz.underlying35 hi0 hz0 hz1 hz2 rfl (by decide) _ _ _ rfl (hown5.alloc _) ⟨w5.heap.size, 0, none⟩ 1 1 [.string s] rfl rfl (cell_one_new _ _ _) (strs_one [s]) (by unfold maxLen; omega) (by omega) (by simp; omega) ?_; intro v' w6 hown6 hgrow6 _; obtain ⟨av', cv', rfl⟩ := ownsRow_slice hown6)
          have hg6 : Fr (From (w.heap.size + 1)) w5 w6 := grown_fr hown5 hgrow6
          have Hg6 := Lib.hid (Hfr5.out.step hg6 (fun _ _ h => h))
          have Hown6 := Lib.hid hown6
          have hll : (seatsL ds l (ds.take (k + 1))).length = (seatsL ds l (ds.take k)).length + 1 := by rw [Hn.out]; simp
          have Hll := Lib.hid hll
          clear hg6 hown6 hgrow6 hown5 hll
          go_roundw
          case rel => exact ⟨k + 1, av', cv', by omega, by rw [Hll.out], by go_num, by rw [Hll.out, Hn.out, List.map_append]; exact Hown6.out, Hg6.out⟩
          case measure => simp [intOf]; omega
    · obtain rfl : k = ds.length := by omega
      rw [List.take_length] at hown ⊢
      obtain ⟨g, c, hv, hgb, hgl, hgc, hgm, hH⟩ := own_holds hown (by unfold seatsL; simp)
      have hlen : (seatsL ds l ds).length < 4611686018427387904 := by have := seatsL_len ds l ds; omega
      cases hv
      have hml : ((seatsL ds l ds).map bl).length = (seatsL ds l ds).length := by simp
      have Hml := Lib.hid hml
      have hgw : w.heap.size < g := by omega
      have Hall := Lib.hid (And.intro hH (And.intro hgl (And.intro hgc (And.intro hgm (h0.step hfr (T := From (w.heap.size + 1)) (fun b hb h => by unfold From at h; omega))))))
      clear hown hH hgl hgc hgm hfr q4 h0 hl hr ownI hml
      go_wp2_with fail
      refine (show Calls Tryz.prog 64 #[.slice (some ⟨g, 0, none⟩) (seatsL ds l ds).length cv] _ _ from by rw [← Hml.out]; exact strs_sort g cv _ _ Hall.out.1 Hall.out.2.1 (by rw [Hml.out]; exact hlen)).mono ?_
      rintro e w1 ⟨rfl, hf1, hH1⟩
      have H1 := Lib.hid (And.intro hH1 (And.intro (Hall.out.2.2.2.2.step hf1 (fun b hb e => by unfold Is at e; omega)) (And.intro hf1.size Hall.out.2.1)))
      clear hf1 hH1
      go_wp2_with fail
      have hml2 : (((seatsL ds l ds).map bl).mergeSort fun x y => decide (x ≤ y)).length = (seatsL ds l ds).length := by simp
      have Hml2 := Lib.hid hml2
      clear hml2
      refine (show Calls Tryz.prog 65 #[.slice (some ⟨g, 0, none⟩) (seatsL ds l ds).length cv] _ _ from by rw [← Hml2.out]; exact strs_compact g cv _ _ H1.out.1 (by have := H1.out.2.2.1; have := H1.out.2.2.2; omega) (by rw [Hml2.out]; exact Hall.out.2.2.1) Hall.out.2.2.2.1).mono ?_
      rintro e w2 ⟨rfl, hf2, hS2⟩
      have H2 := Lib.hid (And.intro hS2 (H1.out.2.1.step hf2 (fun b hb e => by unfold Is at e; omega)))
      clear hf2 hS2
      have hso : (Lib.compact (((seatsL ds l ds).map bl).mergeSort fun x y => decide (x ≤ y))).length = (seatsOut ds l ds).length := by unfold seatsOut tidy; simp
      have Hso := Lib.hid hso
      clear hso
      go_wp2_with fail
      go_ret
      exact ⟨⟨some ⟨g, 0, none⟩, cv, by rw [← Hso.out]; rfl, H2.out.1, fun ad e => by cases e; exact Nat.le_of_lt hgw⟩, H2.out.2⟩
end Go.Proofs.YtpnpjaemlflplaaGreatDoor
