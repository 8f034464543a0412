/- SeatMoves: a record more at the head; Below, Subtree of the reference. -/
import Derived.Test.YtpnpjaemlflplaaGreatDoorKV
import Derived.Test.YtpnpjaemlflplaaGreatDoorKE
namespace Go.Proofs.YtpnpjaemlflplaaGreatDoor
open Go.RowKit Go.Maps
set_option linter.unusedVariables false

def seat9 : ByteArray := ⟨#[115, 101, 97, 116, 57]⟩
theorem n_seat9 : isName seat9 = true := by unfold isName inSet; rw [ByteArray.toList_eq]; decide
/-- A record that gives a device the seat seat9. -/
structure MovR (ds : List Dev) (x : Dev) (r : Rec) : Prop where
  path : r.path = pathOf (origin ds x.index)
  index : r.index = x.index
  props : r.props = [(keySeat, seat9)]
theorem idSeat_mov {ds : List Dev} {l : List Rec} {x : Dev} {r : Rec} (hT : TreeOk ds) (hx : x ∈ ds) (hr : MovR ds x r) (n : Int) : idSeat ds (r :: l) n = if n = x.index then seat9 else idSeat ds l n := by
  unfold idSeat recOf
  by_cases h : n = x.index
  · subst h
    rw [if_pos rfl, if_neg (by rw [hT.lk hx]; simp), List.find?_cons]
    have : Rec.is x.index (pathOf (origin ds x.index)) r = true := by unfold Rec.is; rw [hr.path, hr.index]; simp
    rw [this]
    simp [hr.props, getP, isKey]
  · rw [if_neg h]
    split
    · rfl
    · rw [List.find?_cons]
      have : Rec.is n (pathOf (origin ds n)) r = false := by
        unfold Rec.is
        rw [hr.index, decide_eq_false (fun e => h e.symm), Bool.false_and]
      rw [this]
theorem seatL_mov {ds : List Dev} {l : List Rec} {x : Dev} {r : Rec} (hT : TreeOk ds) (hx : x ∈ ds) (hr : MovR ds x r) : ∀ c : List Int, seatL ds (r :: l) c = seatL ds l c ∨ seatL ds (r :: l) c = seat9
  | [] => .inl rfl
  | i :: t => by
    unfold seatL
    rw [idSeat_mov hT hx hr]
    by_cases h : i = x.index
    · rw [if_pos h, if_pos n_seat9]; exact .inr rfl
    · rw [if_neg h]
      by_cases hv : isName (idSeat ds l i) = true
      · rw [if_pos hv, if_pos hv]; exact .inl rfl
      · rw [if_neg hv, if_neg hv]; exact seatL_mov hT hx hr t
/-- A device is another one or lies below it. -/
def belowB (ds : List Dev) (n top : Int) : Bool := decide (0 ≤ place (chain ds n) top)
theorem belowB_iff (ds : List Dev) (n top : Int) : belowB ds n top = true ↔ top ∈ (chain ds n).map Dev.index := by
  unfold belowB
  rw [decide_eq_true_iff, show (0 ≤ place (chain ds n) top) ↔ ¬ place (chain ds n) top < 0 by omega, place_neg, look_none, List.mem_map]
  constructor
  · intro h
    apply Classical.byContradiction
    intro h2
    exact h (fun d hd e => h2 ⟨d, hd, e⟩)
  · rintro ⟨d, hd, e⟩ h
    exact h d hd e
structure Moved (ds : List Dev) (l : List Rec) (x : Dev) (r : Rec) (n : Int) : Prop where
  out : belowB ds n x.index = false → seatOf ds (r :: l) n = seatOf ds l n ∧ n ≠ x.index
  own : n = x.index → seatOf ds (r :: l) n = seat9
  any : seatOf ds (r :: l) n = seatOf ds l n ∨ seatOf ds (r :: l) n = seat9
theorem moved {ds : List Dev} {l : List Rec} {x : Dev} {r : Rec} (hT : TreeOk ds) (hx : x ∈ ds) (hr : MovR ds x r) (n : Int) : Moved ds l x r n := by
  refine ⟨fun hb => ?_, fun e => ?_, ?_⟩
  · have hno : x.index ∉ (chain ds n).map Dev.index := by rw [← belowB_iff, hb]; simp
    refine ⟨?_, fun e => ?_⟩
    · unfold seatOf
      rw [seatL_congr ds (r :: l) l _ (fun i hi => by rw [idSeat_mov hT hx hr, if_neg (fun (e : i = x.index) => hno (by rw [← e]; exact hi))])]
    · subst e
      exact hno (by rw [hT.chain_cons (hT.lk hx)]; simp)
  · subst e
    unfold seatOf
    rw [if_neg (by rw [hT.lk hx]; simp), hT.chain_cons (hT.lk hx), List.map_cons]
    unfold seatL
    rw [idSeat_mov hT hx hr, if_pos rfl, if_pos n_seat9]
  · unfold seatOf
    split
    · exact .inl rfl
    · exact seatL_mov hT hx hr _
/-- The devices at or below one. -/
def subL (ds : List Dev) (n : Int) (q : List Dev) : List Dev := q.filter fun d => belowB ds d.index n
theorem subL_snoc (ds : List Dev) (n : Int) (q : List Dev) (x : Dev) : subL ds n (q ++ [x]) = subL ds n q ++ if belowB ds x.index n = true then [x] else [] := by
  unfold subL
  rw [List.filter_append]
  congr 1
  by_cases h : belowB ds x.index n = true <;> simp [h]
theorem sub_mem {ds : List Dev} {n : Int} {y : Dev} (hT : TreeOk ds) (hy : y ∈ ds) : decide (y.index ∈ (subL ds n ds).map Dev.index) = belowB ds y.index n := by
  rw [Bool.eq_iff_iff, decide_eq_true_iff, List.mem_map]
  unfold subL
  constructor
  · rintro ⟨d, hd, e⟩
    have := (List.mem_filter.1 hd).2
    rwa [e] at this
  · intro h
    exact ⟨y, List.mem_filter.2 ⟨hy, h⟩, rfl⟩

set_option maxRecDepth 100000 in
set_option maxHeartbeats 1000000 in
theorem ref_below (a : Option Addr) (cap : Nat) (ds : List Dev) (n top : Int) (w : World) (hl : Devs w a cap ds) (hb : ds.length ≤ 1000000) :
    Calls Tryz.prog 68 #[.agg #[.slice a ds.length cap], .int .i64 n, .int .i64 top] w fun e w' => e = .returned (.bool (belowB ds n top)) ∧ Fr No w w' := by
  have hx : Fr No w (w.alloc (.cells #[.slice a ds.length cap] 25)) := (Fr.refl _ _).alloc _
  have hlx := hl.no hx (fun _ => id)
  go_enter Tryz.func68, Tryz.ntmps68
  go_wp2_with fail
  refine (ref_chain a cap ds n _ hlx hb).mono ?_
  rintro e w1 ⟨⟨v, rfl, hown⟩, hf1⟩
  obtain ⟨ac, cc, rfl, hD, -⟩ := Devs.of_own hown
  have Hf := Lib.hid (hx.step hf1 (fun _ _ h => h))
  have Hb : Hid (belowB ds n top = decide (0 ≤ place (chain ds n) top)) := rfl
  clear hown hf1 hx
  generalize chain ds n = C at *
  go_wp2_with fail
  refine (ref_index ac cc C top _ hD).mono ?_
  rintro e w2 ⟨rfl, rfl⟩
  go_wp2_with fail
  go_ret
  exact ⟨by rw [Hb.out]; rfl, Hf.out⟩

set_option maxRecDepth 100000 in
set_option maxHeartbeats 4000000 in
theorem ref_subtree (a : Option Addr) (cap : Nat) (ds : List Dev) (n : Int) (w : World) (hl : Devs w a cap ds) (hb : ds.length ≤ 1000) :
    Calls Tryz.prog 33 #[.agg #[.slice a ds.length cap], .int .i64 n] w fun e w' => (∃ a' c', e = .returned (.slice a' (subL ds n ds).length c') ∧ Devs w' a' c' (subL ds n ds)) ∧ Fr No w w' := by
  obtain ⟨i0, hi, hz0, hz1, hz2⟩ := info_parts infoD
  have hm := hl.lenmax
  have h0 : Fr No w (w.alloc (.cells #[.slice a ds.length cap] 25)) := (Fr.refl _ _).alloc _
  have q4 := block_alloc w (.cells #[.slice a ds.length cap] 25)
  have hs0 : w.heap.size < (w.alloc (.cells #[.slice a ds.length cap] 25)).heap.size := by simp
  have hl0 := hl.no h0 (fun _ => id)
  go_enter Tryz.func33, Tryz.ntmps33
  go_wp2_with fail
  generalize w.alloc (.cells #[.slice a ds.length cap] 25) = W0 at *
  go_loopw [5, 6] (fun v i wr => ∃ (k : Nat) (av : Option Addr) (cv : Nat), k ≤ ds.length ∧ v = .slice av (subL ds n (ds.take k)).length cv ∧ i = .int .i64 (k : Int) ∧ wr.ownsRow W0.heap.size 32 10 (.slice av (subL ds n (ds.take k)).length cv) (subL ds n (ds.take k)).length (flat (subL ds n (ds.take k))) ∧ Fr (From W0.heap.size) W0 wr) (fun _ i _ => ds.length - (intOf i).toNat)
  case atStart => exact ⟨0, none, 0, by omega, rfl, rfl, World.ownsRow_nil _ _ _ _, Fr.refl _ _⟩
  case round =>
    obtain ⟨k, av, cv, hk, rfl, rfl, hown, hfr⟩ := hrel
    have b4 := hfr.heap q4 (fun h => by unfold From at h; omega)
    have c4 : wr.cell? ⟨w.heap.size, 0, none⟩ = some (.slice a ds.length cap) := cell_of_block b4 0
    by_cases hlt : k < ds.length
    · have hlt' : (k : Int) < ds.length := by omega
      obtain ⟨x, hxk⟩ : ∃ x, ds[k]? = some x := ⟨ds[k], List.getElem?_eq_getElem hlt⟩
      have Hsn : Hid (subL ds n (ds.take (k + 1)) = subL ds n (ds.take k) ++ if belowB ds x.index n = true then [x] else []) := by unfold Hid; rw [List.take_add_one, hxk]; exact subL_snoc ds n _ x
      have hsl : (subL ds n (ds.take k)).length ≤ 1000 := by
        have h1 : (subL ds n (ds.take k)).length ≤ (ds.take k).length := List.length_filter_le _ _
        rw [List.length_take] at h1; omega
      have Hxk := Lib.hid hxk
      clear hxk
      generalize subL ds n (ds.take k) = L at *
      go_wp2_with fail
      refine region_sig No [(0, false), (1, false), (2, false), (3, false), (4, false), (5, false), (6, false), (7, false), (8, true)] (by kernel_rfl) (by kernel_rfl) (fun w0 hf0 => ?_)
      have hfr0 := hfr.step hf0 (fun _ _ h => h.elim)
      have hown0 := ownsRow_fr hown hf0 (fun _ _ => id)
      have hDk : ∀ X, Fr (From W0.heap.size) W0 X → Devs X a cap ds := fun X hX => hl0.fr hX (fun ad e hne hS => by have := (hl0.cell ad e hne).2.1; unfold From at hS; omega)
      have hl3 := hDk _ hfr0
      obtain ⟨bb, off, x', hax, hxk', y0, y1, y2, y3, y4, y5, y6, y7, y8, y9⟩ := hl3.dev hlt
      subst hax
      obtain rfl : x = x' := by have := Hxk.out; rw [this] at hxk'; exact Option.some.inj hxk'
      have g3 : ∀ g : Gr No w0, g.W.cell? ⟨w.heap.size, 0, none⟩ = some (.slice (some ⟨bb, off, none⟩) ds.length cap) := fun g => g.fr.cell (hf0.cell c4 id) id
      have g0 : ∀ g : Gr No w0, g.W.cell? ⟨bb, off + k * 10, none⟩ = some (.int .i64 x.index) := fun g => g.fr.cell y0 id
      have c40 := hf0.cell c4 id
      clear hxk' hf0 hfr hown y0 y1 y2 y3 y4 y5 y6 y7 y8 y9 c4 b4
      repeat (apply sig_q; exact rfl; exact rfl; exact rfl; intro K hK; go_big_quiet_op; go_big_quiet_on)
      clear g3 g0
      apply sig_m
      exact rfl
      go_wp2_with fail
      refine (ref_below _ cap ds x.index n _ hl3 (by omega)).mono ?_
      rintro e w3 ⟨rfl, hf3⟩
      have hfr3 := hfr0.step hf3 (fun _ _ h => h.elim)
      have hown3 := ownsRow_fr hown0 hf3 (fun _ _ => id)
      have c43 := hf3.cell c40 id
      obtain ⟨bb2, off2, x', hax, hxk', y0, y1, y2, y3, y4, y5, y6, y7, y8, y9⟩ := (hl3.no hf3 (fun _ => id)).dev hlt
      cases hax
      obtain rfl : x = x' := by have := Hxk.out; rw [this] at hxk'; exact Option.some.inj hxk'
      generalize belowB ds x.index n = b1 at *
      go_wp2_with fail
      refine OnlyN.mk ⟨hf3, ?_⟩
      refine sig_end ?_
      have Hhr := Lib.hid (And.intro hfr3 hown3)
      have hs3 := hfr3.size
      clear hf3 hl3 hxk' hfr0 hown0 hfr3 c40 hDk
      cases b1 with
      | false =>
        have Hn : Hid (subL ds n (ds.take (k + 1)) = L) := by unfold Hid; rw [Hsn.out, if_neg (by simp), List.append_nil]
        clear hown3 y0 y1 y2 y3 y4 y5 y6 y7 y8 y9 c43
        go_wp2_with fail
        go_roundw
        case rel => exact ⟨k + 1, av, cv, by omega, by rw [Hn.out], by go_num, by rw [Hn.out]; exact Hhr.out.2, Hhr.out.1⟩
        case measure => simp [intOf]; omega
      | true =>
        have Hn : Hid (subL ds n (ds.take (k + 1)) = L ++ [x]) := by unfold Hid; rw [Hsn.out, if_pos rfl]
        go_wp2_with (at_builtin; refine wpList_append_own _ rfl _ _ 23 rfl W0.heap.size 32 i0 (.agg #[.int .i64 0, .int .i64 0, .string ByteArray.empty, .string ByteArray.empty, .string ByteArray.empty, .string ByteArray.empty, .string ByteArray.empty, .int .i64 0, .int .i64 0, .slice none 0 0]) 10 136 Tryz.underlying23 hi hz0 hz1 hz2 rfl (by decide) _ _ _ rfl (hown3.alloc _) ⟨w3.heap.size, 0, none⟩ 1 1 x.vals.toList rfl rfl (cells_new _ x.vals _ rfl) (vals_one x) (by unfold maxLen; omega) (by omega) (by simp; omega) ?_; intro v' w6 hown6 hgrow6 _; obtain ⟨av', cv', rfl⟩ := ownsRow_slice hown6)
        have hg6 : Fr (From W0.heap.size) w3 w6 := grown_fr hown3 hgrow6
        have Hg6 := Lib.hid (Hhr.out.1.step hg6 (fun _ _ h => h))
        have Hown6 := Lib.hid hown6
        have hll : (subL ds n (ds.take (k + 1))).length = L.length + 1 := by rw [Hn.out]; simp
        have Hll := Lib.hid hll
        clear hg6 hown6 hgrow6 hown3 hll
        go_roundw
        case rel => exact ⟨k + 1, av', cv', by omega, by rw [Hll.out], by go_num, by rw [Hll.out, Hn.out, flat_snoc]; exact Hown6.out, Hg6.out⟩
        case measure => simp [intOf]; omega
    · obtain rfl : k = ds.length := by omega
      rw [List.take_length] at hown ⊢
      obtain ⟨a', c', hv', hI', -⟩ := Devs.of_own hown
      cases hv'
      have H := Lib.hid (And.intro hI' (h0.step hfr (fun b hb h => by unfold From at h; omega)))
      clear hown hfr hI'
      go_wp2_with fail
      go_ret
      exact ⟨⟨_, _, rfl, H.out.1⟩, H.out.2⟩
end Go.Proofs.YtpnpjaemlflplaaGreatDoor
