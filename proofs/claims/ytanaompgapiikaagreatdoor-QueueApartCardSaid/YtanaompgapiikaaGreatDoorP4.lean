/- relate.Order. -/
import Derived.Test.YtanaompgapiikaaGreatDoorP3
namespace Go.Proofs.YtanaompgapiikaaGreatDoor
open Go.RowKit Go.Maps
set_option linter.unusedVariables false

/-- The Indexes of the tree that are in a list, in the tree's order. -/
def orderL (l : List Int) (q : List Dev) : List Int := (q.map Dev.index).filter fun x => decide (x ∈ l)
theorem orderL_snoc (l : List Int) (q : List Dev) (x : Dev) : orderL l (q ++ [x]) = orderL l q ++ if x.index ∈ l then [x.index] else [] := by
  unfold orderL
  rw [List.map_append, List.filter_append]
  congr 1
  by_cases h : x.index ∈ l <;> simp [h]
theorem orderL_len (l : List Int) (q : List Dev) : (orderL l q).length ≤ q.length := by
  have := List.length_filter_le (fun x => decide (x ∈ l)) (q.map Dev.index)
  simpa [orderL] using this
theorem infoI2 : (Tryz.prog.info? 3).map (fun i => (i.zero, i.size, i.bytes)) = some (some (.int .i64 0), 1, 8) := by kernel_rfl
theorem ints_one2 (l : List Int) : ∀ u ∈ l.map (Value.int .i64), u.oneCell' = true := by
  intro u hu
  obtain ⟨x, _, rfl⟩ := List.mem_map.1 hu
  rfl

set_option maxRecDepth 100000 in
set_option maxHeartbeats 2000000 in
theorem r_order (a la : Option Addr) (cap lc : Nat) (ds : List Dev) (l : List Int) (w : World) (hl : Devs w a cap ds) (hT : TreeOk ds) (hi : Ints w la lc l) (hn : ds.length ≤ 1000) (hb : l.length ≤ 1000000) :
    Calls Tryz.prog 113 #[.agg #[.slice a ds.length cap], .slice la l.length lc] w fun e w' => (∃ a' c', e = .returned (.slice a' (orderL l ds).length c') ∧ Ints w' a' c' (orderL l ds) ∧ ∀ ad, a' = some ad → w.heap.size ≤ ad.block) ∧ Fr No w w' := by
  obtain ⟨i0, hi0, hz0, hz1, hz2⟩ := info_parts infoI2
  have hm := hl.lenmax
  have h0 : Fr No w (w.alloc (.cells #[.slice a ds.length cap] 25)) := (Fr.refl _ _).alloc _
  have q4 := block_alloc w (.cells #[.slice a ds.length cap] 25)
  have hs0 : w.heap.size < (w.alloc (.cells #[.slice a ds.length cap] 25)).heap.size := by simp
  have hl0 := hl.no h0 (fun _ => id)
  go_enter Tryz.func113, Tryz.ntmps113
  go_wp2_with fail
  refine (rset_of la lc l _ (hi.no h0 (fun _ => id)) hb).mono ?_
  rintro e w1 ⟨⟨mb, rfl, hI, hmb⟩, hf1⟩
  have hl1 := hl0.no hf1 (fun _ => id)
  have q41 := hf1.heap q4 id
  have hs1 := hf1.size
  have hmlt := hI.lt
  have Hfx := Lib.hid (h0.step hf1 (fun _ _ h => h))
  have c41 : w1.cell? ⟨w.heap.size, 0, none⟩ = some (.slice a ds.length cap) := cell_of_block q41 0
  clear hl0 q4 hf1 hl hi
  go_wp2_with fail
  go_loopw [6, 14] (fun v i wr => ∃ (k : Nat) (av : Option Addr) (cv : Nat), k ≤ ds.length ∧ v = .slice av (orderL l (ds.take k)).length cv ∧ i = .int .i64 (k : Int) ∧ wr.ownsRow w1.heap.size 3 1 (.slice av (orderL l (ds.take k)).length cv) (orderL l (ds.take k)).length ((orderL l (ds.take k)).map (Value.int .i64)) ∧ Fr (From w1.heap.size) w1 wr) (fun _ i _ => ds.length - (intOf i).toNat)
  case atStart => exact ⟨0, none, 0, by omega, rfl, rfl, World.ownsRow_nil _ _ _ _, Fr.refl _ _⟩
  case round =>
    obtain ⟨k, av, cv, hk, rfl, rfl, hown, hfr⟩ := hrel
    have hnl : ∀ b, b < w1.heap.size → ¬ From w1.heap.size b := fun b h1 h2 => by unfold From at h2; omega
    by_cases hlt : k < ds.length
    · have hlt' : (k : Int) < ds.length := by omega
      have hlr : Devs wr a cap ds := hl1.fr hfr (fun ad e hne hS => by have := (hl1.cell ad e hne).2.1; unfold From at hS; omega)
      obtain ⟨bb, off, x, hax, hxk, y0, y1, y2, y3, y4, y5, y6, y7, y8, y9⟩ := hlr.dev hlt
      subst hax
      have hxw := hT.iwf (List.mem_of_getElem? hxk)
      have Hsn : Hid (orderL l (ds.take (k + 1)) = orderL l (ds.take k) ++ if x.index ∈ l then [x.index] else []) := by unfold Hid; rw [List.take_add_one, hxk]; exact orderL_snoc l _ x
      have hsl : (orderL l (ds.take k)).length ≤ 1000 := by have := orderL_len l (ds.take k); rw [List.length_take] at this; omega
      have hxx : Fr No wr (wr.alloc (.cells x.vals 36)) := (Fr.refl _ _).alloc _
      have bx := block_alloc wr (.cells x.vals 36)
      have hIr := (hI.fr hfr (hnl _ hmlt)).fr hxx id
      have Hx := Lib.hid (And.intro hxx bx)
      generalize orderL l (ds.take k) = L at *
      clear hxk hxx bx
      go_wp2_with fail
      refine (rset_has mb (fun x => decide (x ∈ l)) l.length x.index _ hIr hxw).mono ?_
      rintro e w3 ⟨rfl, hf3⟩
      have bx3 := hf3.heap Hx.out.2 id
      have x0 : w3.cell? ⟨wr.heap.size, 0, none⟩ = some (.int .i64 x.index) := cell_of_block bx3 0
      have Hf3 := Lib.hid (Hx.out.1.step hf3 (fun _ _ h => h))
      have hown3 := ownsRow_fr hown Hf3.out (fun _ _ => id)
      have Hfr3 := Lib.hid (hfr.step Hf3.out (fun _ _ h => h.elim))
      have hs3 := Hfr3.out.size
      clear y0 y1 y2 y3 y4 y5 y6 y7 y8 y9 hf3 bx3 hIr hown hfr hlr
      by_cases hin : x.index ∈ l
      · have hd : decide (x.index ∈ l) = true := decide_eq_true hin
        have Hn : Hid (orderL l (ds.take (k + 1)) = L ++ [x.index]) := by unfold Hid; rw [Hsn.out, if_pos hin]
        rw [hd]
        clear hin hd
        go_wp2_with (at_builtin; refine wpList_append_own _ rfl _ _ 22 rfl w1.heap.size 3 i0 (.int .i64 0) 1 8 Tryz.underlying22 hi0 hz0 hz1 hz2 rfl (by decide) _ _ _ rfl (hown3.alloc _) ⟨w3.heap.size, 0, none⟩ 1 1 [.int .i64 x.index] rfl rfl (cell_one_new _ _ _) (ints_one2 [x.index]) (by unfold maxLen; omega) (by omega) (by simp; omega) ?_; intro v' w6 hown6 hgrow6 _; obtain ⟨av', cv', rfl⟩ := ownsRow_slice hown6)
        have hg6 : Fr (From w1.heap.size) w3 w6 := grown_fr hown3 hgrow6
        have Hg6 := Lib.hid (Hfr3.out.step hg6 (fun _ _ h => h))
        have Hown6 := Lib.hid hown6
        have hll : (orderL l (ds.take (k + 1))).length = L.length + 1 := by rw [Hn.out]; simp
        have Hll := Lib.hid hll
        clear hg6 hown6 hgrow6 hown3 hll
        go_roundw
        case rel => exact ⟨k + 1, av', cv', by omega, by rw [Hll.out], by go_num, by rw [Hll.out, Hn.out, List.map_append]; exact Hown6.out, Hg6.out⟩
        case measure => simp [intOf]; omega
      · have hd : decide (x.index ∈ l) = false := decide_eq_false hin
        have Hn : Hid (orderL l (ds.take (k + 1)) = L) := by unfold Hid; rw [Hsn.out, if_neg hin, List.append_nil]
        have Hown3 := Lib.hid hown3
        rw [hd]
        clear hin hd hown3
        go_wp2_with fail
        go_roundw
        case rel => exact ⟨k + 1, av, cv, by omega, by rw [Hn.out], by go_num, by rw [Hn.out]; exact Hown3.out, Hfr3.out⟩
        case measure => simp [intOf]; omega
    · obtain rfl : k = ds.length := by omega
      rw [List.take_length] at hown ⊢
      obtain ⟨a', c', hv', hI', hfresh⟩ := Ints.of_own hown (fun y hy => by
        obtain ⟨z, hz, e⟩ := List.mem_map.1 (List.mem_filter.1 hy).1
        rw [← e]; exact hT.iwf hz)
      cases hv'
      have H := Lib.hid (And.intro hI' (And.intro (show ∀ ad, av = some ad → w.heap.size ≤ ad.block from fun ad e => by have := hfresh ad e; omega) (Hfx.out.step hfr (fun b hb h => by have := Hfx.out.size; unfold From at h; omega))))
      clear hown hfr hI' hfresh
      go_wp2_with fail
      go_ret
      exact ⟨⟨_, _, rfl, H.out.1, H.out.2.1⟩, H.out.2.2⟩
end Go.Proofs.YtanaompgapiikaaGreatDoor
