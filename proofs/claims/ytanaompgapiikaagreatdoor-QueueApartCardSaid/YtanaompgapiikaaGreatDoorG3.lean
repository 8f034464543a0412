/- tree.first, tree.Find; the closure of Gone. -/
import Derived.Test.YtanaompgapiikaaGreatDoorG2
import Derived.Test.YtanaompgapiikaaGreatDoorTB
namespace Go.Proofs.YtanaompgapiikaaGreatDoor
open Go.RowKit Go.Maps
set_option linter.unusedVariables false

/-- A device was found, or not. -/
def FoundD (w w' : World) (ds : List Dev) (n : Int) (e : Ending) : Prop :=
  (look ds n = none ∧ e = .returned (.tuple #[.agg Dev.zero.vals, .bool false])) ∨
  ∃ d a' c' l, look ds n = some d ∧ e = .returned (.tuple #[.agg ({ d with aa := a', ac := c' } : Dev).vals, .bool true]) ∧ Atts w' a' c' l ∧ d.an = l.length ∧ l.length ≤ 24 ∧ ∀ ad, a' = some ad → w.heap.size ≤ ad.block

set_option maxRecDepth 100000 in
set_option maxHeartbeats 1000000 in
theorem tree_first (a : Option Addr) (cap : Nat) (ds : List Dev) (b base : Nat) (n : Int) (w : World) (hl : Tr w base a cap ds) (hb : w.cell? ⟨b, 0, none⟩ = some (.int .i64 n)) :
    Calls Tryz.prog 124 #[.agg #[.slice a ds.length cap], .func (.func 125) #[] #[.pointer (some ⟨b, 0, none⟩)]] w fun e w' => FoundD w w' ds n e ∧ Fr No w w' := by
  have hx : Fr No w ((w.alloc (.cells #[.slice a ds.length cap] 25)).alloc (.cells #[.int .i64 0, .int .i64 0, .string ⟨#[]⟩, .string ⟨#[]⟩, .string ⟨#[]⟩, .string ⟨#[]⟩, .string ⟨#[]⟩, .int .i64 0, .int .i64 0, .slice none 0 0] 36)) := ((Fr.refl _ _).alloc _).alloc _
  have q0 := block_alloc1 w (.cells #[.slice a ds.length cap] 25) (.cells #[.int .i64 0, .int .i64 0, .string ⟨#[]⟩, .string ⟨#[]⟩, .string ⟨#[]⟩, .string ⟨#[]⟩, .string ⟨#[]⟩, .int .i64 0, .int .i64 0, .slice none 0 0] 36)
  have q1 := block_alloc2 w (.cells #[.slice a ds.length cap] 25) (.cells #[.int .i64 0, .int .i64 0, .string ⟨#[]⟩, .string ⟨#[]⟩, .string ⟨#[]⟩, .string ⟨#[]⟩, .string ⟨#[]⟩, .int .i64 0, .int .i64 0, .slice none 0 0] 36)
  have hW2 : w.heap.size + 2 ≤ ((w.alloc (.cells #[.slice a ds.length cap] 25)).alloc (.cells #[.int .i64 0, .int .i64 0, .string ⟨#[]⟩, .string ⟨#[]⟩, .string ⟨#[]⟩, .string ⟨#[]⟩, .string ⟨#[]⟩, .int .i64 0, .int .i64 0, .slice none 0 0] 36)).heap.size := by simp
  have hm := hl.dv.lenmax
  go_enter Tryz.func124, Tryz.ntmps124
  go_upto_region 1 with (fail)
  generalize (w.alloc (.cells #[.slice a ds.length cap] 25)).alloc (.cells #[.int .i64 0, .int .i64 0, .string ⟨#[]⟩, .string ⟨#[]⟩, .string ⟨#[]⟩, .string ⟨#[]⟩, .string ⟨#[]⟩, .int .i64 0, .int .i64 0, .slice none 0 0] 36) = W0 at *
  have t0 : W0.cell? ⟨w.heap.size, 0, none⟩ = some (.slice a ds.length cap) := cell_of_block q0 0
  go_wp2_with fail
  refine (find_index a cap ds b n _ (hl.dv.no hx (fun _ => id)) (hx.cell hb id)).mono ?_
  rintro e w1 ⟨rfl, hf1⟩
  have p0 := hf1.heap q0 id
  have p1 := hf1.heap q1 id
  have hx1 := hx.step hf1 (fun _ _ h => h)
  have hl1 := hl.no hx1
  have hs1 : w.heap.size + 1 < w1.heap.size := lt_of_block p1
  clear t0 q0 q1
  rcases place_look ds n with ⟨hlk, hpl⟩ | ⟨k, d, hlk, hpl, hdk⟩
  · rw [hpl]
    have Hlk := Lib.hid hlk
    clear hlk hpl
    have z0 : w1.cell? ⟨w.heap.size + 1, 0, none⟩ = some (.int .i64 0) := cell_of_block p1 0
    have z1 : w1.cell? ⟨w.heap.size + 1, 1, none⟩ = some (.int .i64 0) := cell_of_block p1 1
    have z2 : w1.cell? ⟨w.heap.size + 1, 2, none⟩ = some (.string ⟨#[]⟩) := cell_of_block p1 2
    have z3 : w1.cell? ⟨w.heap.size + 1, 3, none⟩ = some (.string ⟨#[]⟩) := cell_of_block p1 3
    have z4 : w1.cell? ⟨w.heap.size + 1, 4, none⟩ = some (.string ⟨#[]⟩) := cell_of_block p1 4
    have z5 : w1.cell? ⟨w.heap.size + 1, 5, none⟩ = some (.string ⟨#[]⟩) := cell_of_block p1 5
    have z6 : w1.cell? ⟨w.heap.size + 1, 6, none⟩ = some (.string ⟨#[]⟩) := cell_of_block p1 6
    have z7 : w1.cell? ⟨w.heap.size + 1, 7, none⟩ = some (.int .i64 0) := cell_of_block p1 7
    have z8 : w1.cell? ⟨w.heap.size + 1, 8, none⟩ = some (.int .i64 0) := cell_of_block p1 8
    have z9 : w1.cell? ⟨w.heap.size + 1, 9, none⟩ = some (.slice none 0 0) := cell_of_block p1 9
    have y0 : w1.frozen? ⟨w.heap.size + 1, 0, none⟩ = false := free_of_block p1 0
    have y1 : w1.frozen? ⟨w.heap.size + 1, 1, none⟩ = false := free_of_block p1 1
    have y2 : w1.frozen? ⟨w.heap.size + 1, 2, none⟩ = false := free_of_block p1 2
    have y3 : w1.frozen? ⟨w.heap.size + 1, 3, none⟩ = false := free_of_block p1 3
    have y4 : w1.frozen? ⟨w.heap.size + 1, 4, none⟩ = false := free_of_block p1 4
    have y5 : w1.frozen? ⟨w.heap.size + 1, 5, none⟩ = false := free_of_block p1 5
    have y6 : w1.frozen? ⟨w.heap.size + 1, 6, none⟩ = false := free_of_block p1 6
    have y7 : w1.frozen? ⟨w.heap.size + 1, 7, none⟩ = false := free_of_block p1 7
    have y8 : w1.frozen? ⟨w.heap.size + 1, 8, none⟩ = false := free_of_block p1 8
    have y9 : w1.frozen? ⟨w.heap.size + 1, 9, none⟩ = false := free_of_block p1 9
    have h10 := set10 p1 rfl ⟨0, 0, ⟨#[]⟩, ⟨#[]⟩, ⟨#[]⟩, ⟨#[]⟩, ⟨#[]⟩, 0, 0, none, 0, 0⟩
    have hfin := Lib.hid (hx1.step h10.2 (fun b hb e => by unfold Is at e; omega))
    clear h10 p1 hx1 p0
    go_wp2_with fail
    refine bodyPost_ret (v := .tuple #[.agg Dev.zero.vals, .bool false]) (by simp [results, Tryz.results124, go_sem, Dev.vals, Dev.zero, z0, z1, z2, z3, z4, z5, z6, z7, z8, z9]; rfl) rfl ?_
    exact ⟨.inl ⟨Hlk.out, rfl⟩, hfin.out⟩
  · rw [hpl]
    have Hlk := Lib.hid hlk
    have hk : k < ds.length := (List.getElem?_eq_some_iff.1 hdk).1
    obtain ⟨l, hA, han, hlb⟩ := (hl1.el d (List.mem_of_getElem? hdk)).att
    obtain ⟨bb, off, d', rfl, hd, c0, c1, c2, c3, c4, c5, c6, c7, c8, c9⟩ := hl1.dv.dev hk
    obtain rfl : d = d' := by rw [hdk] at hd; exact Option.some.inj hd
    have Hcopy := Lib.hid (dev_copied d l w1 hA han (by omega))
    have t0 : w1.cell? ⟨w.heap.size, 0, none⟩ = some (.slice (some ⟨bb, off, none⟩) ds.length cap) := cell_of_block p0 0
    have Han := Lib.hid han
    clear hlk hpl hdk hd han
    go_wp2_with fail
    refine Hcopy.out.mono ?_
    rintro e w2 ⟨⟨a', c', rfl, hA', hfresh⟩, hf2⟩
    have p2 := hf2.heap p1 id
    have hx2 := hx1.step hf2 (fun _ _ h => h)
    clear p0 p1 c0 c1 c2 c3 c4 c5 c6 c7 c8 c9 t0
    have hs2 : w.heap.size + 1 < w2.heap.size := lt_of_block p2
    have z0 : w2.cell? ⟨w.heap.size + 1, 0, none⟩ = some (.int .i64 0) := cell_of_block p2 0
    have z1 : w2.cell? ⟨w.heap.size + 1, 1, none⟩ = some (.int .i64 0) := cell_of_block p2 1
    have z2 : w2.cell? ⟨w.heap.size + 1, 2, none⟩ = some (.string ⟨#[]⟩) := cell_of_block p2 2
    have z3 : w2.cell? ⟨w.heap.size + 1, 3, none⟩ = some (.string ⟨#[]⟩) := cell_of_block p2 3
    have z4 : w2.cell? ⟨w.heap.size + 1, 4, none⟩ = some (.string ⟨#[]⟩) := cell_of_block p2 4
    have z5 : w2.cell? ⟨w.heap.size + 1, 5, none⟩ = some (.string ⟨#[]⟩) := cell_of_block p2 5
    have z6 : w2.cell? ⟨w.heap.size + 1, 6, none⟩ = some (.string ⟨#[]⟩) := cell_of_block p2 6
    have z7 : w2.cell? ⟨w.heap.size + 1, 7, none⟩ = some (.int .i64 0) := cell_of_block p2 7
    have z8 : w2.cell? ⟨w.heap.size + 1, 8, none⟩ = some (.int .i64 0) := cell_of_block p2 8
    have z9 : w2.cell? ⟨w.heap.size + 1, 9, none⟩ = some (.slice none 0 0) := cell_of_block p2 9
    have y0 : w2.frozen? ⟨w.heap.size + 1, 0, none⟩ = false := free_of_block p2 0
    have y1 : w2.frozen? ⟨w.heap.size + 1, 1, none⟩ = false := free_of_block p2 1
    have y2 : w2.frozen? ⟨w.heap.size + 1, 2, none⟩ = false := free_of_block p2 2
    have y3 : w2.frozen? ⟨w.heap.size + 1, 3, none⟩ = false := free_of_block p2 3
    have y4 : w2.frozen? ⟨w.heap.size + 1, 4, none⟩ = false := free_of_block p2 4
    have y5 : w2.frozen? ⟨w.heap.size + 1, 5, none⟩ = false := free_of_block p2 5
    have y6 : w2.frozen? ⟨w.heap.size + 1, 6, none⟩ = false := free_of_block p2 6
    have y7 : w2.frozen? ⟨w.heap.size + 1, 7, none⟩ = false := free_of_block p2 7
    have y8 : w2.frozen? ⟨w.heap.size + 1, 8, none⟩ = false := free_of_block p2 8
    have y9 : w2.frozen? ⟨w.heap.size + 1, 9, none⟩ = false := free_of_block p2 9
    have h10 := set10 p2 rfl { d with aa := a', ac := c' }
    have hfin : Hid _ := And.intro (hA'.fr h10.2 (fun ad e _ h => by have := hfresh ad e; unfold Is at h; omega)) (hx2.step h10.2 (fun b hb e => by unfold Is at e; omega))
    clear h10 hA' p2 hx2
    unfold Dev.vals
    go_wp2_with fail
    refine bodyPost_ret (v := .tuple #[.agg ({ d with aa := a', ac := c' } : Dev).vals, .bool true]) (by simp [results, Tryz.results124, go_sem, Dev.vals, z0, z1, z2, z3, z4, z5, z6, z7, z8, z9]) rfl ?_
    exact ⟨.inr ⟨d, a', c', l, Hlk.out, rfl, hfin.out.1, Han.out, hlb, fun ad e => by have := hfresh ad e; omega⟩, hfin.out.2⟩

set_option maxRecDepth 100000 in
set_option maxHeartbeats 1000000 in
theorem tree_find (a : Option Addr) (cap : Nat) (ds : List Dev) (base : Nat) (n : Int) (w : World) (hl : Tr w base a cap ds) :
    Calls Tryz.prog 82 #[.agg #[.slice a ds.length cap], .int .i64 n] w fun e w' => FoundD w w' ds n e ∧ Fr No w w' := by
  have hx : Fr No w (((w.alloc (.cells #[.slice a ds.length cap] 25)).alloc (.cells #[.int .i64 n] 3)).alloc (.cells #[.int .i64 0, .int .i64 0, .string ⟨#[]⟩, .string ⟨#[]⟩, .string ⟨#[]⟩, .string ⟨#[]⟩, .string ⟨#[]⟩, .int .i64 0, .int .i64 0, .slice none 0 0] 36)) := (((Fr.refl _ _).alloc _).alloc _).alloc _
  have fx : Fr No ((w.alloc (.cells #[.slice a ds.length cap] 25)).alloc (.cells #[.int .i64 n] 3)) (((w.alloc (.cells #[.slice a ds.length cap] 25)).alloc (.cells #[.int .i64 n] 3)).alloc (.cells #[.int .i64 0, .int .i64 0, .string ⟨#[]⟩, .string ⟨#[]⟩, .string ⟨#[]⟩, .string ⟨#[]⟩, .string ⟨#[]⟩, .int .i64 0, .int .i64 0, .slice none 0 0] 36)) := (Fr.refl _ _).alloc _
  have q0 := fx.heap (block_alloc1 w (.cells #[.slice a ds.length cap] 25) (.cells #[.int .i64 n] 3)) id
  have q1 := fx.heap (block_alloc2 w (.cells #[.slice a ds.length cap] 25) (.cells #[.int .i64 n] 3)) id
  have q2 := block_alloc ((w.alloc (.cells #[.slice a ds.length cap] 25)).alloc (.cells #[.int .i64 n] 3)) (.cells #[.int .i64 0, .int .i64 0, .string ⟨#[]⟩, .string ⟨#[]⟩, .string ⟨#[]⟩, .string ⟨#[]⟩, .string ⟨#[]⟩, .int .i64 0, .int .i64 0, .slice none 0 0] 36)
  rw [World.size_alloc, World.size_alloc] at q2
  clear fx
  go_enter Tryz.func82, Tryz.ntmps82
  go_upto_region 1 with (fail)
  generalize ((w.alloc (.cells #[.slice a ds.length cap] 25)).alloc (.cells #[.int .i64 n] 3)).alloc (.cells #[.int .i64 0, .int .i64 0, .string ⟨#[]⟩, .string ⟨#[]⟩, .string ⟨#[]⟩, .string ⟨#[]⟩, .string ⟨#[]⟩, .int .i64 0, .int .i64 0, .slice none 0 0] 36) = W0 at *
  have t0 : W0.cell? ⟨w.heap.size, 0, none⟩ = some (.slice a ds.length cap) := cell_of_block q0 0
  have t1 : W0.cell? ⟨w.heap.size + 1, 0, none⟩ = some (.int .i64 n) := cell_of_block q1 0
  have hW0 := hx.size
  have hW1 := lt_of_block q2
  go_wp2_with fail
  refine (tree_first a cap ds (w.heap.size + 1) base n _ (hl.no hx) t1).mono ?_
  rintro e w2 ⟨hF, hf2⟩
  have p2 := hf2.heap q2 id
  have hx2 := hx.step hf2 (fun _ _ h => h)
  have hs2 : w.heap.size + 2 < w2.heap.size := lt_of_block p2
  clear t0 t1 q0 q1 q2
  have z0 : w2.cell? ⟨w.heap.size + 1 + 1, 0, none⟩ = some (.int .i64 0) := cell_of_block p2 0
  have z1 : w2.cell? ⟨w.heap.size + 1 + 1, 1, none⟩ = some (.int .i64 0) := cell_of_block p2 1
  have z2 : w2.cell? ⟨w.heap.size + 1 + 1, 2, none⟩ = some (.string ⟨#[]⟩) := cell_of_block p2 2
  have z3 : w2.cell? ⟨w.heap.size + 1 + 1, 3, none⟩ = some (.string ⟨#[]⟩) := cell_of_block p2 3
  have z4 : w2.cell? ⟨w.heap.size + 1 + 1, 4, none⟩ = some (.string ⟨#[]⟩) := cell_of_block p2 4
  have z5 : w2.cell? ⟨w.heap.size + 1 + 1, 5, none⟩ = some (.string ⟨#[]⟩) := cell_of_block p2 5
  have z6 : w2.cell? ⟨w.heap.size + 1 + 1, 6, none⟩ = some (.string ⟨#[]⟩) := cell_of_block p2 6
  have z7 : w2.cell? ⟨w.heap.size + 1 + 1, 7, none⟩ = some (.int .i64 0) := cell_of_block p2 7
  have z8 : w2.cell? ⟨w.heap.size + 1 + 1, 8, none⟩ = some (.int .i64 0) := cell_of_block p2 8
  have z9 : w2.cell? ⟨w.heap.size + 1 + 1, 9, none⟩ = some (.slice none 0 0) := cell_of_block p2 9
  have y0 : w2.frozen? ⟨w.heap.size + 1 + 1, 0, none⟩ = false := free_of_block p2 0
  have y1 : w2.frozen? ⟨w.heap.size + 1 + 1, 1, none⟩ = false := free_of_block p2 1
  have y2 : w2.frozen? ⟨w.heap.size + 1 + 1, 2, none⟩ = false := free_of_block p2 2
  have y3 : w2.frozen? ⟨w.heap.size + 1 + 1, 3, none⟩ = false := free_of_block p2 3
  have y4 : w2.frozen? ⟨w.heap.size + 1 + 1, 4, none⟩ = false := free_of_block p2 4
  have y5 : w2.frozen? ⟨w.heap.size + 1 + 1, 5, none⟩ = false := free_of_block p2 5
  have y6 : w2.frozen? ⟨w.heap.size + 1 + 1, 6, none⟩ = false := free_of_block p2 6
  have y7 : w2.frozen? ⟨w.heap.size + 1 + 1, 7, none⟩ = false := free_of_block p2 7
  have y8 : w2.frozen? ⟨w.heap.size + 1 + 1, 8, none⟩ = false := free_of_block p2 8
  have y9 : w2.frozen? ⟨w.heap.size + 1 + 1, 9, none⟩ = false := free_of_block p2 9
  rcases hF with ⟨hlk, rfl⟩ | ⟨d, a', c', l, hlk, rfl, hA, han, hlb, hfr⟩
  · have h10 := set10 p2 rfl Dev.zero
    have hfin := Lib.hid (And.intro hlk (hx2.step h10.2 (fun b hb e => by unfold Is at e; omega)))
    clear h10 p2 hx2 hlk
    unfold Dev.vals Dev.zero
    go_wp2_with fail
    refine bodyPost_ret (v := .tuple #[.agg Dev.zero.vals, .bool false]) (by simp [results, Tryz.results82, go_sem, Dev.vals, Dev.zero, z0, z1, z2, z3, z4, z5, z6, z7, z8, z9]) rfl ?_
    exact ⟨.inl ⟨hfin.out.1, rfl⟩, hfin.out.2⟩
  · have h10 := set10 p2 rfl { d with aa := a', ac := c' }
    have hfin := Lib.hid (And.intro hlk (And.intro han (And.intro (hA.fr h10.2 (fun ad e _ h => by have := hfr ad e; unfold Is at h; omega)) (hx2.step h10.2 (fun b hb e => by unfold Is at e; omega)))))
    clear h10 p2 hx2 hlk han hA
    unfold Dev.vals
    go_wp2_with fail
    refine bodyPost_ret (v := .tuple #[.agg ({ d with aa := a', ac := c' } : Dev).vals, .bool true]) (by simp [results, Tryz.results82, go_sem, Dev.vals, z0, z1, z2, z3, z4, z5, z6, z7, z8, z9]) rfl ?_
    exact ⟨.inr ⟨d, a', c', l, hfin.out.1, rfl, hfin.out.2.2.1, hfin.out.2.1, hlb, fun ad e => by have := hfr ad e; omega⟩, hfin.out.2.2.2⟩
end Go.Proofs.YtanaompgapiikaaGreatDoor
