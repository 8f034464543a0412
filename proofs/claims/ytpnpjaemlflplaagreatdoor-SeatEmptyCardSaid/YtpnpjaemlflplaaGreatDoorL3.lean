/- tree.Origin, the view's find. -/
import Derived.Test.YtpnpjaemlflplaaGreatDoorL2
namespace Go.Proofs.YtpnpjaemlflplaaGreatDoor
open Go.RowKit Go.Maps
set_option linter.unusedVariables false

set_option maxRecDepth 100000 in
set_option maxHeartbeats 1000000 in
theorem tree_origin (a : Option Addr) (cap : Nat) (ds : List Dev) (n : Int) (w : World) (hl : Devs w a cap ds) (hT : TreeOk ds) (hn : ds.length ≤ 1000) (hx : (Lit.int .i64 n).wf = true) :
    Calls Tryz.prog 72 #[.agg #[.slice a ds.length cap], .int .i64 n] w fun e w' => e = .returned (.tuple #[.string (((look ds n).map fun _ => pathOf (origin ds n)).getD ⟨#[]⟩), .bool (look ds n).isSome]) ∧ Fr No w w' := by
  have h0 : Fr No w (w.alloc (.cells #[.slice a ds.length cap] 25)) := (Fr.refl _ _).alloc _
  have ho : ogs ds n = (look ds n).map fun _ => pathOf (origin ds n) := by
    have := ogs_eq hT ds.length (Nat.le_refl _) n
    rw [List.take_of_length_le (Nat.le_refl _)] at this
    exact this
  have hfd : ∀ (m1 m2 : Nat) (W : World), (Instr.field 123 (.agg #[.slice a ds.length cap, .map (some m1), .map (some m2)]) 2).run Tryz.prog W = .ok (.map (some m2)) W := fun _ _ _ => by kernel_rfl
  have Ho := Lib.hid ho
  have H0 := Lib.hid h0
  clear ho h0
  go_enter Tryz.func72, Tryz.ntmps72
  go_wp2_with fail
  refine (tree_look a cap ds _ (hl.no H0.out (fun _ => id)) hT hn).mono ?_
  rintro e w1 ⟨⟨m1, m2, rfl, _, _, _, _, hS⟩, hf1⟩
  go_wp2_with (at_lookup; refine wp_smap_ok rfl _ _ 98 rfl rfl m2 _ _ n hx rfl hS rfl ?_)
  refine bodyPost_ret (v := .tuple #[.string ((ogs ds n).getD ⟨#[]⟩), .bool (ogs ds n).isSome]) (by simp [results, Tryz.results72, go_sem]) rfl ?_
  refine ⟨?_, H0.out.step hf1 (fun _ _ h => h)⟩
  rw [Ho.out]
  cases look ds n <;> rfl

/-- Block a view's parts stand for the tree ds. -/
def VAt (w : World) (m1 m2 : Nat) (ds : List Dev) : Prop := IMap w m1 (plcs ds ds.length) ds.length ∧ SMap w m2 (ogs ds) ds.length
theorem VAt.fr {S : Nat → Prop} {w w' : World} {m1 m2 : Nat} {ds : List Dev} (h : VAt w m1 m2 ds) (hf : Fr S w w') (h1 : ¬ S m1) (h2 : ¬ S m2) : VAt w' m1 m2 ds := ⟨h.1.fr hf h1, h.2.fr hf h2⟩
theorem plcs_all (ds : List Dev) (n : Int) : plcs ds ds.length n = (look ds n).map fun _ => place ds n := by unfold plcs; rw [List.take_of_length_le (Nat.le_refl _)]

def FindIs (ds : List Dev) (n : Int) (e : Ending) : Prop := (look ds n = none ∧ e = .returned (.tuple #[.agg Dev.zero.vals, .bool false])) ∨ ∃ d, look ds n = some d ∧ e = .returned (.tuple #[.agg d.vals, .bool true])

set_option maxRecDepth 100000 in
set_option maxHeartbeats 2000000 in
theorem view_find (a : Option Addr) (cap : Nat) (ds : List Dev) (m1 m2 : Nat) (n : Int) (w : World) (hl : Devs w a cap ds) (hV : VAt w m1 m2 ds) (hx : (Lit.int .i64 n).wf = true) :
    Calls Tryz.prog 132 #[.agg #[.slice a ds.length cap, .map (some m1), .map (some m2)], .int .i64 n] w fun e w' =>
      FindIs ds n e ∧ Fr No w w' := by
  have hm := hl.lenmax
  have h0 : Fr No w ((w.alloc (.cells #[.slice a ds.length cap, .map (some m1), .map (some m2)] 123)).alloc (.cells #[.int .i64 0, .int .i64 0, .string ⟨#[]⟩, .string ⟨#[]⟩, .string ⟨#[]⟩, .string ⟨#[]⟩, .string ⟨#[]⟩, .int .i64 0, .int .i64 0, .slice none 0 0] 32)) := ((Fr.refl _ _).alloc _).alloc _
  have q0 := block_alloc1 w (.cells #[.slice a ds.length cap, .map (some m1), .map (some m2)] 123) (.cells #[.int .i64 0, .int .i64 0, .string ⟨#[]⟩, .string ⟨#[]⟩, .string ⟨#[]⟩, .string ⟨#[]⟩, .string ⟨#[]⟩, .int .i64 0, .int .i64 0, .slice none 0 0] 32)
  have p2 := block_alloc2 w (.cells #[.slice a ds.length cap, .map (some m1), .map (some m2)] 123) (.cells #[.int .i64 0, .int .i64 0, .string ⟨#[]⟩, .string ⟨#[]⟩, .string ⟨#[]⟩, .string ⟨#[]⟩, .string ⟨#[]⟩, .int .i64 0, .int .i64 0, .slice none 0 0] 32)
  go_enter Tryz.func132, Tryz.ntmps132
  go_upto_region 1 with (fail)
  generalize (w.alloc (.cells #[.slice a ds.length cap, .map (some m1), .map (some m2)] 123)).alloc (.cells #[.int .i64 0, .int .i64 0, .string ⟨#[]⟩, .string ⟨#[]⟩, .string ⟨#[]⟩, .string ⟨#[]⟩, .string ⟨#[]⟩, .int .i64 0, .int .i64 0, .slice none 0 0] 32) = w2 at *
  have t0 : w2.cell? ⟨w.heap.size, 0, none⟩ = some (.slice a ds.length cap) := cell_of_block q0 0
  have t1 : w2.cell? ⟨w.heap.size, 1, none⟩ = some (.map (some m1)) := cell_of_block q0 1
  have z0 : w2.cell? ⟨w.heap.size + 1, 0, none⟩ = some (.int .i64 0) := cell_of_block p2 0
  have z1 : w2.cell? ⟨w.heap.size + 1, 1, none⟩ = some (.int .i64 0) := cell_of_block p2 1
  have z2 : w2.cell? ⟨w.heap.size + 1, 2, none⟩ = some (.string ⟨#[]⟩) := cell_of_block p2 2
  have z3 : w2.cell? ⟨w.heap.size + 1, 3, none⟩ = some (.string ⟨#[]⟩) := cell_of_block p2 3
  have z4 : w2.cell? ⟨w.heap.size + 1, 4, none⟩ = some (.string ⟨#[]⟩) := cell_of_block p2 4
  have z5 : w2.cell? ⟨w.heap.size + 1, 5, none⟩ = some (.string ⟨#[]⟩) := cell_of_block p2 5
  have z6 : w2.cell? ⟨w.heap.size + 1, 6, none⟩ = some (.string ⟨#[]⟩) := cell_of_block p2 6
  have z7 : w2.cell? ⟨w.heap.size + 1, 7, none⟩ = some (.int .i64 0) := cell_of_block p2 7
  have z8 : w2.cell? ⟨w.heap.size + 1, 8, none⟩ = some (.int .i64 0) := cell_of_block p2 8
  have z9 : w2.cell? ⟨w.heap.size + 1, 9, none⟩ = some (.slice none 0 0) := cell_of_block p2 9
  have y0 : w2.frozen? ⟨w.heap.size + 1, 0, none⟩ = false := free_of_block p2 0
  have y1 : w2.frozen? ⟨w.heap.size + 1, 1, none⟩ = false := free_of_block p2 1
  have y2 : w2.frozen? ⟨w.heap.size + 1, 2, none⟩ = false := free_of_block p2 2
  have y3 : w2.frozen? ⟨w.heap.size + 1, 3, none⟩ = false := free_of_block p2 3
  have y4 : w2.frozen? ⟨w.heap.size + 1, 4, none⟩ = false := free_of_block p2 4
  have y5 : w2.frozen? ⟨w.heap.size + 1, 5, none⟩ = false := free_of_block p2 5
  have y6 : w2.frozen? ⟨w.heap.size + 1, 6, none⟩ = false := free_of_block p2 6
  have y7 : w2.frozen? ⟨w.heap.size + 1, 7, none⟩ = false := free_of_block p2 7
  have y8 : w2.frozen? ⟨w.heap.size + 1, 8, none⟩ = false := free_of_block p2 8
  have y9 : w2.frozen? ⟨w.heap.size + 1, 9, none⟩ = false := free_of_block p2 9
  have hI := hV.1.fr h0 id
  have hl2 := hl.no h0 (fun _ => id)
  have hg := plcs_all ds n
  rcases place_look ds n with ⟨h1, h2⟩ | ⟨k, d, h1, h2, h3⟩
  · have g0 : plcs ds ds.length n = none := by rw [hg, h1]; rfl
    have h10 := set10 p2 rfl Dev.zero
    have hfin := Lib.hid (And.intro h1 (h0.step h10.2 (fun b hb e => by unfold Is at e; omega)))
    have h1' : look ds n = none := h1
    clear h10 p2 q0 hg h2 h0 h1 hV hl hl2
    have H1 := Lib.hid h1'
    clear h1'
    go_wp2_with (at_lookup; refine wp_imap_ok rfl _ _ 121 rfl rfl m1 _ _ n hx rfl hI rfl ?_; rw [g0]; simp only [Option.getD_none, Option.isSome_none])
    refine bodyPost_ret (v := .tuple #[.agg Dev.zero.vals, .bool false]) (by simp [results, Tryz.results132, go_sem, Dev.vals, Dev.zero, z0, z1, z2, z3, z4, z5, z6, z7, z8, z9]; try rfl) rfl ?_
    exact ⟨.inl ⟨H1.out, rfl⟩, hfin.out.2⟩
  · have g0 : plcs ds ds.length n = some (k : Int) := by rw [hg, h1, h2]; rfl
    have hlt : k < ds.length := (List.getElem?_eq_some_iff.1 h3).1
    have hlt' : (k : Int) < ds.length := by omega
    obtain ⟨bb, off, d', rfl, hd, c0, c1, c2, c3, c4, c5, c6, c7, c8, c9⟩ := hl2.dev hlt
    rw [h3] at hd; cases hd
    have h10 := set10 p2 rfl d
    have hfin := Lib.hid (And.intro h1 (h0.step h10.2 (fun b hb e => by unfold Is at e; omega)))
    have H1 := Lib.hid h1
    clear h10 p2 q0 hg h2 h3 h0 h1 hV hl hl2
    go_wp2_with (at_lookup; refine wp_imap_ok rfl _ _ 121 rfl rfl m1 _ _ n hx rfl hI rfl ?_; rw [g0]; simp only [Option.getD_some, Option.isSome_some])
    refine bodyPost_ret (v := .tuple #[.agg d.vals, .bool true]) (by simp [results, Tryz.results132, go_sem, Dev.vals, z0, z1, z2, z3, z4, z5, z6, z7, z8, z9]) rfl ?_
    exact ⟨.inr ⟨d, H1.out, rfl⟩, hfin.out.2⟩
end Go.Proofs.YtpnpjaemlflplaaGreatDoor
