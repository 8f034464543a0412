/- Gone: the walk. -/
import Derived.Test.YtpigghenmagghaaGreatDoorG5
namespace Go.Proofs.YtpigghenmagghaaGreatDoor
open Go.RowKit Go.Maps
set_option linter.unusedVariables false

set_option maxRecDepth 100000 in
set_option maxHeartbeats 2000000 in
theorem q_gone (qb b1 b2 : Nat) (f g : Int → Bool) (N : Nat) (a : Option Addr) (cap : Nat) (ds : List Dev) (base : Nat) (w : World) (hq : Que w qb b1 b2 f g N) (hN : N ≤ 100000) (hl : Tr w base a cap ds) :
    Calls Tryz.prog 11 #[.pointer (some ⟨qb, 0, none⟩), .agg #[.slice a ds.length cap]] w fun e w' => (∃ a' c' m, e = .returned (.slice a' m.length c') ∧ Ints w' a' c' m ∧ (∀ x, x ∈ m ↔ (f x || g x) = true ∧ hasD ds x = false)) ∧ Fr No w w' := by
  have hx : Fr No w (w.alloc (.cells #[.slice a ds.length cap] 28)) := (Fr.refl _ _).alloc _
  have hbx := block_alloc w (.cells #[.slice a ds.length cap] 28)
  have hqx := hq.fr hx id id id
  go_enter Tryz.func11, Tryz.ntmps11
  go_upto_region 1 with (fail)
  generalize w.alloc (.cells #[.slice a ds.length cap] 28) = W0 at *
  have hb0 := lt_of_block hbx
  have c0 := hqx.c0
  go_wp2_with fail
  refine (set_clone' b1 f N _ hqx.dirty).mono ?_
  rintro e w1 ⟨b, rfl, hle, hs1, hf1⟩
  have hq1 := hqx.fr hf1 id id id
  have c1 := hq1.c1
  have hb2 := hqx.busy.lt
  clear c0
  go_wp2_with fail
  refine (set_copy b b2 f g N N _ hs1 hq1.busy (by omega) (by unfold maxLen; omega)).mono ?_
  rintro e w2 ⟨rfl, hs2, hf2⟩
  have hfr2 : Fr No w w2 := (hx.step hf1 (fun _ _ h => h)).step hf2 (fun k hk e => by unfold Is at e; omega)
  have hbk2 := hf2.heap (hf1.heap hbx id) (fun e => by unfold Is at e; omega)
  clear c1
  go_wp2_with fail
  refine (set_list_own b _ _ _ hs2 (by omega)).mono ?_
  rintro e w3 ⟨v, l, rfl, hown, hasc, hmem, hwf, hlen, hf3⟩
  have hfr3 := hfr2.step hf3 (fun _ _ h => h)
  have hbk3 := hf3.heap hbk2 id
  have hw2 : w.heap.size < w2.heap.size := lt_of_block hbk2
  go_wp2_with fail
  refine (gone_delete a cap ds w.heap.size base w2.heap.size v l _ (fun W hW => ⟨hl.no (hfr3.step hW (fun k hk e => by unfold From at e; omega)), cell_of_block (hW.heap hbk3 (by unfold From; omega)) 0⟩) hown hwf (by omega)).mono ?_
  rintro e w4 ⟨⟨a', c', rfl, hI, hfresh⟩, hf4⟩
  go_wp2_with fail
  go_ret
  refine ⟨⟨a', c', keepN ds l, rfl, hI, fun x => ?_⟩, hfr3.step hf4 (fun k hk e => by unfold From at e; omega)⟩
  unfold keepN
  rw [List.mem_filter, hmem]
  simp
end Go.Proofs.YtpigghenmagghaaGreatDoor
