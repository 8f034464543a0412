/- Copy: the copy of a queue holds the same and shares nothing. -/
import Derived.Test.YtpigghenmagghaaQ5
import Derived.Test.YtpigghenmagghaaReg
namespace Go.Proofs.Ytpigghenmagghaa
open Go.RowKit Go.Maps Go.Sort Go.Shelf
set_option linter.unusedVariables false

theorem set_clone (mb : Nat) (f : Int → Bool) (N : Nat) (w : World) (hs : ISet w mb f N) :
    Calls Try.prog 31 #[.map (some mb)] w fun e w' => ∃ b, e = .returned (.map (some b)) ∧ w.heap.size ≤ b ∧ ISet w' b f N ∧ Fr No w w' := by
  obtain ⟨D, n, hn, ⟨es, clock, hb, r⟩, hf⟩ := hs
  have hcon := AnyW.maps_Clone Try.cloneQ mb es clock w hb
  change Calls Try.prog 31 _ _ _ at hcon
  refine hcon.mono ?_
  rintro e w' ⟨rfl, rfl⟩
  exact ⟨_, rfl, Nat.le_refl _, ⟨D, n, hn, ⟨es, clock, block_alloc _ _, r⟩, hf⟩, (Fr.refl _ _).alloc _⟩

set_option maxHeartbeats 2000000 in
theorem q_copy (qb b1 b2 : Nat) (f g : Int → Bool) (N : Nat) (w : World) (hq : Que w qb b1 b2 f g N) :
    Calls Try.prog 22 #[.pointer (some ⟨qb, 0, none⟩)] w fun e w' => ∃ qc c1 c2, e = .returned (.pointer (some ⟨qc, 0, none⟩)) ∧ w.heap.size ≤ qc ∧ w.heap.size ≤ c1 ∧ w.heap.size ≤ c2 ∧
      Que w' qc c1 c2 f g N ∧ Fr No w w' := by
  go_enter Try.func22, Try.ntmps22
  go_wp2_with fail
  refine region_sig No [(0, false), (1, false), (2, false), (3, false), (4, false), (7, false), (8, false), (9, false), (10, false), (11, false), (5, true), (6, false), (12, true), (13, false), (14, false), (15, true), (16, false)] (by kernel_rfl) (by kernel_rfl) (fun w0 hf0 => ?_)
  have hq0 := hq.fr hf0 id id id
  have c0 : ∀ g : Gr No w0, g.W.cell? ⟨qb, 0, none⟩ = some (.map (some b1)) := fun g => g.fr.cell hq0.c0 id
  have c1 : ∀ g : Gr No w0, g.W.cell? ⟨qb, 1, none⟩ = some (.map (some b2)) := fun g => g.fr.cell hq0.c1 id
  repeat (apply sig_q; exact rfl; exact rfl; exact rfl; intro K hK; go_big_quiet_op; go_big_quiet_on)
  apply sig_m
  exact rfl
  go_wp2_with fail
  refine (set_clone b1 f N _ hq0.dirty).mono ?_
  rintro e w1 ⟨d1, rfl, hle1, hd1, hf1⟩
  go_wp2_with fail
  refine OnlyN.mk ⟨hf1, ?_⟩
  repeat (apply sig_q; exact rfl; exact rfl; exact rfl; intro K hK; go_big_quiet_op; go_big_quiet_on)
  apply sig_m
  exact rfl
  go_wp2_with fail
  refine (set_clone b2 g N _ (hq0.busy.fr hf1 id)).mono ?_
  rintro e w2 ⟨d2, rfl, hle2, hd2, hf2⟩
  go_wp2_with fail
  refine OnlyN.mk ⟨hf2, ?_⟩
  repeat (apply sig_q; exact rfl; exact rfl; exact rfl; intro K hK; go_big_quiet_op; go_big_quiet_on)
  apply sig_m
  exact rfl
  go_wp2_with fail
  refine OnlyN.mk ⟨(Fr.refl _ _).alloc _, ?_⟩
  repeat (apply sig_q; exact rfl; exact rfl; exact rfl; intro K hK; go_big_quiet_op; go_big_quiet_on)
  refine sig_end ?_
  go_wp2_with fail
  go_ret
  have h2 := hf0.step hf1 (fun _ _ h => h)
  have h3 := h2.step hf2 (fun _ _ h => h)
  refine ⟨_, d1, d2, rfl, h3.size, Nat.le_trans hf0.size hle1, Nat.le_trans h2.size hle2, ⟨⟨_, block_alloc _ _⟩, (hd1.fr hf2 id).fr ((Fr.refl No _).alloc _) id, hd2.fr ((Fr.refl No _).alloc _) id, ?_⟩, h3.alloc _⟩
  have := hd1.lt
  omega
end Go.Proofs.Ytpigghenmagghaa
