/- maps.Clone, maps.Copy of sets. -/
import Derived.Test.YtpigghenmagghaaGreatDoorQ5
import Derived.Maps.RangeWalk
namespace Go.Proofs.YtpigghenmagghaaGreatDoor
open Go.RowKit Go.Maps Go.Sort Go.Shelf
set_option linter.unusedVariables false

theorem set_clone' (mb : Nat) (f : Int → Bool) (N : Nat) (w : World) (hs : ISet w mb f N) :
    Calls Tryz.prog 37 #[.map (some mb)] w fun e w' => ∃ b, e = .returned (.map (some b)) ∧ w.heap.size ≤ b ∧ ISet w' b f N ∧ Fr No w w' := by
  obtain ⟨D, n, hn, ⟨es, clock, hb, r⟩, hf⟩ := hs
  have hcon := AnyW.maps_Clone Tryz.cloneQ mb es clock w hb
  change Calls Tryz.prog 37 _ _ _ at hcon
  refine hcon.mono ?_
  rintro e w' ⟨rfl, rfl⟩
  exact ⟨_, rfl, Nat.le_refl _, ⟨D, n, hn, ⟨es, clock, block_alloc _ _, r⟩, hf⟩, (Fr.refl _ _).alloc _⟩

set_option maxRecDepth 100000 in
set_option maxHeartbeats 1000000 in
theorem set_copy (m1 m2 : Nat) (f1 f2 : Int → Bool) (N1 N2 : Nat) (w : World) (h1 : ISet w m1 f1 N1) (h2 : ISet w m2 f2 N2) (hne : m1 ≠ m2) (hN : N1 + N2 < maxLen) :
    Calls Tryz.prog 38 #[.map (some m1), .map (some m2)] w fun e w' => e = .returned (.tuple #[]) ∧ ISet w' m1 (fun x => f1 x || f2 x) (N1 + N2) ∧ Fr (Is m1) w w' := by
  obtain ⟨D, n, hn, ho, hf⟩ := h2
  have hsz := ho.size_le
  have hl1 := h1.lt
  have hl2 := ho.lt
  have Hf := Lib.hid hf
  clear hf
  go_enter Tryz.func38, Tryz.ntmps38
  go_wp2_with (at_range; refine wpList_range_own _ rfl _ 68 rfl 3 82 lawI Tryz.underlying68 _ m2 n _ rfl ho ?_; intro w0 hrg0 hg0 hs0)
  go_frame
  go_loopw [4] (fun _ wr => ∃ (left : Lit → Bool) (cnt : Nat) (g : Int → Bool), wr.ranges Tryz.prog 3 unitElem m2 w.heap.size n D left cnt ∧ cnt ≤ Maps.size D ∧ ISet wr m1 g (N1 + (Maps.size D - cnt)) ∧ Hid (∀ x, g x = (f1 x || (f2 x && !left (.int .i64 x)))) ∧ Hid (∀ z, left z = true → has D z = true) ∧ Fr (Is m1) w wr)
    (fun _ wr => wr.rangeLeft m2 w.heap.size)
  case atStart =>
    refine ⟨_, _, f1, hrg0, Nat.le_refl _, (h1.fr (Fr.of_grown_none hg0) id).mono (by omega), ?_, fun z hz => hz, (Fr.of_grown_none hg0).mono (fun _ _ h => h.elim)⟩
    intro x
    rw [Hf.out x]
    cases f1 x <;> cases f2 x <;> rfl
  case round =>
    obtain ⟨left, cnt, g, hrg, hcs, hS, Hg, Hl, hfr⟩ := hrel
    obtain ⟨D1, n1, hn1, ho1, hf1⟩ := hS
    have Hf1 := Lib.hid hf1
    clear hf1
    go_wp2_with (at_next; refine wpList_next_ranges _ rfl _ rfl 3 lawI unitElem (Value.int .i64) (fun (_ : Unit) => Value.agg #[]) (fun key kl h => by obtain ⟨x, rfl, _⟩ := Maps.keyOf_int_inv Tryz.underlying3 h; exact ⟨x, rfl⟩) (fun v y h => ⟨(), (unitElem_inv h).1⟩) m2 w.heap.size n D _ _ rfl hrg ?_ ?_)
    · intro hc0 hl0
      have Hl0 := Lib.hid hl0
      clear hl0 hc0
      go_wp2_with fail
      go_end0
      refine ⟨rfl, ⟨D1, n1, by omega, ho1, fun x => ?_⟩, hfr⟩
      rw [Hf1.out, Hg.out, Hl0.out]; simp
    · intro x c kl y w1 cnt1 hkey hlk hv hat hrg1 hlt hg1 hs1 hen
      obtain ⟨x', e1, rfl, hwx⟩ := Maps.keyOf_int_inv Tryz.underlying3 hkey
      obtain rfl : x = x' := by simpa using e1
      have Hlk := Lib.hid hlk
      have hrk := hrg1.alloc (.cells #[] 82)
      have ho2 := (ho1.kept hg1 (fun e => by have := Option.some.inj e; omega)).alloc (.cells #[] 82)
      have hfa : Fr (Is w.heap.size) wr (w1.alloc (.cells #[] 82)) := (Fr.of_grown_some hg1).alloc _
      have Hfa := Lib.hid hfa
      clear hlk hat hv e1 hfa
      go_wp2_with (at_mapUpdate; refine wpList_mapUpdate_own _ rfl _ _ _ 68 rfl 3 82 lawI Tryz.underlying68 _ m1 _ D1 rfl ho2 (by omega) _ _ _ rfl rfl hkey _ [] unitElem_mk ?_; intro w2 hown2 hg2; go_frame)
      have hrg2 := hrk.kept hg2 (fun e => by have := Option.some.inj e; omega) (fun e => by have := Option.some.inj e; omega)
      go_roundw
      case rel =>
        refine ⟨_, cnt1, fun y => g y || decide (y = x), hrg2, by omega, ⟨_, n1 + 1, by omega, hown2, fun y => ?_⟩, ?_, ?_, ?_⟩
        · by_cases hy : y = x
          · subst hy; rw [has_put_same ho1.isMap (isKeyInt _) _]; simp
          · rw [has_put_other (by intro e; exact hy (by simpa using e)), Hf1.out]; simp [hy]
        · intro y
          dsimp only
          rw [Hg.out]
          by_cases hy : y = x
          · subst hy
            have h1 : f2 y = true := by rw [← Hf.out]; exact Hl.out _ Hlk.out
            simp [h1, Lit.sameKey]
          · have h2 : (Lit.int .i64 y).sameKey (.int .i64 x) = false := by simp [Lit.sameKey, hy]
            rw [h2]; simp [hy]
        · intro z hz
          simp only [Bool.and_eq_true] at hz
          exact Hl.out z hz.1
        · exact (hfr.step Hfa.out (fun b hb e => by unfold Is at e; omega)).step (Fr.of_grown_some hg2) (fun b hb e => by unfold Is at *; omega)
      case measure => rw [hrg2.left_eq, hrg.left_eq]; exact hlt
end Go.Proofs.YtpigghenmagghaaGreatDoor
