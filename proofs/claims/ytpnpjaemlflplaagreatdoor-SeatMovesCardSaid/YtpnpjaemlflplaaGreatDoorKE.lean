/- The example: known returns true. -/
import Derived.Test.YtpnpjaemlflplaaGreatDoorKC
namespace Go.Proofs.YtpnpjaemlflplaaGreatDoor
open Go.RowKit Go.Maps
set_option linter.unusedVariables false

theorem devs_block {w : World} {b : Nat} {ds : List Dev} {T : TypeId} (h : w.heap[b]? = some (.cells (flat ds).toArray T (0, 0))) (hm : ds.length ≤ maxLen) : Devs w (some ⟨b, 0, none⟩) ds.length ds := by
  refine ⟨Nat.le_refl _, hm, (fun e => by cases e), fun ad e _ => ?_⟩
  cases e
  refine ⟨rfl, lt_of_block h, fun i d hi j hj => ?_⟩
  rw [cell_of_block h, Nat.zero_add]
  simpa using flat_at ds i d hi j hj
theorem recs_block {w : World} {b : Nat} {l : List Rec} {T : TypeId} (h : w.heap[b]? = some (.cells (rflat l).toArray T (0, 0))) (hm : l.length ≤ maxLen) (hok : ∀ r ∈ l, RecOk w r) : Recs w (some ⟨b, 0, none⟩) l.length l := by
  refine ⟨Nat.le_refl _, hm, (fun e => by cases e), hok, fun ad e _ => ?_⟩
  cases e
  refine ⟨rfl, lt_of_block h, fun i d hi j hj => ?_⟩
  rw [cell_of_block h, Nat.zero_add]
  simpa using rflat_at l i d hi j hj
theorem ints_block {w : World} {b : Nat} {l : List Int} {T : TypeId} (h : w.heap[b]? = some (.cells (l.map (Value.int .i64)).toArray T (0, 0))) (hm : l.length ≤ maxLen) (hw : ∀ x ∈ l, (Lit.int .i64 x).wf = true) : Ints w (some ⟨b, 0, none⟩) l.length l :=
  (Ints.of_own (base := b) (e := T) (v := .slice (some ⟨b, 0, none⟩) l.length l.length) ⟨by simp, .inr ⟨b, l.length, _, rfl, Nat.le_refl _, h, Nat.le_refl _, hm, by simp, by simp [List.take_of_length_le]⟩⟩ hw).elim fun a h1 => h1.elim fun c h2 => by
    obtain ⟨e, h3, _⟩ := h2
    cases e
    exact h3

/-- The world with the example in it. -/
def kw (w : World) : World := ((((((w.alloc (.cells (flat kds).toArray 32)).alloc (.cells #[.slice (some ⟨w.heap.size, 0, none⟩) 4 4] 25)).alloc (.cells #[.string tagSeat] 9)).alloc (.cells #[.string keySeat, .string seat1] 45)).alloc (.cells #[.string tagSeat] 9)).alloc (.cells #[.string tagMaster, .string tagSeat] 9)).alloc (.cells (rflat (krs (w.heap.size + 2))).toArray 42)
structure KnAt (b0 : Nat) (W : World) : Prop where
  tr : Tr W b0 (some ⟨b0, 0, none⟩) 4 kds
  recs : Recs W (some ⟨b0 + 6, 0, none⟩) 4 (krs (b0 + 2))
  box : W.heap[b0 + 1]? = some (.cells #[.slice (some ⟨b0, 0, none⟩) 4 4] 25)
theorem KnAt.no {b0 : Nat} {W W' : World} (h : KnAt b0 W) (hf : Fr No W W') : KnAt b0 W' := ⟨h.tr.no hf, h.recs.no hf (fun _ => id), hf.heap h.box id⟩
theorem KnAt.g {b0 : Nat} {W : World} (h : KnAt b0 W) : ∀ g : Gr No W, g.W.cell? ⟨b0 + 1, 0, none⟩ = some (.slice (some ⟨b0, 0, none⟩) 4 4) := fun g => g.fr.cell (cell_of_block h.box 0) id

theorem k_wf : TreeWf kds := by
  refine ⟨k_tree, fun d hd e he => ?_, by decide⟩
  simp only [kds, List.mem_cons, List.not_mem_nil, or_false] at hd he
  rcases hd with rfl | rfl | rfl | rfl <;> rcases he with rfl | rfl | rfl | rfl
  all_goals first
    | exact fun _ => rfl
    | exact fun h => absurd h (by decide)
theorem kw_at (w : World) : KnAt w.heap.size (kw w) ∧ Fr No w (kw w) := by
  obtain ⟨W1, h1⟩ : ∃ W1, W1 = w.alloc (.cells (flat kds).toArray 32) := ⟨_, rfl⟩
  obtain ⟨W2, h2⟩ : ∃ W2, W2 = W1.alloc (.cells #[.slice (some ⟨w.heap.size, 0, none⟩) 4 4] 25) := ⟨_, rfl⟩
  obtain ⟨W3, h3⟩ : ∃ W3, W3 = W2.alloc (.cells #[.string tagSeat] 9) := ⟨_, rfl⟩
  obtain ⟨W4, h4⟩ : ∃ W4, W4 = W3.alloc (.cells #[.string keySeat, .string seat1] 45) := ⟨_, rfl⟩
  obtain ⟨W5, h5⟩ : ∃ W5, W5 = W4.alloc (.cells #[.string tagSeat] 9) := ⟨_, rfl⟩
  obtain ⟨W6, h6⟩ : ∃ W6, W6 = W5.alloc (.cells #[.string tagMaster, .string tagSeat] 9) := ⟨_, rfl⟩
  have hk : kw w = W6.alloc (.cells (rflat (krs (w.heap.size + 2))).toArray 42) := by rw [h6, h5, h4, h3, h2, h1]; rfl
  have s1 : W1.heap.size = w.heap.size + 1 := by rw [h1]; simp
  have s2 : W2.heap.size = w.heap.size + 2 := by rw [h2, World.size_alloc, s1]
  have s3 : W3.heap.size = w.heap.size + 3 := by rw [h3, World.size_alloc, s2]
  have s4 : W4.heap.size = w.heap.size + 4 := by rw [h4, World.size_alloc, s3]
  have s5 : W5.heap.size = w.heap.size + 5 := by rw [h5, World.size_alloc, s4]
  have s6 : W6.heap.size = w.heap.size + 6 := by rw [h6, World.size_alloc, s5]
  have f1 : Fr No w W1 := by rw [h1]; exact (Fr.refl _ _).alloc _
  have f2 : Fr No W1 W2 := by rw [h2]; exact (Fr.refl _ _).alloc _
  have f3 : Fr No W2 W3 := by rw [h3]; exact (Fr.refl _ _).alloc _
  have f4 : Fr No W3 W4 := by rw [h4]; exact (Fr.refl _ _).alloc _
  have f5 : Fr No W4 W5 := by rw [h5]; exact (Fr.refl _ _).alloc _
  have f6 : Fr No W5 W6 := by rw [h6]; exact (Fr.refl _ _).alloc _
  have f7 : Fr No W6 (kw w) := by rw [hk]; exact (Fr.refl _ _).alloc _
  have n : ∀ {S : Nat → Prop} (b : Nat), b < 0 → No b → S b := fun _ _ h => h.elim
  have g6 : Fr No W5 (kw w) := f6.step f7 (fun _ _ h => h)
  have g5 : Fr No W4 (kw w) := f5.step g6 (fun _ _ h => h)
  have g4 : Fr No W3 (kw w) := f4.step g5 (fun _ _ h => h)
  have g3 : Fr No W2 (kw w) := f3.step g4 (fun _ _ h => h)
  have g2 : Fr No W1 (kw w) := f2.step g3 (fun _ _ h => h)
  have b0 : (kw w).heap[w.heap.size]? = some (.cells (flat kds).toArray 32) := g2.heap (by rw [h1]; exact block_alloc _ _) id
  have b1 : (kw w).heap[w.heap.size + 1]? = some (.cells #[.slice (some ⟨w.heap.size, 0, none⟩) 4 4] 25) := g3.heap (by rw [← s1, h2]; exact block_alloc _ _) id
  have b2 : (kw w).heap[w.heap.size + 2]? = some (.cells #[.string tagSeat] 9) := g4.heap (by rw [← s2, h3]; exact block_alloc _ _) id
  have b3 : (kw w).heap[w.heap.size + 2 + 1]? = some (.cells #[.string keySeat, .string seat1] 45) := g5.heap (by rw [show w.heap.size + 2 + 1 = W3.heap.size from s3.symm, h4]; exact block_alloc _ _) id
  have b4 : (kw w).heap[w.heap.size + 2 + 2]? = some (.cells #[.string tagSeat] 9) := g6.heap (by rw [show w.heap.size + 2 + 2 = W4.heap.size from s4.symm, h5]; exact block_alloc _ _) id
  have b5 : (kw w).heap[w.heap.size + 2 + 3]? = some (.cells #[.string tagMaster, .string tagSeat] 9) := f7.heap (by rw [show w.heap.size + 2 + 3 = W5.heap.size from s5.symm, h6]; exact block_alloc _ _) id
  have b6 : (kw w).heap[w.heap.size + 6]? = some (.cells (rflat (krs (w.heap.size + 2))).toArray 42) := by rw [show w.heap.size + 6 = W6.heap.size from s6.symm, hk]; exact block_alloc _ _
  refine ⟨⟨⟨devs_block b0 (by unfold maxLen; decide), k_wf, fun ad e => by cases e; exact Nat.le_refl _, fun d hd => ?_⟩, recs_block b6 (by unfold maxLen; simp [krs]) (fun r hr => ?_), b1⟩, f1.step g2 (fun _ _ h => h)⟩
  · simp only [kds, List.mem_cons, List.not_mem_nil, or_false] at hd
    rcases hd with rfl | rfl | rfl | rfl
    all_goals exact ⟨⟨by decide, by decide, by decide, by decide, by decide⟩, rfl, ⟨[], Atts.nil _, rfl, by simp⟩, fun _ e => by cases e⟩
  · simp only [krs, List.mem_cons, List.not_mem_nil, or_false] at hr
    rcases hr with rfl | rfl | rfl | rfl
    · exact ⟨Atts.nil _, Strs.of_block (l := [tagSeat]) b2 (by unfold maxLen; simp)⟩
    · exact ⟨atts_one b3 (by decide) (by decide), Strs.nil _⟩
    · exact ⟨Atts.nil _, Strs.of_block (l := [tagSeat]) b4 (by unfold maxLen; simp)⟩
    · exact ⟨Atts.nil _, Strs.of_block (l := [tagMaster, tagSeat]) b5 (by unfold maxLen; simp)⟩

section
variable {b0 : Nat} {W : World}
theorem kn_of (h : KnAt b0 W) : Calls Tryz.prog 15 #[.agg #[.slice (some ⟨b0, 0, none⟩) 4 4], .slice (some ⟨b0 + 6, 0, none⟩) 4 4, .int .i64 3] W fun e w' => e = .returned (.string ⟨#[115, 101, 97, 116, 49]⟩) ∧ Fr No W w' := by
  have := seat_of (some ⟨b0, 0, none⟩) (some ⟨b0 + 6, 0, none⟩) 4 4 b0 kds (krs (b0 + 2)) 3 W h.tr (by decide) (by decide) h.recs
  rw [s3] at this
  exact this
theorem kn_devices (h : KnAt b0 W) : Calls Tryz.prog 19 #[.agg #[.slice (some ⟨b0, 0, none⟩) 4 4], .slice (some ⟨b0 + 6, 0, none⟩) 4 4, .string seat1] W fun e w' => (∃ a' c', e = .returned (.slice a' 2 c') ∧ Ints w' a' c' [4, 3]) ∧ Fr No W w' := by
  have := seat_devices (some ⟨b0, 0, none⟩) (some ⟨b0 + 6, 0, none⟩) 4 4 b0 kds (krs (b0 + 2)) seat1 W h.tr (by decide) h.recs
  rw [k_devices] at this
  exact this.mono fun e w' ⟨⟨a', c', h1, h2, _⟩, h3⟩ => ⟨⟨a', c', h1, h2⟩, h3⟩
theorem kn_masters (h : KnAt b0 W) : Calls Tryz.prog 21 #[.agg #[.slice (some ⟨b0, 0, none⟩) 4 4], .slice (some ⟨b0 + 6, 0, none⟩) 4 4, .string seat1] W fun e w' => (∃ a' c', e = .returned (.slice a' 1 c') ∧ Ints w' a' c' [4]) ∧ Fr No W w' := by
  have := seat_masters (some ⟨b0, 0, none⟩) (some ⟨b0 + 6, 0, none⟩) 4 4 b0 kds (krs (b0 + 2)) seat1 W h.tr (by decide) h.recs
  rw [k_masters] at this
  exact this.mono fun e w' ⟨⟨a', c', h1, h2, _⟩, h3⟩ => ⟨⟨a', c', h1, h2⟩, h3⟩
theorem kn_seats (h : KnAt b0 W) : Calls Tryz.prog 24 #[.agg #[.slice (some ⟨b0, 0, none⟩) 4 4], .slice (some ⟨b0 + 6, 0, none⟩) 4 4] W fun e w' => (∃ a' c', e = .returned (.slice a' 2 c') ∧ Strs w' a' c' [seat0, seat1]) ∧ Fr No W w' := by
  have := seat_seats (some ⟨b0, 0, none⟩) (some ⟨b0 + 6, 0, none⟩) 4 4 b0 kds (krs (b0 + 2)) W h.tr (by decide) h.recs
  rw [k_seats] at this
  exact this.mono fun e w' ⟨⟨a', c', h1, h2, _⟩, h3⟩ => ⟨⟨a', c', h1, h2⟩, h3⟩
theorem Recs.take {a : Option Addr} {cap : Nat} {l : List Rec} (h : Recs W a cap l) (k : Nat) : Recs W a cap (l.take k) :=
  ⟨Nat.le_trans (by rw [List.length_take]; omega) h.len, h.max, fun e => ⟨by rw [(h.isNil e).1]; simp, (h.isNil e).2⟩, fun r hr => h.ok r (List.mem_of_mem_take hr), fun ad e hne => by
    obtain ⟨q1, q2, q3⟩ := h.cell ad e (fun e => hne (by rw [e]; simp))
    refine ⟨q1, q2, fun i r hi j hj => q3 i r ?_ j hj⟩
    have hlt : i < (l.take k).length := (List.getElem?_eq_some_iff.1 hi).1
    rw [List.getElem?_take_of_lt (by rw [List.length_take] at hlt; omega)] at hi
    exact hi⟩
theorem kn_seats3 (h : KnAt b0 W) : Calls Tryz.prog 24 #[.agg #[.slice (some ⟨b0, 0, none⟩) 4 4], .slice (some ⟨b0 + 6, 0, none⟩) 3 4] W fun e w' => (∃ a' c', e = .returned (.slice a' 1 c') ∧ Strs w' a' c' [seat0]) ∧ Fr No W w' := by
  have := seat_seats (some ⟨b0, 0, none⟩) (some ⟨b0 + 6, 0, none⟩) 4 4 b0 kds ((krs (b0 + 2)).take 3) W h.tr (by decide) (h.recs.take 3)
  rw [k_seats3] at this
  exact this.mono fun e w' ⟨⟨a', c', h1, h2, _⟩, h3⟩ => ⟨⟨a', c', h1, h2⟩, h3⟩
end

set_option maxRecDepth 100000 in
set_option maxHeartbeats 20000000 in
theorem known_walk (w : World) :
    Calls Tryz.prog 17 #[] w fun e w' => e = .returned (.bool true) ∧ Fr No w w' := by
  obtain ⟨hK, hfw⟩ := kw_at w
  go_enter Tryz.func17, Tryz.ntmps17
  go_upto_region 3 with (fail)
  change Code.wp _ _ _ _ (kw w)
  generalize kw w = W1 at *
  refine region_tree No (.q 0 (.q 1 (.m1 2 (.q 3 (.q 4 (.q 5 (.q 6 (.m2 7 (.m1 8 (.m1 9 (.q 10 (.q 11 (.q 12 (.q 13 (.m2 14 (.m1 15 (.m1 16 (.q 17 (.q 18 (.q 19 (.q 20 (.m2 21 (.m1 22 (.m1 23 (.q 24 (.q 25 (.q 26 (.q 27 (.q 28 (.m2 29 (.m1 30 (.m1 31 (.q 32 (.q 33 .fin)))) 30 (.m1 29 (.m1 31 (.q 32 (.q 33 .fin)))))))))))) 22 (.m1 21 (.m1 23 (.q 24 (.q 25 (.q 26 (.q 27 (.q 28 (.m2 29 (.m1 30 (.m1 31 (.q 32 (.q 33 .fin)))) 30 (.m1 29 (.m1 31 (.q 32 (.q 33 .fin))))))))))))))))))) 15 (.m1 14 (.m1 16 (.q 17 (.q 18 (.q 19 (.q 20 (.m2 21 (.m1 22 (.m1 23 (.q 24 (.q 25 (.q 26 (.q 27 (.q 28 (.m2 29 (.m1 30 (.m1 31 (.q 32 (.q 33 .fin)))) 30 (.m1 29 (.m1 31 (.q 32 (.q 33 .fin)))))))))))) 22 (.m1 21 (.m1 23 (.q 24 (.q 25 (.q 26 (.q 27 (.q 28 (.m2 29 (.m1 30 (.m1 31 (.q 32 (.q 33 .fin)))) 30 (.m1 29 (.m1 31 (.q 32 (.q 33 .fin)))))))))))))))))))))))))) 8 (.m1 7 (.m1 9 (.q 10 (.q 11 (.q 12 (.q 13 (.m2 14 (.m1 15 (.m1 16 (.q 17 (.q 18 (.q 19 (.q 20 (.m2 21 (.m1 22 (.m1 23 (.q 24 (.q 25 (.q 26 (.q 27 (.q 28 (.m2 29 (.m1 30 (.m1 31 (.q 32 (.q 33 .fin)))) 30 (.m1 29 (.m1 31 (.q 32 (.q 33 .fin)))))))))))) 22 (.m1 21 (.m1 23 (.q 24 (.q 25 (.q 26 (.q 27 (.q 28 (.m2 29 (.m1 30 (.m1 31 (.q 32 (.q 33 .fin)))) 30 (.m1 29 (.m1 31 (.q 32 (.q 33 .fin))))))))))))))))))) 15 (.m1 14 (.m1 16 (.q 17 (.q 18 (.q 19 (.q 20 (.m2 21 (.m1 22 (.m1 23 (.q 24 (.q 25 (.q 26 (.q 27 (.q 28 (.m2 29 (.m1 30 (.m1 31 (.q 32 (.q 33 .fin)))) 30 (.m1 29 (.m1 31 (.q 32 (.q 33 .fin)))))))))))) 22 (.m1 21 (.m1 23 (.q 24 (.q 25 (.q 26 (.q 27 (.q 28 (.m2 29 (.m1 30 (.m1 31 (.q 32 (.q 33 .fin)))) 30 (.m1 29 (.m1 31 (.q 32 (.q 33 .fin)))))))))))))))))))))))))))))))))) _ (by kernel_rfl) (by kernel_rfl) (fun w0 hf0 => ?_) (fun _ _ h => h)
  have HK := Lib.hid (hK.no hf0)
  have HF := Lib.hid (hfw.step hf0 (fun _ _ h => h))
  clear hK hfw hf0
  have g1 := HK.out.g
  repeat (apply tree_q; exact rfl; exact rfl; exact rfl; intro K0 hK0; go_big_quiet_op; go_big_quiet_on)
  clear g1
  apply tree_m1
  exact rfl
  go_wp2_with fail
  refine (kn_of HK.out).mono ?_
  rintro e w2 ⟨rfl, hf⟩
  have HK := Lib.hid (HK.out.no hf)
  have HF := Lib.hid (HF.out.step hf (fun _ _ h => h))
  go_wp2_with fail
  refine OnlyN.mk ⟨hf, ?_⟩
  clear hf
  have g1 := HK.out.g
  repeat (apply tree_q; exact rfl; exact rfl; exact rfl; intro K0 hK0; go_big_quiet_op; go_big_quiet_on)
  clear g1
  refine tree_m2 rfl rfl ?_ ?_
  · skip
    go_wp2_with fail
    refine (kn_devices HK.out).mono ?_
    rintro e w3 ⟨⟨ax3, cx3, rfl, hI⟩, hf⟩
    have HK := Lib.hid (HK.out.no hf)
    have HI := Lib.hid hI
    have HF := Lib.hid (HF.out.step hf (fun _ _ h => h))
    go_wp2_with fail
    refine OnlyN.mk ⟨hf, ?_⟩
    clear hI hf
    apply tree_m1
    exact rfl
    have hf : Fr No w3 (w3.alloc (.cells #[.int .i64 4, .int .i64 3] 3)) := (Fr.refl _ _).alloc _
    have hL := ints_block (l := [4, 3]) (block_alloc w3 (.cells #[.int .i64 4, .int .i64 3] 3)) (by unfold maxLen; simp) (by decide)
    have hz : (w3.alloc (.cells #[.int .i64 4, .int .i64 3] 3)).heap.size = w3.heap.size + 1 := by simp
    have HK := Lib.hid (HK.out.no hf)
    have HL := Lib.hid hL
    have HF := Lib.hid (HF.out.step hf (fun _ _ h => h))
    have HI := Lib.hid (HI.out.no hf (fun _ => id))
    have HE := Lib.hid hf
    clear hL hf hz
    go_wp2_with fail
    refine OnlyN.mk ⟨HE.out, ?_⟩
    clear HE
    obtain ⟨w4, hw4⟩ : ∃ X, X = w3.alloc (.cells #[.int .i64 4, .int .i64 3] 3) := ⟨_, rfl⟩
    rw [← hw4] at HK HL HF HI
    change wpSg _ _ _ _ _ _ (w3.alloc (.cells #[.int .i64 4, .int .i64 3] 3))
    rw [← hw4]
    clear hw4
    apply tree_m1
    exact rfl
    go_wp2_with fail
    refine (ints_same ax3 (some ⟨w3.heap.size, 0, none⟩) cx3 2 [4, 3] [4, 3] _ HI.out HL.out).mono ?_
    rintro e w5 ⟨rfl, hf⟩
    have HK := Lib.hid (HK.out.no hf)
    have HF := Lib.hid (HF.out.step hf (fun _ _ h => h))
    go_wp2_with fail
    refine OnlyN.mk ⟨hf, ?_⟩
    clear hf HI HL
    have g1 := HK.out.g
    repeat (apply tree_q; exact rfl; exact rfl; exact rfl; intro K0 hK0; go_big_quiet_op; go_big_quiet_on)
    clear g1
    refine tree_m2 rfl rfl ?_ ?_
    · skip
      go_wp2_with fail
      refine (kn_masters HK.out).mono ?_
      rintro e w6 ⟨⟨ax6, cx6, rfl, hI⟩, hf⟩
      have HK := Lib.hid (HK.out.no hf)
      have HI := Lib.hid hI
      have HF := Lib.hid (HF.out.step hf (fun _ _ h => h))
      go_wp2_with fail
      refine OnlyN.mk ⟨hf, ?_⟩
      clear hI hf
      apply tree_m1
      exact rfl
      have hf : Fr No w6 (w6.alloc (.cells #[.int .i64 4] 3)) := (Fr.refl _ _).alloc _
      have hL := ints_block (l := [4]) (block_alloc w6 (.cells #[.int .i64 4] 3)) (by unfold maxLen; simp) (by decide)
      have hz : (w6.alloc (.cells #[.int .i64 4] 3)).heap.size = w6.heap.size + 1 := by simp
      have HK := Lib.hid (HK.out.no hf)
      have HL := Lib.hid hL
      have HF := Lib.hid (HF.out.step hf (fun _ _ h => h))
      have HI := Lib.hid (HI.out.no hf (fun _ => id))
      have HE := Lib.hid hf
      clear hL hf hz
      go_wp2_with fail
      refine OnlyN.mk ⟨HE.out, ?_⟩
      clear HE
      obtain ⟨w7, hw7⟩ : ∃ X, X = w6.alloc (.cells #[.int .i64 4] 3) := ⟨_, rfl⟩
      rw [← hw7] at HK HL HF HI
      change wpSg _ _ _ _ _ _ (w6.alloc (.cells #[.int .i64 4] 3))
      rw [← hw7]
      clear hw7
      apply tree_m1
      exact rfl
      go_wp2_with fail
      refine (ints_same ax6 (some ⟨w6.heap.size, 0, none⟩) cx6 1 [4] [4] _ HI.out HL.out).mono ?_
      rintro e w8 ⟨rfl, hf⟩
      have HK := Lib.hid (HK.out.no hf)
      have HF := Lib.hid (HF.out.step hf (fun _ _ h => h))
      go_wp2_with fail
      refine OnlyN.mk ⟨hf, ?_⟩
      clear hf HI HL
      have g1 := HK.out.g
      repeat (apply tree_q; exact rfl; exact rfl; exact rfl; intro K0 hK0; go_big_quiet_op; go_big_quiet_on)
      clear g1
      refine tree_m2 rfl rfl ?_ ?_
      · skip
        go_wp2_with fail
        refine (kn_seats HK.out).mono ?_
        rintro e w9 ⟨⟨ax9, cx9, rfl, hI⟩, hf⟩
        have HK := Lib.hid (HK.out.no hf)
        have HI := Lib.hid hI
        have HF := Lib.hid (HF.out.step hf (fun _ _ h => h))
        go_wp2_with fail
        refine OnlyN.mk ⟨hf, ?_⟩
        clear hI hf
        apply tree_m1
        exact rfl
        have hf : Fr No w9 (w9.alloc (.cells #[.string seat0, .string seat1] 9)) := (Fr.refl _ _).alloc _
        have hL := Strs.of_block (l := [seat0, seat1]) (block_alloc w9 (.cells #[.string seat0, .string seat1] 9)) (by unfold maxLen; simp)
        have hz : (w9.alloc (.cells #[.string seat0, .string seat1] 9)).heap.size = w9.heap.size + 1 := by simp
        have HK := Lib.hid (HK.out.no hf)
        have HL := Lib.hid hL
        have HF := Lib.hid (HF.out.step hf (fun _ _ h => h))
        have HI := Lib.hid (HI.out.no hf (fun _ => id))
        have HE := Lib.hid hf
        clear hL hf hz
        go_wp2_with fail
        refine OnlyN.mk ⟨HE.out, ?_⟩
        clear HE
        obtain ⟨w10, hw10⟩ : ∃ X, X = w9.alloc (.cells #[.string seat0, .string seat1] 9) := ⟨_, rfl⟩
        rw [← hw10] at HK HL HF HI
        change wpSg _ _ _ _ _ _ (w9.alloc (.cells #[.string seat0, .string seat1] 9))
        rw [← hw10]
        clear hw10
        apply tree_m1
        exact rfl
        go_wp2_with fail
        refine (same_texts ax9 (some ⟨w9.heap.size, 0, none⟩) cx9 2 [seat0, seat1] [seat0, seat1] _ HI.out HL.out).mono ?_
        rintro e w11 ⟨rfl, hf⟩
        rw [show sameT [seat0, seat1] [seat0, seat1] = true from by simp [sameT]]
        have HK := Lib.hid (HK.out.no hf)
        have HF := Lib.hid (HF.out.step hf (fun _ _ h => h))
        go_wp2_with fail
        refine OnlyN.mk ⟨hf, ?_⟩
        clear hf HI HL
        have g1 := HK.out.g
        repeat (apply tree_q; exact rfl; exact rfl; exact rfl; intro K0 hK0; go_big_quiet_op; go_big_quiet_on)
        clear g1
        refine tree_m2 rfl rfl ?_ ?_
        · skip
          go_wp2_with fail
          refine (kn_seats3 HK.out).mono ?_
          rintro e w12 ⟨⟨ax12, cx12, rfl, hI⟩, hf⟩
          have HK := Lib.hid (HK.out.no hf)
          have HI := Lib.hid hI
          have HF := Lib.hid (HF.out.step hf (fun _ _ h => h))
          go_wp2_with fail
          refine OnlyN.mk ⟨hf, ?_⟩
          clear hI hf
          apply tree_m1
          exact rfl
          have hf : Fr No w12 (w12.alloc (.cells #[.string seat0] 9)) := (Fr.refl _ _).alloc _
          have hL := Strs.of_block (l := [seat0]) (block_alloc w12 (.cells #[.string seat0] 9)) (by unfold maxLen; simp)
          have hz : (w12.alloc (.cells #[.string seat0] 9)).heap.size = w12.heap.size + 1 := by simp
          have HK := Lib.hid (HK.out.no hf)
          have HL := Lib.hid hL
          have HF := Lib.hid (HF.out.step hf (fun _ _ h => h))
          have HI := Lib.hid (HI.out.no hf (fun _ => id))
          have HE := Lib.hid hf
          clear hL hf hz
          go_wp2_with fail
          refine OnlyN.mk ⟨HE.out, ?_⟩
          clear HE
          obtain ⟨w13, hw13⟩ : ∃ X, X = w12.alloc (.cells #[.string seat0] 9) := ⟨_, rfl⟩
          rw [← hw13] at HK HL HF HI
          change wpSg _ _ _ _ _ _ (w12.alloc (.cells #[.string seat0] 9))
          rw [← hw13]
          clear hw13
          apply tree_m1
          exact rfl
          go_wp2_with fail
          refine (same_texts ax12 (some ⟨w12.heap.size, 0, none⟩) cx12 1 [seat0] [seat0] _ HI.out HL.out).mono ?_
          rintro e w14 ⟨rfl, hf⟩
          rw [show sameT [seat0] [seat0] = true from by simp [sameT]]
          have HK := Lib.hid (HK.out.no hf)
          have HF := Lib.hid (HF.out.step hf (fun _ _ h => h))
          go_wp2_with fail
          refine OnlyN.mk ⟨hf, ?_⟩
          clear hf HI HL
          have g1 := HK.out.g
          repeat (apply tree_q; exact rfl; exact rfl; exact rfl; intro K0 hK0; go_big_quiet_op; go_big_quiet_on)
          clear g1
          refine tree_end ?_
          go_wp2_with fail
          go_ret
          exact ⟨rfl, HF.out⟩
        · skip
          have hf : Fr No w11 (w11.alloc (.cells #[.string seat0] 9)) := (Fr.refl _ _).alloc _
          have hL := Strs.of_block (l := [seat0]) (block_alloc w11 (.cells #[.string seat0] 9)) (by unfold maxLen; simp)
          have hz : (w11.alloc (.cells #[.string seat0] 9)).heap.size = w11.heap.size + 1 := by simp
          have HK := Lib.hid (HK.out.no hf)
          have HL := Lib.hid hL
          have HF := Lib.hid (HF.out.step hf (fun _ _ h => h))
          have HE := Lib.hid hf
          clear hL hf hz
          go_wp2_with fail
          refine OnlyN.mk ⟨HE.out, ?_⟩
          clear HE
          obtain ⟨w15, hw15⟩ : ∃ X, X = w11.alloc (.cells #[.string seat0] 9) := ⟨_, rfl⟩
          rw [← hw15] at HK HL HF
          change wpSg _ _ _ _ _ _ (w11.alloc (.cells #[.string seat0] 9))
          rw [← hw15]
          clear hw15
          apply tree_m1
          exact rfl
          go_wp2_with fail
          refine (kn_seats3 HK.out).mono ?_
          rintro e w16 ⟨⟨ax16, cx16, rfl, hI⟩, hf⟩
          have HK := Lib.hid (HK.out.no hf)
          have HI := Lib.hid hI
          have HL := Lib.hid (HL.out.no hf (fun _ => id))
          have HF := Lib.hid (HF.out.step hf (fun _ _ h => h))
          go_wp2_with fail
          refine OnlyN.mk ⟨hf, ?_⟩
          clear hI hf
          apply tree_m1
          exact rfl
          go_wp2_with fail
          refine (same_texts ax16 (some ⟨w11.heap.size, 0, none⟩) cx16 1 [seat0] [seat0] _ HI.out HL.out).mono ?_
          rintro e w17 ⟨rfl, hf⟩
          rw [show sameT [seat0] [seat0] = true from by simp [sameT]]
          have HK := Lib.hid (HK.out.no hf)
          have HF := Lib.hid (HF.out.step hf (fun _ _ h => h))
          go_wp2_with fail
          refine OnlyN.mk ⟨hf, ?_⟩
          clear hf HI HL
          have g1 := HK.out.g
          repeat (apply tree_q; exact rfl; exact rfl; exact rfl; intro K0 hK0; go_big_quiet_op; go_big_quiet_on)
          clear g1
          refine tree_end ?_
          go_wp2_with fail
          go_ret
          exact ⟨rfl, HF.out⟩
      · skip
        have hf : Fr No w8 (w8.alloc (.cells #[.string seat0, .string seat1] 9)) := (Fr.refl _ _).alloc _
        have hL := Strs.of_block (l := [seat0, seat1]) (block_alloc w8 (.cells #[.string seat0, .string seat1] 9)) (by unfold maxLen; simp)
        have hz : (w8.alloc (.cells #[.string seat0, .string seat1] 9)).heap.size = w8.heap.size + 1 := by simp
        have HK := Lib.hid (HK.out.no hf)
        have HL := Lib.hid hL
        have HF := Lib.hid (HF.out.step hf (fun _ _ h => h))
        have HE := Lib.hid hf
        clear hL hf hz
        go_wp2_with fail
        refine OnlyN.mk ⟨HE.out, ?_⟩
        clear HE
        obtain ⟨w18, hw18⟩ : ∃ X, X = w8.alloc (.cells #[.string seat0, .string seat1] 9) := ⟨_, rfl⟩
        rw [← hw18] at HK HL HF
        change wpSg _ _ _ _ _ _ (w8.alloc (.cells #[.string seat0, .string seat1] 9))
        rw [← hw18]
        clear hw18
        apply tree_m1
        exact rfl
        go_wp2_with fail
        refine (kn_seats HK.out).mono ?_
        rintro e w19 ⟨⟨ax19, cx19, rfl, hI⟩, hf⟩
        have HK := Lib.hid (HK.out.no hf)
        have HI := Lib.hid hI
        have HL := Lib.hid (HL.out.no hf (fun _ => id))
        have HF := Lib.hid (HF.out.step hf (fun _ _ h => h))
        go_wp2_with fail
        refine OnlyN.mk ⟨hf, ?_⟩
        clear hI hf
        apply tree_m1
        exact rfl
        go_wp2_with fail
        refine (same_texts ax19 (some ⟨w8.heap.size, 0, none⟩) cx19 2 [seat0, seat1] [seat0, seat1] _ HI.out HL.out).mono ?_
        rintro e w20 ⟨rfl, hf⟩
        rw [show sameT [seat0, seat1] [seat0, seat1] = true from by simp [sameT]]
        have HK := Lib.hid (HK.out.no hf)
        have HF := Lib.hid (HF.out.step hf (fun _ _ h => h))
        go_wp2_with fail
        refine OnlyN.mk ⟨hf, ?_⟩
        clear hf HI HL
        have g1 := HK.out.g
        repeat (apply tree_q; exact rfl; exact rfl; exact rfl; intro K0 hK0; go_big_quiet_op; go_big_quiet_on)
        clear g1
        refine tree_m2 rfl rfl ?_ ?_
        · skip
          go_wp2_with fail
          refine (kn_seats3 HK.out).mono ?_
          rintro e w21 ⟨⟨ax21, cx21, rfl, hI⟩, hf⟩
          have HK := Lib.hid (HK.out.no hf)
          have HI := Lib.hid hI
          have HF := Lib.hid (HF.out.step hf (fun _ _ h => h))
          go_wp2_with fail
          refine OnlyN.mk ⟨hf, ?_⟩
          clear hI hf
          apply tree_m1
          exact rfl
          have hf : Fr No w21 (w21.alloc (.cells #[.string seat0] 9)) := (Fr.refl _ _).alloc _
          have hL := Strs.of_block (l := [seat0]) (block_alloc w21 (.cells #[.string seat0] 9)) (by unfold maxLen; simp)
          have hz : (w21.alloc (.cells #[.string seat0] 9)).heap.size = w21.heap.size + 1 := by simp
          have HK := Lib.hid (HK.out.no hf)
          have HL := Lib.hid hL
          have HF := Lib.hid (HF.out.step hf (fun _ _ h => h))
          have HI := Lib.hid (HI.out.no hf (fun _ => id))
          have HE := Lib.hid hf
          clear hL hf hz
          go_wp2_with fail
          refine OnlyN.mk ⟨HE.out, ?_⟩
          clear HE
          obtain ⟨w22, hw22⟩ : ∃ X, X = w21.alloc (.cells #[.string seat0] 9) := ⟨_, rfl⟩
          rw [← hw22] at HK HL HF HI
          change wpSg _ _ _ _ _ _ (w21.alloc (.cells #[.string seat0] 9))
          rw [← hw22]
          clear hw22
          apply tree_m1
          exact rfl
          go_wp2_with fail
          refine (same_texts ax21 (some ⟨w21.heap.size, 0, none⟩) cx21 1 [seat0] [seat0] _ HI.out HL.out).mono ?_
          rintro e w23 ⟨rfl, hf⟩
          rw [show sameT [seat0] [seat0] = true from by simp [sameT]]
          have HK := Lib.hid (HK.out.no hf)
          have HF := Lib.hid (HF.out.step hf (fun _ _ h => h))
          go_wp2_with fail
          refine OnlyN.mk ⟨hf, ?_⟩
          clear hf HI HL
          have g1 := HK.out.g
          repeat (apply tree_q; exact rfl; exact rfl; exact rfl; intro K0 hK0; go_big_quiet_op; go_big_quiet_on)
          clear g1
          refine tree_end ?_
          go_wp2_with fail
          go_ret
          exact ⟨rfl, HF.out⟩
        · skip
          have hf : Fr No w20 (w20.alloc (.cells #[.string seat0] 9)) := (Fr.refl _ _).alloc _
          have hL := Strs.of_block (l := [seat0]) (block_alloc w20 (.cells #[.string seat0] 9)) (by unfold maxLen; simp)
          have hz : (w20.alloc (.cells #[.string seat0] 9)).heap.size = w20.heap.size + 1 := by simp
          have HK := Lib.hid (HK.out.no hf)
          have HL := Lib.hid hL
          have HF := Lib.hid (HF.out.step hf (fun _ _ h => h))
          have HE := Lib.hid hf
          clear hL hf hz
          go_wp2_with fail
          refine OnlyN.mk ⟨HE.out, ?_⟩
          clear HE
          obtain ⟨w24, hw24⟩ : ∃ X, X = w20.alloc (.cells #[.string seat0] 9) := ⟨_, rfl⟩
          rw [← hw24] at HK HL HF
          change wpSg _ _ _ _ _ _ (w20.alloc (.cells #[.string seat0] 9))
          rw [← hw24]
          clear hw24
          apply tree_m1
          exact rfl
          go_wp2_with fail
          refine (kn_seats3 HK.out).mono ?_
          rintro e w25 ⟨⟨ax25, cx25, rfl, hI⟩, hf⟩
          have HK := Lib.hid (HK.out.no hf)
          have HI := Lib.hid hI
          have HL := Lib.hid (HL.out.no hf (fun _ => id))
          have HF := Lib.hid (HF.out.step hf (fun _ _ h => h))
          go_wp2_with fail
          refine OnlyN.mk ⟨hf, ?_⟩
          clear hI hf
          apply tree_m1
          exact rfl
          go_wp2_with fail
          refine (same_texts ax25 (some ⟨w20.heap.size, 0, none⟩) cx25 1 [seat0] [seat0] _ HI.out HL.out).mono ?_
          rintro e w26 ⟨rfl, hf⟩
          rw [show sameT [seat0] [seat0] = true from by simp [sameT]]
          have HK := Lib.hid (HK.out.no hf)
          have HF := Lib.hid (HF.out.step hf (fun _ _ h => h))
          go_wp2_with fail
          refine OnlyN.mk ⟨hf, ?_⟩
          clear hf HI HL
          have g1 := HK.out.g
          repeat (apply tree_q; exact rfl; exact rfl; exact rfl; intro K0 hK0; go_big_quiet_op; go_big_quiet_on)
          clear g1
          refine tree_end ?_
          go_wp2_with fail
          go_ret
          exact ⟨rfl, HF.out⟩
    · skip
      have hf : Fr No w5 (w5.alloc (.cells #[.int .i64 4] 3)) := (Fr.refl _ _).alloc _
      have hL := ints_block (l := [4]) (block_alloc w5 (.cells #[.int .i64 4] 3)) (by unfold maxLen; simp) (by decide)
      have hz : (w5.alloc (.cells #[.int .i64 4] 3)).heap.size = w5.heap.size + 1 := by simp
      have HK := Lib.hid (HK.out.no hf)
      have HL := Lib.hid hL
      have HF := Lib.hid (HF.out.step hf (fun _ _ h => h))
      have HE := Lib.hid hf
      clear hL hf hz
      go_wp2_with fail
      refine OnlyN.mk ⟨HE.out, ?_⟩
      clear HE
      obtain ⟨w27, hw27⟩ : ∃ X, X = w5.alloc (.cells #[.int .i64 4] 3) := ⟨_, rfl⟩
      rw [← hw27] at HK HL HF
      change wpSg _ _ _ _ _ _ (w5.alloc (.cells #[.int .i64 4] 3))
      rw [← hw27]
      clear hw27
      apply tree_m1
      exact rfl
      go_wp2_with fail
      refine (kn_masters HK.out).mono ?_
      rintro e w28 ⟨⟨ax28, cx28, rfl, hI⟩, hf⟩
      have HK := Lib.hid (HK.out.no hf)
      have HI := Lib.hid hI
      have HL := Lib.hid (HL.out.no hf (fun _ => id))
      have HF := Lib.hid (HF.out.step hf (fun _ _ h => h))
      go_wp2_with fail
      refine OnlyN.mk ⟨hf, ?_⟩
      clear hI hf
      apply tree_m1
      exact rfl
      go_wp2_with fail
      refine (ints_same ax28 (some ⟨w5.heap.size, 0, none⟩) cx28 1 [4] [4] _ HI.out HL.out).mono ?_
      rintro e w29 ⟨rfl, hf⟩
      have HK := Lib.hid (HK.out.no hf)
      have HF := Lib.hid (HF.out.step hf (fun _ _ h => h))
      go_wp2_with fail
      refine OnlyN.mk ⟨hf, ?_⟩
      clear hf HI HL
      have g1 := HK.out.g
      repeat (apply tree_q; exact rfl; exact rfl; exact rfl; intro K0 hK0; go_big_quiet_op; go_big_quiet_on)
      clear g1
      refine tree_m2 rfl rfl ?_ ?_
      · skip
        go_wp2_with fail
        refine (kn_seats HK.out).mono ?_
        rintro e w30 ⟨⟨ax30, cx30, rfl, hI⟩, hf⟩
        have HK := Lib.hid (HK.out.no hf)
        have HI := Lib.hid hI
        have HF := Lib.hid (HF.out.step hf (fun _ _ h => h))
        go_wp2_with fail
        refine OnlyN.mk ⟨hf, ?_⟩
        clear hI hf
        apply tree_m1
        exact rfl
        have hf : Fr No w30 (w30.alloc (.cells #[.string seat0, .string seat1] 9)) := (Fr.refl _ _).alloc _
        have hL := Strs.of_block (l := [seat0, seat1]) (block_alloc w30 (.cells #[.string seat0, .string seat1] 9)) (by unfold maxLen; simp)
        have hz : (w30.alloc (.cells #[.string seat0, .string seat1] 9)).heap.size = w30.heap.size + 1 := by simp
        have HK := Lib.hid (HK.out.no hf)
        have HL := Lib.hid hL
        have HF := Lib.hid (HF.out.step hf (fun _ _ h => h))
        have HI := Lib.hid (HI.out.no hf (fun _ => id))
        have HE := Lib.hid hf
        clear hL hf hz
        go_wp2_with fail
        refine OnlyN.mk ⟨HE.out, ?_⟩
        clear HE
        obtain ⟨w31, hw31⟩ : ∃ X, X = w30.alloc (.cells #[.string seat0, .string seat1] 9) := ⟨_, rfl⟩
        rw [← hw31] at HK HL HF HI
        change wpSg _ _ _ _ _ _ (w30.alloc (.cells #[.string seat0, .string seat1] 9))
        rw [← hw31]
        clear hw31
        apply tree_m1
        exact rfl
        go_wp2_with fail
        refine (same_texts ax30 (some ⟨w30.heap.size, 0, none⟩) cx30 2 [seat0, seat1] [seat0, seat1] _ HI.out HL.out).mono ?_
        rintro e w32 ⟨rfl, hf⟩
        rw [show sameT [seat0, seat1] [seat0, seat1] = true from by simp [sameT]]
        have HK := Lib.hid (HK.out.no hf)
        have HF := Lib.hid (HF.out.step hf (fun _ _ h => h))
        go_wp2_with fail
        refine OnlyN.mk ⟨hf, ?_⟩
        clear hf HI HL
        have g1 := HK.out.g
        repeat (apply tree_q; exact rfl; exact rfl; exact rfl; intro K0 hK0; go_big_quiet_op; go_big_quiet_on)
        clear g1
        refine tree_m2 rfl rfl ?_ ?_
        · skip
          go_wp2_with fail
          refine (kn_seats3 HK.out).mono ?_
          rintro e w33 ⟨⟨ax33, cx33, rfl, hI⟩, hf⟩
          have HK := Lib.hid (HK.out.no hf)
          have HI := Lib.hid hI
          have HF := Lib.hid (HF.out.step hf (fun _ _ h => h))
          go_wp2_with fail
          refine OnlyN.mk ⟨hf, ?_⟩
          clear hI hf
          apply tree_m1
          exact rfl
          have hf : Fr No w33 (w33.alloc (.cells #[.string seat0] 9)) := (Fr.refl _ _).alloc _
          have hL := Strs.of_block (l := [seat0]) (block_alloc w33 (.cells #[.string seat0] 9)) (by unfold maxLen; simp)
          have hz : (w33.alloc (.cells #[.string seat0] 9)).heap.size = w33.heap.size + 1 := by simp
          have HK := Lib.hid (HK.out.no hf)
          have HL := Lib.hid hL
          have HF := Lib.hid (HF.out.step hf (fun _ _ h => h))
          have HI := Lib.hid (HI.out.no hf (fun _ => id))
          have HE := Lib.hid hf
          clear hL hf hz
          go_wp2_with fail
          refine OnlyN.mk ⟨HE.out, ?_⟩
          clear HE
          obtain ⟨w34, hw34⟩ : ∃ X, X = w33.alloc (.cells #[.string seat0] 9) := ⟨_, rfl⟩
          rw [← hw34] at HK HL HF HI
          change wpSg _ _ _ _ _ _ (w33.alloc (.cells #[.string seat0] 9))
          rw [← hw34]
          clear hw34
          apply tree_m1
          exact rfl
          go_wp2_with fail
          refine (same_texts ax33 (some ⟨w33.heap.size, 0, none⟩) cx33 1 [seat0] [seat0] _ HI.out HL.out).mono ?_
          rintro e w35 ⟨rfl, hf⟩
          rw [show sameT [seat0] [seat0] = true from by simp [sameT]]
          have HK := Lib.hid (HK.out.no hf)
          have HF := Lib.hid (HF.out.step hf (fun _ _ h => h))
          go_wp2_with fail
          refine OnlyN.mk ⟨hf, ?_⟩
          clear hf HI HL
          have g1 := HK.out.g
          repeat (apply tree_q; exact rfl; exact rfl; exact rfl; intro K0 hK0; go_big_quiet_op; go_big_quiet_on)
          clear g1
          refine tree_end ?_
          go_wp2_with fail
          go_ret
          exact ⟨rfl, HF.out⟩
        · skip
          have hf : Fr No w32 (w32.alloc (.cells #[.string seat0] 9)) := (Fr.refl _ _).alloc _
          have hL := Strs.of_block (l := [seat0]) (block_alloc w32 (.cells #[.string seat0] 9)) (by unfold maxLen; simp)
          have hz : (w32.alloc (.cells #[.string seat0] 9)).heap.size = w32.heap.size + 1 := by simp
          have HK := Lib.hid (HK.out.no hf)
          have HL := Lib.hid hL
          have HF := Lib.hid (HF.out.step hf (fun _ _ h => h))
          have HE := Lib.hid hf
          clear hL hf hz
          go_wp2_with fail
          refine OnlyN.mk ⟨HE.out, ?_⟩
          clear HE
          obtain ⟨w36, hw36⟩ : ∃ X, X = w32.alloc (.cells #[.string seat0] 9) := ⟨_, rfl⟩
          rw [← hw36] at HK HL HF
          change wpSg _ _ _ _ _ _ (w32.alloc (.cells #[.string seat0] 9))
          rw [← hw36]
          clear hw36
          apply tree_m1
          exact rfl
          go_wp2_with fail
          refine (kn_seats3 HK.out).mono ?_
          rintro e w37 ⟨⟨ax37, cx37, rfl, hI⟩, hf⟩
          have HK := Lib.hid (HK.out.no hf)
          have HI := Lib.hid hI
          have HL := Lib.hid (HL.out.no hf (fun _ => id))
          have HF := Lib.hid (HF.out.step hf (fun _ _ h => h))
          go_wp2_with fail
          refine OnlyN.mk ⟨hf, ?_⟩
          clear hI hf
          apply tree_m1
          exact rfl
          go_wp2_with fail
          refine (same_texts ax37 (some ⟨w32.heap.size, 0, none⟩) cx37 1 [seat0] [seat0] _ HI.out HL.out).mono ?_
          rintro e w38 ⟨rfl, hf⟩
          rw [show sameT [seat0] [seat0] = true from by simp [sameT]]
          have HK := Lib.hid (HK.out.no hf)
          have HF := Lib.hid (HF.out.step hf (fun _ _ h => h))
          go_wp2_with fail
          refine OnlyN.mk ⟨hf, ?_⟩
          clear hf HI HL
          have g1 := HK.out.g
          repeat (apply tree_q; exact rfl; exact rfl; exact rfl; intro K0 hK0; go_big_quiet_op; go_big_quiet_on)
          clear g1
          refine tree_end ?_
          go_wp2_with fail
          go_ret
          exact ⟨rfl, HF.out⟩
      · skip
        have hf : Fr No w29 (w29.alloc (.cells #[.string seat0, .string seat1] 9)) := (Fr.refl _ _).alloc _
        have hL := Strs.of_block (l := [seat0, seat1]) (block_alloc w29 (.cells #[.string seat0, .string seat1] 9)) (by unfold maxLen; simp)
        have hz : (w29.alloc (.cells #[.string seat0, .string seat1] 9)).heap.size = w29.heap.size + 1 := by simp
        have HK := Lib.hid (HK.out.no hf)
        have HL := Lib.hid hL
        have HF := Lib.hid (HF.out.step hf (fun _ _ h => h))
        have HE := Lib.hid hf
        clear hL hf hz
        go_wp2_with fail
        refine OnlyN.mk ⟨HE.out, ?_⟩
        clear HE
        obtain ⟨w39, hw39⟩ : ∃ X, X = w29.alloc (.cells #[.string seat0, .string seat1] 9) := ⟨_, rfl⟩
        rw [← hw39] at HK HL HF
        change wpSg _ _ _ _ _ _ (w29.alloc (.cells #[.string seat0, .string seat1] 9))
        rw [← hw39]
        clear hw39
        apply tree_m1
        exact rfl
        go_wp2_with fail
        refine (kn_seats HK.out).mono ?_
        rintro e w40 ⟨⟨ax40, cx40, rfl, hI⟩, hf⟩
        have HK := Lib.hid (HK.out.no hf)
        have HI := Lib.hid hI
        have HL := Lib.hid (HL.out.no hf (fun _ => id))
        have HF := Lib.hid (HF.out.step hf (fun _ _ h => h))
        go_wp2_with fail
        refine OnlyN.mk ⟨hf, ?_⟩
        clear hI hf
        apply tree_m1
        exact rfl
        go_wp2_with fail
        refine (same_texts ax40 (some ⟨w29.heap.size, 0, none⟩) cx40 2 [seat0, seat1] [seat0, seat1] _ HI.out HL.out).mono ?_
        rintro e w41 ⟨rfl, hf⟩
        rw [show sameT [seat0, seat1] [seat0, seat1] = true from by simp [sameT]]
        have HK := Lib.hid (HK.out.no hf)
        have HF := Lib.hid (HF.out.step hf (fun _ _ h => h))
        go_wp2_with fail
        refine OnlyN.mk ⟨hf, ?_⟩
        clear hf HI HL
        have g1 := HK.out.g
        repeat (apply tree_q; exact rfl; exact rfl; exact rfl; intro K0 hK0; go_big_quiet_op; go_big_quiet_on)
        clear g1
        refine tree_m2 rfl rfl ?_ ?_
        · skip
          go_wp2_with fail
          refine (kn_seats3 HK.out).mono ?_
          rintro e w42 ⟨⟨ax42, cx42, rfl, hI⟩, hf⟩
          have HK := Lib.hid (HK.out.no hf)
          have HI := Lib.hid hI
          have HF := Lib.hid (HF.out.step hf (fun _ _ h => h))
          go_wp2_with fail
          refine OnlyN.mk ⟨hf, ?_⟩
          clear hI hf
          apply tree_m1
          exact rfl
          have hf : Fr No w42 (w42.alloc (.cells #[.string seat0] 9)) := (Fr.refl _ _).alloc _
          have hL := Strs.of_block (l := [seat0]) (block_alloc w42 (.cells #[.string seat0] 9)) (by unfold maxLen; simp)
          have hz : (w42.alloc (.cells #[.string seat0] 9)).heap.size = w42.heap.size + 1 := by simp
          have HK := Lib.hid (HK.out.no hf)
          have HL := Lib.hid hL
          have HF := Lib.hid (HF.out.step hf (fun _ _ h => h))
          have HI := Lib.hid (HI.out.no hf (fun _ => id))
          have HE := Lib.hid hf
          clear hL hf hz
          go_wp2_with fail
          refine OnlyN.mk ⟨HE.out, ?_⟩
          clear HE
          obtain ⟨w43, hw43⟩ : ∃ X, X = w42.alloc (.cells #[.string seat0] 9) := ⟨_, rfl⟩
          rw [← hw43] at HK HL HF HI
          change wpSg _ _ _ _ _ _ (w42.alloc (.cells #[.string seat0] 9))
          rw [← hw43]
          clear hw43
          apply tree_m1
          exact rfl
          go_wp2_with fail
          refine (same_texts ax42 (some ⟨w42.heap.size, 0, none⟩) cx42 1 [seat0] [seat0] _ HI.out HL.out).mono ?_
          rintro e w44 ⟨rfl, hf⟩
          rw [show sameT [seat0] [seat0] = true from by simp [sameT]]
          have HK := Lib.hid (HK.out.no hf)
          have HF := Lib.hid (HF.out.step hf (fun _ _ h => h))
          go_wp2_with fail
          refine OnlyN.mk ⟨hf, ?_⟩
          clear hf HI HL
          have g1 := HK.out.g
          repeat (apply tree_q; exact rfl; exact rfl; exact rfl; intro K0 hK0; go_big_quiet_op; go_big_quiet_on)
          clear g1
          refine tree_end ?_
          go_wp2_with fail
          go_ret
          exact ⟨rfl, HF.out⟩
        · skip
          have hf : Fr No w41 (w41.alloc (.cells #[.string seat0] 9)) := (Fr.refl _ _).alloc _
          have hL := Strs.of_block (l := [seat0]) (block_alloc w41 (.cells #[.string seat0] 9)) (by unfold maxLen; simp)
          have hz : (w41.alloc (.cells #[.string seat0] 9)).heap.size = w41.heap.size + 1 := by simp
          have HK := Lib.hid (HK.out.no hf)
          have HL := Lib.hid hL
          have HF := Lib.hid (HF.out.step hf (fun _ _ h => h))
          have HE := Lib.hid hf
          clear hL hf hz
          go_wp2_with fail
          refine OnlyN.mk ⟨HE.out, ?_⟩
          clear HE
          obtain ⟨w45, hw45⟩ : ∃ X, X = w41.alloc (.cells #[.string seat0] 9) := ⟨_, rfl⟩
          rw [← hw45] at HK HL HF
          change wpSg _ _ _ _ _ _ (w41.alloc (.cells #[.string seat0] 9))
          rw [← hw45]
          clear hw45
          apply tree_m1
          exact rfl
          go_wp2_with fail
          refine (kn_seats3 HK.out).mono ?_
          rintro e w46 ⟨⟨ax46, cx46, rfl, hI⟩, hf⟩
          have HK := Lib.hid (HK.out.no hf)
          have HI := Lib.hid hI
          have HL := Lib.hid (HL.out.no hf (fun _ => id))
          have HF := Lib.hid (HF.out.step hf (fun _ _ h => h))
          go_wp2_with fail
          refine OnlyN.mk ⟨hf, ?_⟩
          clear hI hf
          apply tree_m1
          exact rfl
          go_wp2_with fail
          refine (same_texts ax46 (some ⟨w41.heap.size, 0, none⟩) cx46 1 [seat0] [seat0] _ HI.out HL.out).mono ?_
          rintro e w47 ⟨rfl, hf⟩
          rw [show sameT [seat0] [seat0] = true from by simp [sameT]]
          have HK := Lib.hid (HK.out.no hf)
          have HF := Lib.hid (HF.out.step hf (fun _ _ h => h))
          go_wp2_with fail
          refine OnlyN.mk ⟨hf, ?_⟩
          clear hf HI HL
          have g1 := HK.out.g
          repeat (apply tree_q; exact rfl; exact rfl; exact rfl; intro K0 hK0; go_big_quiet_op; go_big_quiet_on)
          clear g1
          refine tree_end ?_
          go_wp2_with fail
          go_ret
          exact ⟨rfl, HF.out⟩
  · skip
    have hf : Fr No w2 (w2.alloc (.cells #[.int .i64 4, .int .i64 3] 3)) := (Fr.refl _ _).alloc _
    have hL := ints_block (l := [4, 3]) (block_alloc w2 (.cells #[.int .i64 4, .int .i64 3] 3)) (by unfold maxLen; simp) (by decide)
    have hz : (w2.alloc (.cells #[.int .i64 4, .int .i64 3] 3)).heap.size = w2.heap.size + 1 := by simp
    have HK := Lib.hid (HK.out.no hf)
    have HL := Lib.hid hL
    have HF := Lib.hid (HF.out.step hf (fun _ _ h => h))
    have HE := Lib.hid hf
    clear hL hf hz
    go_wp2_with fail
    refine OnlyN.mk ⟨HE.out, ?_⟩
    clear HE
    obtain ⟨w48, hw48⟩ : ∃ X, X = w2.alloc (.cells #[.int .i64 4, .int .i64 3] 3) := ⟨_, rfl⟩
    rw [← hw48] at HK HL HF
    change wpSg _ _ _ _ _ _ (w2.alloc (.cells #[.int .i64 4, .int .i64 3] 3))
    rw [← hw48]
    clear hw48
    apply tree_m1
    exact rfl
    go_wp2_with fail
    refine (kn_devices HK.out).mono ?_
    rintro e w49 ⟨⟨ax49, cx49, rfl, hI⟩, hf⟩
    have HK := Lib.hid (HK.out.no hf)
    have HI := Lib.hid hI
    have HL := Lib.hid (HL.out.no hf (fun _ => id))
    have HF := Lib.hid (HF.out.step hf (fun _ _ h => h))
    go_wp2_with fail
    refine OnlyN.mk ⟨hf, ?_⟩
    clear hI hf
    apply tree_m1
    exact rfl
    go_wp2_with fail
    refine (ints_same ax49 (some ⟨w2.heap.size, 0, none⟩) cx49 2 [4, 3] [4, 3] _ HI.out HL.out).mono ?_
    rintro e w50 ⟨rfl, hf⟩
    have HK := Lib.hid (HK.out.no hf)
    have HF := Lib.hid (HF.out.step hf (fun _ _ h => h))
    go_wp2_with fail
    refine OnlyN.mk ⟨hf, ?_⟩
    clear hf HI HL
    have g1 := HK.out.g
    repeat (apply tree_q; exact rfl; exact rfl; exact rfl; intro K0 hK0; go_big_quiet_op; go_big_quiet_on)
    clear g1
    refine tree_m2 rfl rfl ?_ ?_
    · skip
      go_wp2_with fail
      refine (kn_masters HK.out).mono ?_
      rintro e w51 ⟨⟨ax51, cx51, rfl, hI⟩, hf⟩
      have HK := Lib.hid (HK.out.no hf)
      have HI := Lib.hid hI
      have HF := Lib.hid (HF.out.step hf (fun _ _ h => h))
      go_wp2_with fail
      refine OnlyN.mk ⟨hf, ?_⟩
      clear hI hf
      apply tree_m1
      exact rfl
      have hf : Fr No w51 (w51.alloc (.cells #[.int .i64 4] 3)) := (Fr.refl _ _).alloc _
      have hL := ints_block (l := [4]) (block_alloc w51 (.cells #[.int .i64 4] 3)) (by unfold maxLen; simp) (by decide)
      have hz : (w51.alloc (.cells #[.int .i64 4] 3)).heap.size = w51.heap.size + 1 := by simp
      have HK := Lib.hid (HK.out.no hf)
      have HL := Lib.hid hL
      have HF := Lib.hid (HF.out.step hf (fun _ _ h => h))
      have HI := Lib.hid (HI.out.no hf (fun _ => id))
      have HE := Lib.hid hf
      clear hL hf hz
      go_wp2_with fail
      refine OnlyN.mk ⟨HE.out, ?_⟩
      clear HE
      obtain ⟨w52, hw52⟩ : ∃ X, X = w51.alloc (.cells #[.int .i64 4] 3) := ⟨_, rfl⟩
      rw [← hw52] at HK HL HF HI
      change wpSg _ _ _ _ _ _ (w51.alloc (.cells #[.int .i64 4] 3))
      rw [← hw52]
      clear hw52
      apply tree_m1
      exact rfl
      go_wp2_with fail
      refine (ints_same ax51 (some ⟨w51.heap.size, 0, none⟩) cx51 1 [4] [4] _ HI.out HL.out).mono ?_
      rintro e w53 ⟨rfl, hf⟩
      have HK := Lib.hid (HK.out.no hf)
      have HF := Lib.hid (HF.out.step hf (fun _ _ h => h))
      go_wp2_with fail
      refine OnlyN.mk ⟨hf, ?_⟩
      clear hf HI HL
      have g1 := HK.out.g
      repeat (apply tree_q; exact rfl; exact rfl; exact rfl; intro K0 hK0; go_big_quiet_op; go_big_quiet_on)
      clear g1
      refine tree_m2 rfl rfl ?_ ?_
      · skip
        go_wp2_with fail
        refine (kn_seats HK.out).mono ?_
        rintro e w54 ⟨⟨ax54, cx54, rfl, hI⟩, hf⟩
        have HK := Lib.hid (HK.out.no hf)
        have HI := Lib.hid hI
        have HF := Lib.hid (HF.out.step hf (fun _ _ h => h))
        go_wp2_with fail
        refine OnlyN.mk ⟨hf, ?_⟩
        clear hI hf
        apply tree_m1
        exact rfl
        have hf : Fr No w54 (w54.alloc (.cells #[.string seat0, .string seat1] 9)) := (Fr.refl _ _).alloc _
        have hL := Strs.of_block (l := [seat0, seat1]) (block_alloc w54 (.cells #[.string seat0, .string seat1] 9)) (by unfold maxLen; simp)
        have hz : (w54.alloc (.cells #[.string seat0, .string seat1] 9)).heap.size = w54.heap.size + 1 := by simp
        have HK := Lib.hid (HK.out.no hf)
        have HL := Lib.hid hL
        have HF := Lib.hid (HF.out.step hf (fun _ _ h => h))
        have HI := Lib.hid (HI.out.no hf (fun _ => id))
        have HE := Lib.hid hf
        clear hL hf hz
        go_wp2_with fail
        refine OnlyN.mk ⟨HE.out, ?_⟩
        clear HE
        obtain ⟨w55, hw55⟩ : ∃ X, X = w54.alloc (.cells #[.string seat0, .string seat1] 9) := ⟨_, rfl⟩
        rw [← hw55] at HK HL HF HI
        change wpSg _ _ _ _ _ _ (w54.alloc (.cells #[.string seat0, .string seat1] 9))
        rw [← hw55]
        clear hw55
        apply tree_m1
        exact rfl
        go_wp2_with fail
        refine (same_texts ax54 (some ⟨w54.heap.size, 0, none⟩) cx54 2 [seat0, seat1] [seat0, seat1] _ HI.out HL.out).mono ?_
        rintro e w56 ⟨rfl, hf⟩
        rw [show sameT [seat0, seat1] [seat0, seat1] = true from by simp [sameT]]
        have HK := Lib.hid (HK.out.no hf)
        have HF := Lib.hid (HF.out.step hf (fun _ _ h => h))
        go_wp2_with fail
        refine OnlyN.mk ⟨hf, ?_⟩
        clear hf HI HL
        have g1 := HK.out.g
        repeat (apply tree_q; exact rfl; exact rfl; exact rfl; intro K0 hK0; go_big_quiet_op; go_big_quiet_on)
        clear g1
        refine tree_m2 rfl rfl ?_ ?_
        · skip
          go_wp2_with fail
          refine (kn_seats3 HK.out).mono ?_
          rintro e w57 ⟨⟨ax57, cx57, rfl, hI⟩, hf⟩
          have HK := Lib.hid (HK.out.no hf)
          have HI := Lib.hid hI
          have HF := Lib.hid (HF.out.step hf (fun _ _ h => h))
          go_wp2_with fail
          refine OnlyN.mk ⟨hf, ?_⟩
          clear hI hf
          apply tree_m1
          exact rfl
          have hf : Fr No w57 (w57.alloc (.cells #[.string seat0] 9)) := (Fr.refl _ _).alloc _
          have hL := Strs.of_block (l := [seat0]) (block_alloc w57 (.cells #[.string seat0] 9)) (by unfold maxLen; simp)
          have hz : (w57.alloc (.cells #[.string seat0] 9)).heap.size = w57.heap.size + 1 := by simp
          have HK := Lib.hid (HK.out.no hf)
          have HL := Lib.hid hL
          have HF := Lib.hid (HF.out.step hf (fun _ _ h => h))
          have HI := Lib.hid (HI.out.no hf (fun _ => id))
          have HE := Lib.hid hf
          clear hL hf hz
          go_wp2_with fail
          refine OnlyN.mk ⟨HE.out, ?_⟩
          clear HE
          obtain ⟨w58, hw58⟩ : ∃ X, X = w57.alloc (.cells #[.string seat0] 9) := ⟨_, rfl⟩
          rw [← hw58] at HK HL HF HI
          change wpSg _ _ _ _ _ _ (w57.alloc (.cells #[.string seat0] 9))
          rw [← hw58]
          clear hw58
          apply tree_m1
          exact rfl
          go_wp2_with fail
          refine (same_texts ax57 (some ⟨w57.heap.size, 0, none⟩) cx57 1 [seat0] [seat0] _ HI.out HL.out).mono ?_
          rintro e w59 ⟨rfl, hf⟩
          rw [show sameT [seat0] [seat0] = true from by simp [sameT]]
          have HK := Lib.hid (HK.out.no hf)
          have HF := Lib.hid (HF.out.step hf (fun _ _ h => h))
          go_wp2_with fail
          refine OnlyN.mk ⟨hf, ?_⟩
          clear hf HI HL
          have g1 := HK.out.g
          repeat (apply tree_q; exact rfl; exact rfl; exact rfl; intro K0 hK0; go_big_quiet_op; go_big_quiet_on)
          clear g1
          refine tree_end ?_
          go_wp2_with fail
          go_ret
          exact ⟨rfl, HF.out⟩
        · skip
          have hf : Fr No w56 (w56.alloc (.cells #[.string seat0] 9)) := (Fr.refl _ _).alloc _
          have hL := Strs.of_block (l := [seat0]) (block_alloc w56 (.cells #[.string seat0] 9)) (by unfold maxLen; simp)
          have hz : (w56.alloc (.cells #[.string seat0] 9)).heap.size = w56.heap.size + 1 := by simp
          have HK := Lib.hid (HK.out.no hf)
          have HL := Lib.hid hL
          have HF := Lib.hid (HF.out.step hf (fun _ _ h => h))
          have HE := Lib.hid hf
          clear hL hf hz
          go_wp2_with fail
          refine OnlyN.mk ⟨HE.out, ?_⟩
          clear HE
          obtain ⟨w60, hw60⟩ : ∃ X, X = w56.alloc (.cells #[.string seat0] 9) := ⟨_, rfl⟩
          rw [← hw60] at HK HL HF
          change wpSg _ _ _ _ _ _ (w56.alloc (.cells #[.string seat0] 9))
          rw [← hw60]
          clear hw60
          apply tree_m1
          exact rfl
          go_wp2_with fail
          refine (kn_seats3 HK.out).mono ?_
          rintro e w61 ⟨⟨ax61, cx61, rfl, hI⟩, hf⟩
          have HK := Lib.hid (HK.out.no hf)
          have HI := Lib.hid hI
          have HL := Lib.hid (HL.out.no hf (fun _ => id))
          have HF := Lib.hid (HF.out.step hf (fun _ _ h => h))
          go_wp2_with fail
          refine OnlyN.mk ⟨hf, ?_⟩
          clear hI hf
          apply tree_m1
          exact rfl
          go_wp2_with fail
          refine (same_texts ax61 (some ⟨w56.heap.size, 0, none⟩) cx61 1 [seat0] [seat0] _ HI.out HL.out).mono ?_
          rintro e w62 ⟨rfl, hf⟩
          rw [show sameT [seat0] [seat0] = true from by simp [sameT]]
          have HK := Lib.hid (HK.out.no hf)
          have HF := Lib.hid (HF.out.step hf (fun _ _ h => h))
          go_wp2_with fail
          refine OnlyN.mk ⟨hf, ?_⟩
          clear hf HI HL
          have g1 := HK.out.g
          repeat (apply tree_q; exact rfl; exact rfl; exact rfl; intro K0 hK0; go_big_quiet_op; go_big_quiet_on)
          clear g1
          refine tree_end ?_
          go_wp2_with fail
          go_ret
          exact ⟨rfl, HF.out⟩
      · skip
        have hf : Fr No w53 (w53.alloc (.cells #[.string seat0, .string seat1] 9)) := (Fr.refl _ _).alloc _
        have hL := Strs.of_block (l := [seat0, seat1]) (block_alloc w53 (.cells #[.string seat0, .string seat1] 9)) (by unfold maxLen; simp)
        have hz : (w53.alloc (.cells #[.string seat0, .string seat1] 9)).heap.size = w53.heap.size + 1 := by simp
        have HK := Lib.hid (HK.out.no hf)
        have HL := Lib.hid hL
        have HF := Lib.hid (HF.out.step hf (fun _ _ h => h))
        have HE := Lib.hid hf
        clear hL hf hz
        go_wp2_with fail
        refine OnlyN.mk ⟨HE.out, ?_⟩
        clear HE
        obtain ⟨w63, hw63⟩ : ∃ X, X = w53.alloc (.cells #[.string seat0, .string seat1] 9) := ⟨_, rfl⟩
        rw [← hw63] at HK HL HF
        change wpSg _ _ _ _ _ _ (w53.alloc (.cells #[.string seat0, .string seat1] 9))
        rw [← hw63]
        clear hw63
        apply tree_m1
        exact rfl
        go_wp2_with fail
        refine (kn_seats HK.out).mono ?_
        rintro e w64 ⟨⟨ax64, cx64, rfl, hI⟩, hf⟩
        have HK := Lib.hid (HK.out.no hf)
        have HI := Lib.hid hI
        have HL := Lib.hid (HL.out.no hf (fun _ => id))
        have HF := Lib.hid (HF.out.step hf (fun _ _ h => h))
        go_wp2_with fail
        refine OnlyN.mk ⟨hf, ?_⟩
        clear hI hf
        apply tree_m1
        exact rfl
        go_wp2_with fail
        refine (same_texts ax64 (some ⟨w53.heap.size, 0, none⟩) cx64 2 [seat0, seat1] [seat0, seat1] _ HI.out HL.out).mono ?_
        rintro e w65 ⟨rfl, hf⟩
        rw [show sameT [seat0, seat1] [seat0, seat1] = true from by simp [sameT]]
        have HK := Lib.hid (HK.out.no hf)
        have HF := Lib.hid (HF.out.step hf (fun _ _ h => h))
        go_wp2_with fail
        refine OnlyN.mk ⟨hf, ?_⟩
        clear hf HI HL
        have g1 := HK.out.g
        repeat (apply tree_q; exact rfl; exact rfl; exact rfl; intro K0 hK0; go_big_quiet_op; go_big_quiet_on)
        clear g1
        refine tree_m2 rfl rfl ?_ ?_
        · skip
          go_wp2_with fail
          refine (kn_seats3 HK.out).mono ?_
          rintro e w66 ⟨⟨ax66, cx66, rfl, hI⟩, hf⟩
          have HK := Lib.hid (HK.out.no hf)
          have HI := Lib.hid hI
          have HF := Lib.hid (HF.out.step hf (fun _ _ h => h))
          go_wp2_with fail
          refine OnlyN.mk ⟨hf, ?_⟩
          clear hI hf
          apply tree_m1
          exact rfl
          have hf : Fr No w66 (w66.alloc (.cells #[.string seat0] 9)) := (Fr.refl _ _).alloc _
          have hL := Strs.of_block (l := [seat0]) (block_alloc w66 (.cells #[.string seat0] 9)) (by unfold maxLen; simp)
          have hz : (w66.alloc (.cells #[.string seat0] 9)).heap.size = w66.heap.size + 1 := by simp
          have HK := Lib.hid (HK.out.no hf)
          have HL := Lib.hid hL
          have HF := Lib.hid (HF.out.step hf (fun _ _ h => h))
          have HI := Lib.hid (HI.out.no hf (fun _ => id))
          have HE := Lib.hid hf
          clear hL hf hz
          go_wp2_with fail
          refine OnlyN.mk ⟨HE.out, ?_⟩
          clear HE
          obtain ⟨w67, hw67⟩ : ∃ X, X = w66.alloc (.cells #[.string seat0] 9) := ⟨_, rfl⟩
          rw [← hw67] at HK HL HF HI
          change wpSg _ _ _ _ _ _ (w66.alloc (.cells #[.string seat0] 9))
          rw [← hw67]
          clear hw67
          apply tree_m1
          exact rfl
          go_wp2_with fail
          refine (same_texts ax66 (some ⟨w66.heap.size, 0, none⟩) cx66 1 [seat0] [seat0] _ HI.out HL.out).mono ?_
          rintro e w68 ⟨rfl, hf⟩
          rw [show sameT [seat0] [seat0] = true from by simp [sameT]]
          have HK := Lib.hid (HK.out.no hf)
          have HF := Lib.hid (HF.out.step hf (fun _ _ h => h))
          go_wp2_with fail
          refine OnlyN.mk ⟨hf, ?_⟩
          clear hf HI HL
          have g1 := HK.out.g
          repeat (apply tree_q; exact rfl; exact rfl; exact rfl; intro K0 hK0; go_big_quiet_op; go_big_quiet_on)
          clear g1
          refine tree_end ?_
          go_wp2_with fail
          go_ret
          exact ⟨rfl, HF.out⟩
        · skip
          have hf : Fr No w65 (w65.alloc (.cells #[.string seat0] 9)) := (Fr.refl _ _).alloc _
          have hL := Strs.of_block (l := [seat0]) (block_alloc w65 (.cells #[.string seat0] 9)) (by unfold maxLen; simp)
          have hz : (w65.alloc (.cells #[.string seat0] 9)).heap.size = w65.heap.size + 1 := by simp
          have HK := Lib.hid (HK.out.no hf)
          have HL := Lib.hid hL
          have HF := Lib.hid (HF.out.step hf (fun _ _ h => h))
          have HE := Lib.hid hf
          clear hL hf hz
          go_wp2_with fail
          refine OnlyN.mk ⟨HE.out, ?_⟩
          clear HE
          obtain ⟨w69, hw69⟩ : ∃ X, X = w65.alloc (.cells #[.string seat0] 9) := ⟨_, rfl⟩
          rw [← hw69] at HK HL HF
          change wpSg _ _ _ _ _ _ (w65.alloc (.cells #[.string seat0] 9))
          rw [← hw69]
          clear hw69
          apply tree_m1
          exact rfl
          go_wp2_with fail
          refine (kn_seats3 HK.out).mono ?_
          rintro e w70 ⟨⟨ax70, cx70, rfl, hI⟩, hf⟩
          have HK := Lib.hid (HK.out.no hf)
          have HI := Lib.hid hI
          have HL := Lib.hid (HL.out.no hf (fun _ => id))
          have HF := Lib.hid (HF.out.step hf (fun _ _ h => h))
          go_wp2_with fail
          refine OnlyN.mk ⟨hf, ?_⟩
          clear hI hf
          apply tree_m1
          exact rfl
          go_wp2_with fail
          refine (same_texts ax70 (some ⟨w65.heap.size, 0, none⟩) cx70 1 [seat0] [seat0] _ HI.out HL.out).mono ?_
          rintro e w71 ⟨rfl, hf⟩
          rw [show sameT [seat0] [seat0] = true from by simp [sameT]]
          have HK := Lib.hid (HK.out.no hf)
          have HF := Lib.hid (HF.out.step hf (fun _ _ h => h))
          go_wp2_with fail
          refine OnlyN.mk ⟨hf, ?_⟩
          clear hf HI HL
          have g1 := HK.out.g
          repeat (apply tree_q; exact rfl; exact rfl; exact rfl; intro K0 hK0; go_big_quiet_op; go_big_quiet_on)
          clear g1
          refine tree_end ?_
          go_wp2_with fail
          go_ret
          exact ⟨rfl, HF.out⟩
    · skip
      have hf : Fr No w50 (w50.alloc (.cells #[.int .i64 4] 3)) := (Fr.refl _ _).alloc _
      have hL := ints_block (l := [4]) (block_alloc w50 (.cells #[.int .i64 4] 3)) (by unfold maxLen; simp) (by decide)
      have hz : (w50.alloc (.cells #[.int .i64 4] 3)).heap.size = w50.heap.size + 1 := by simp
      have HK := Lib.hid (HK.out.no hf)
      have HL := Lib.hid hL
      have HF := Lib.hid (HF.out.step hf (fun _ _ h => h))
      have HE := Lib.hid hf
      clear hL hf hz
      go_wp2_with fail
      refine OnlyN.mk ⟨HE.out, ?_⟩
      clear HE
      obtain ⟨w72, hw72⟩ : ∃ X, X = w50.alloc (.cells #[.int .i64 4] 3) := ⟨_, rfl⟩
      rw [← hw72] at HK HL HF
      change wpSg _ _ _ _ _ _ (w50.alloc (.cells #[.int .i64 4] 3))
      rw [← hw72]
      clear hw72
      apply tree_m1
      exact rfl
      go_wp2_with fail
      refine (kn_masters HK.out).mono ?_
      rintro e w73 ⟨⟨ax73, cx73, rfl, hI⟩, hf⟩
      have HK := Lib.hid (HK.out.no hf)
      have HI := Lib.hid hI
      have HL := Lib.hid (HL.out.no hf (fun _ => id))
      have HF := Lib.hid (HF.out.step hf (fun _ _ h => h))
      go_wp2_with fail
      refine OnlyN.mk ⟨hf, ?_⟩
      clear hI hf
      apply tree_m1
      exact rfl
      go_wp2_with fail
      refine (ints_same ax73 (some ⟨w50.heap.size, 0, none⟩) cx73 1 [4] [4] _ HI.out HL.out).mono ?_
      rintro e w74 ⟨rfl, hf⟩
      have HK := Lib.hid (HK.out.no hf)
      have HF := Lib.hid (HF.out.step hf (fun _ _ h => h))
      go_wp2_with fail
      refine OnlyN.mk ⟨hf, ?_⟩
      clear hf HI HL
      have g1 := HK.out.g
      repeat (apply tree_q; exact rfl; exact rfl; exact rfl; intro K0 hK0; go_big_quiet_op; go_big_quiet_on)
      clear g1
      refine tree_m2 rfl rfl ?_ ?_
      · skip
        go_wp2_with fail
        refine (kn_seats HK.out).mono ?_
        rintro e w75 ⟨⟨ax75, cx75, rfl, hI⟩, hf⟩
        have HK := Lib.hid (HK.out.no hf)
        have HI := Lib.hid hI
        have HF := Lib.hid (HF.out.step hf (fun _ _ h => h))
        go_wp2_with fail
        refine OnlyN.mk ⟨hf, ?_⟩
        clear hI hf
        apply tree_m1
        exact rfl
        have hf : Fr No w75 (w75.alloc (.cells #[.string seat0, .string seat1] 9)) := (Fr.refl _ _).alloc _
        have hL := Strs.of_block (l := [seat0, seat1]) (block_alloc w75 (.cells #[.string seat0, .string seat1] 9)) (by unfold maxLen; simp)
        have hz : (w75.alloc (.cells #[.string seat0, .string seat1] 9)).heap.size = w75.heap.size + 1 := by simp
        have HK := Lib.hid (HK.out.no hf)
        have HL := Lib.hid hL
        have HF := Lib.hid (HF.out.step hf (fun _ _ h => h))
        have HI := Lib.hid (HI.out.no hf (fun _ => id))
        have HE := Lib.hid hf
        clear hL hf hz
        go_wp2_with fail
        refine OnlyN.mk ⟨HE.out, ?_⟩
        clear HE
        obtain ⟨w76, hw76⟩ : ∃ X, X = w75.alloc (.cells #[.string seat0, .string seat1] 9) := ⟨_, rfl⟩
        rw [← hw76] at HK HL HF HI
        change wpSg _ _ _ _ _ _ (w75.alloc (.cells #[.string seat0, .string seat1] 9))
        rw [← hw76]
        clear hw76
        apply tree_m1
        exact rfl
        go_wp2_with fail
        refine (same_texts ax75 (some ⟨w75.heap.size, 0, none⟩) cx75 2 [seat0, seat1] [seat0, seat1] _ HI.out HL.out).mono ?_
        rintro e w77 ⟨rfl, hf⟩
        rw [show sameT [seat0, seat1] [seat0, seat1] = true from by simp [sameT]]
        have HK := Lib.hid (HK.out.no hf)
        have HF := Lib.hid (HF.out.step hf (fun _ _ h => h))
        go_wp2_with fail
        refine OnlyN.mk ⟨hf, ?_⟩
        clear hf HI HL
        have g1 := HK.out.g
        repeat (apply tree_q; exact rfl; exact rfl; exact rfl; intro K0 hK0; go_big_quiet_op; go_big_quiet_on)
        clear g1
        refine tree_m2 rfl rfl ?_ ?_
        · skip
          go_wp2_with fail
          refine (kn_seats3 HK.out).mono ?_
          rintro e w78 ⟨⟨ax78, cx78, rfl, hI⟩, hf⟩
          have HK := Lib.hid (HK.out.no hf)
          have HI := Lib.hid hI
          have HF := Lib.hid (HF.out.step hf (fun _ _ h => h))
          go_wp2_with fail
          refine OnlyN.mk ⟨hf, ?_⟩
          clear hI hf
          apply tree_m1
          exact rfl
          have hf : Fr No w78 (w78.alloc (.cells #[.string seat0] 9)) := (Fr.refl _ _).alloc _
          have hL := Strs.of_block (l := [seat0]) (block_alloc w78 (.cells #[.string seat0] 9)) (by unfold maxLen; simp)
          have hz : (w78.alloc (.cells #[.string seat0] 9)).heap.size = w78.heap.size + 1 := by simp
          have HK := Lib.hid (HK.out.no hf)
          have HL := Lib.hid hL
          have HF := Lib.hid (HF.out.step hf (fun _ _ h => h))
          have HI := Lib.hid (HI.out.no hf (fun _ => id))
          have HE := Lib.hid hf
          clear hL hf hz
          go_wp2_with fail
          refine OnlyN.mk ⟨HE.out, ?_⟩
          clear HE
          obtain ⟨w79, hw79⟩ : ∃ X, X = w78.alloc (.cells #[.string seat0] 9) := ⟨_, rfl⟩
          rw [← hw79] at HK HL HF HI
          change wpSg _ _ _ _ _ _ (w78.alloc (.cells #[.string seat0] 9))
          rw [← hw79]
          clear hw79
          apply tree_m1
          exact rfl
          go_wp2_with fail
          refine (same_texts ax78 (some ⟨w78.heap.size, 0, none⟩) cx78 1 [seat0] [seat0] _ HI.out HL.out).mono ?_
          rintro e w80 ⟨rfl, hf⟩
          rw [show sameT [seat0] [seat0] = true from by simp [sameT]]
          have HK := Lib.hid (HK.out.no hf)
          have HF := Lib.hid (HF.out.step hf (fun _ _ h => h))
          go_wp2_with fail
          refine OnlyN.mk ⟨hf, ?_⟩
          clear hf HI HL
          have g1 := HK.out.g
          repeat (apply tree_q; exact rfl; exact rfl; exact rfl; intro K0 hK0; go_big_quiet_op; go_big_quiet_on)
          clear g1
          refine tree_end ?_
          go_wp2_with fail
          go_ret
          exact ⟨rfl, HF.out⟩
        · skip
          have hf : Fr No w77 (w77.alloc (.cells #[.string seat0] 9)) := (Fr.refl _ _).alloc _
          have hL := Strs.of_block (l := [seat0]) (block_alloc w77 (.cells #[.string seat0] 9)) (by unfold maxLen; simp)
          have hz : (w77.alloc (.cells #[.string seat0] 9)).heap.size = w77.heap.size + 1 := by simp
          have HK := Lib.hid (HK.out.no hf)
          have HL := Lib.hid hL
          have HF := Lib.hid (HF.out.step hf (fun _ _ h => h))
          have HE := Lib.hid hf
          clear hL hf hz
          go_wp2_with fail
          refine OnlyN.mk ⟨HE.out, ?_⟩
          clear HE
          obtain ⟨w81, hw81⟩ : ∃ X, X = w77.alloc (.cells #[.string seat0] 9) := ⟨_, rfl⟩
          rw [← hw81] at HK HL HF
          change wpSg _ _ _ _ _ _ (w77.alloc (.cells #[.string seat0] 9))
          rw [← hw81]
          clear hw81
          apply tree_m1
          exact rfl
          go_wp2_with fail
          refine (kn_seats3 HK.out).mono ?_
          rintro e w82 ⟨⟨ax82, cx82, rfl, hI⟩, hf⟩
          have HK := Lib.hid (HK.out.no hf)
          have HI := Lib.hid hI
          have HL := Lib.hid (HL.out.no hf (fun _ => id))
          have HF := Lib.hid (HF.out.step hf (fun _ _ h => h))
          go_wp2_with fail
          refine OnlyN.mk ⟨hf, ?_⟩
          clear hI hf
          apply tree_m1
          exact rfl
          go_wp2_with fail
          refine (same_texts ax82 (some ⟨w77.heap.size, 0, none⟩) cx82 1 [seat0] [seat0] _ HI.out HL.out).mono ?_
          rintro e w83 ⟨rfl, hf⟩
          rw [show sameT [seat0] [seat0] = true from by simp [sameT]]
          have HK := Lib.hid (HK.out.no hf)
          have HF := Lib.hid (HF.out.step hf (fun _ _ h => h))
          go_wp2_with fail
          refine OnlyN.mk ⟨hf, ?_⟩
          clear hf HI HL
          have g1 := HK.out.g
          repeat (apply tree_q; exact rfl; exact rfl; exact rfl; intro K0 hK0; go_big_quiet_op; go_big_quiet_on)
          clear g1
          refine tree_end ?_
          go_wp2_with fail
          go_ret
          exact ⟨rfl, HF.out⟩
      · skip
        have hf : Fr No w74 (w74.alloc (.cells #[.string seat0, .string seat1] 9)) := (Fr.refl _ _).alloc _
        have hL := Strs.of_block (l := [seat0, seat1]) (block_alloc w74 (.cells #[.string seat0, .string seat1] 9)) (by unfold maxLen; simp)
        have hz : (w74.alloc (.cells #[.string seat0, .string seat1] 9)).heap.size = w74.heap.size + 1 := by simp
        have HK := Lib.hid (HK.out.no hf)
        have HL := Lib.hid hL
        have HF := Lib.hid (HF.out.step hf (fun _ _ h => h))
        have HE := Lib.hid hf
        clear hL hf hz
        go_wp2_with fail
        refine OnlyN.mk ⟨HE.out, ?_⟩
        clear HE
        obtain ⟨w84, hw84⟩ : ∃ X, X = w74.alloc (.cells #[.string seat0, .string seat1] 9) := ⟨_, rfl⟩
        rw [← hw84] at HK HL HF
        change wpSg _ _ _ _ _ _ (w74.alloc (.cells #[.string seat0, .string seat1] 9))
        rw [← hw84]
        clear hw84
        apply tree_m1
        exact rfl
        go_wp2_with fail
        refine (kn_seats HK.out).mono ?_
        rintro e w85 ⟨⟨ax85, cx85, rfl, hI⟩, hf⟩
        have HK := Lib.hid (HK.out.no hf)
        have HI := Lib.hid hI
        have HL := Lib.hid (HL.out.no hf (fun _ => id))
        have HF := Lib.hid (HF.out.step hf (fun _ _ h => h))
        go_wp2_with fail
        refine OnlyN.mk ⟨hf, ?_⟩
        clear hI hf
        apply tree_m1
        exact rfl
        go_wp2_with fail
        refine (same_texts ax85 (some ⟨w74.heap.size, 0, none⟩) cx85 2 [seat0, seat1] [seat0, seat1] _ HI.out HL.out).mono ?_
        rintro e w86 ⟨rfl, hf⟩
        rw [show sameT [seat0, seat1] [seat0, seat1] = true from by simp [sameT]]
        have HK := Lib.hid (HK.out.no hf)
        have HF := Lib.hid (HF.out.step hf (fun _ _ h => h))
        go_wp2_with fail
        refine OnlyN.mk ⟨hf, ?_⟩
        clear hf HI HL
        have g1 := HK.out.g
        repeat (apply tree_q; exact rfl; exact rfl; exact rfl; intro K0 hK0; go_big_quiet_op; go_big_quiet_on)
        clear g1
        refine tree_m2 rfl rfl ?_ ?_
        · skip
          go_wp2_with fail
          refine (kn_seats3 HK.out).mono ?_
          rintro e w87 ⟨⟨ax87, cx87, rfl, hI⟩, hf⟩
          have HK := Lib.hid (HK.out.no hf)
          have HI := Lib.hid hI
          have HF := Lib.hid (HF.out.step hf (fun _ _ h => h))
          go_wp2_with fail
          refine OnlyN.mk ⟨hf, ?_⟩
          clear hI hf
          apply tree_m1
          exact rfl
          have hf : Fr No w87 (w87.alloc (.cells #[.string seat0] 9)) := (Fr.refl _ _).alloc _
          have hL := Strs.of_block (l := [seat0]) (block_alloc w87 (.cells #[.string seat0] 9)) (by unfold maxLen; simp)
          have hz : (w87.alloc (.cells #[.string seat0] 9)).heap.size = w87.heap.size + 1 := by simp
          have HK := Lib.hid (HK.out.no hf)
          have HL := Lib.hid hL
          have HF := Lib.hid (HF.out.step hf (fun _ _ h => h))
          have HI := Lib.hid (HI.out.no hf (fun _ => id))
          have HE := Lib.hid hf
          clear hL hf hz
          go_wp2_with fail
          refine OnlyN.mk ⟨HE.out, ?_⟩
          clear HE
          obtain ⟨w88, hw88⟩ : ∃ X, X = w87.alloc (.cells #[.string seat0] 9) := ⟨_, rfl⟩
          rw [← hw88] at HK HL HF HI
          change wpSg _ _ _ _ _ _ (w87.alloc (.cells #[.string seat0] 9))
          rw [← hw88]
          clear hw88
          apply tree_m1
          exact rfl
          go_wp2_with fail
          refine (same_texts ax87 (some ⟨w87.heap.size, 0, none⟩) cx87 1 [seat0] [seat0] _ HI.out HL.out).mono ?_
          rintro e w89 ⟨rfl, hf⟩
          rw [show sameT [seat0] [seat0] = true from by simp [sameT]]
          have HK := Lib.hid (HK.out.no hf)
          have HF := Lib.hid (HF.out.step hf (fun _ _ h => h))
          go_wp2_with fail
          refine OnlyN.mk ⟨hf, ?_⟩
          clear hf HI HL
          have g1 := HK.out.g
          repeat (apply tree_q; exact rfl; exact rfl; exact rfl; intro K0 hK0; go_big_quiet_op; go_big_quiet_on)
          clear g1
          refine tree_end ?_
          go_wp2_with fail
          go_ret
          exact ⟨rfl, HF.out⟩
        · skip
          have hf : Fr No w86 (w86.alloc (.cells #[.string seat0] 9)) := (Fr.refl _ _).alloc _
          have hL := Strs.of_block (l := [seat0]) (block_alloc w86 (.cells #[.string seat0] 9)) (by unfold maxLen; simp)
          have hz : (w86.alloc (.cells #[.string seat0] 9)).heap.size = w86.heap.size + 1 := by simp
          have HK := Lib.hid (HK.out.no hf)
          have HL := Lib.hid hL
          have HF := Lib.hid (HF.out.step hf (fun _ _ h => h))
          have HE := Lib.hid hf
          clear hL hf hz
          go_wp2_with fail
          refine OnlyN.mk ⟨HE.out, ?_⟩
          clear HE
          obtain ⟨w90, hw90⟩ : ∃ X, X = w86.alloc (.cells #[.string seat0] 9) := ⟨_, rfl⟩
          rw [← hw90] at HK HL HF
          change wpSg _ _ _ _ _ _ (w86.alloc (.cells #[.string seat0] 9))
          rw [← hw90]
          clear hw90
          apply tree_m1
          exact rfl
          go_wp2_with fail
          refine (kn_seats3 HK.out).mono ?_
          rintro e w91 ⟨⟨ax91, cx91, rfl, hI⟩, hf⟩
          have HK := Lib.hid (HK.out.no hf)
          have HI := Lib.hid hI
          have HL := Lib.hid (HL.out.no hf (fun _ => id))
          have HF := Lib.hid (HF.out.step hf (fun _ _ h => h))
          go_wp2_with fail
          refine OnlyN.mk ⟨hf, ?_⟩
          clear hI hf
          apply tree_m1
          exact rfl
          go_wp2_with fail
          refine (same_texts ax91 (some ⟨w86.heap.size, 0, none⟩) cx91 1 [seat0] [seat0] _ HI.out HL.out).mono ?_
          rintro e w92 ⟨rfl, hf⟩
          rw [show sameT [seat0] [seat0] = true from by simp [sameT]]
          have HK := Lib.hid (HK.out.no hf)
          have HF := Lib.hid (HF.out.step hf (fun _ _ h => h))
          go_wp2_with fail
          refine OnlyN.mk ⟨hf, ?_⟩
          clear hf HI HL
          have g1 := HK.out.g
          repeat (apply tree_q; exact rfl; exact rfl; exact rfl; intro K0 hK0; go_big_quiet_op; go_big_quiet_on)
          clear g1
          refine tree_end ?_
          go_wp2_with fail
          go_ret
          exact ⟨rfl, HF.out⟩
end Go.Proofs.YtpnpjaemlflplaaGreatDoor
