/- few of chapter 34; small facts on arrays. -/
import Derived.Test.YtbblkknndaoefaaGreatDoorZV14
import Derived.Test.YtbblkknndaoefaaGreatDoorZV6
import Derived.Test.YtbblkknndaoefaaGreatDoorZV12
namespace Go.Proofs.YtbblkknndaoefaaGreatDoor
open Go.RowKit Go.Maps
set_option linter.unusedVariables false

set_option maxRecDepth 100000 in
set_option maxHeartbeats 4000000 in
theorem few34 (a : Option Addr) (cap : Nat) (L : List Mem) (w : World) (hl : Mems w a cap L) (hL : ∀ m ∈ L, MemIn m) :
    Calls Tryz.prog 43 #[.slice a L.length cap] w fun e w' => FewR L [] e ∧ Fr No w w' := by
  have hlm := hl.lenmax
  by_cases h40 : L.length ≤ 40
  · have HL := Lib.hid hL
    clear hL
    go_enter Tryz.func43, Tryz.ntmps43
    go_wp2_with fail
    go_loopw [3, 4] (fun n i wr => ∃ k : Nat, k ≤ L.length ∧ n = .int .i64 (sumM (L.take k) : Nat) ∧ i = .int .i64 (k : Int) ∧ Fr No w wr) (fun _ i _ => L.length - (intOf i).toNat)
    case atStart => exact ⟨0, by omega, by simp [sumM], rfl, Fr.refl _ _⟩
    case round =>
      obtain ⟨k, hk1, rfl, rfl, hf⟩ := hrel
      by_cases hlt : k < L.length
      · have hlt' : (k : Int) < L.length := by omega
        have hb1 := sumM_bound (L := L.take k) (fun m hm => HL.out m (List.mem_of_mem_take hm))
        rw [List.length_take] at hb1
        have hb2 : sumM (L.take k) ≤ 40 * 422212465065984 := by
          have : min k L.length ≤ 40 := by omega
          exact Nat.le_trans hb1 (Nat.mul_le_mul_right _ this)
        go_wp2_with fail
        refine region_sig No [(0, false), (1, false), (2, false), (3, false), (4, false), (5, false), (6, false), (7, false), (8, false), (9, false), (10, false), (11, false), (12, false), (13, false), (14, false), (15, false), (16, false), (17, false), (18, false), (19, false), (20, false), (21, false), (22, false)] (by kernel_rfl) (by kernel_rfl) (fun w0 hf0 => ?_)
        have hf1 := hf.step hf0 (fun _ _ h => h)
        obtain ⟨mb, mo, m, rfl, hmk, _, ⟨c0, c1, c2, c3, c4, c5, c6⟩, _⟩ := (hl.no hf1 (fun _ => id)).elem hlt
        have hin := HL.out m (List.mem_of_getElem? hmk)
        have hz1 : m.p.size ≤ 140737488351232 := hin.p
        have hz2 : m.i.size ≤ 140737488351232 := hin.i
        have hz3 : m.l.length * 16 ≤ 140737488351232 := hin.l.n
        have Hs := Lib.hid (sumM_take hmk)
        have g0 : ∀ g : Gr No w0, g.W.cell? ⟨mb, mo + k * 7, none⟩ = some (.string m.p) := fun g => g.fr.cell c0 id
        have g1 : ∀ g : Gr No w0, g.W.cell? ⟨mb, mo + k * 7 + 1, none⟩ = some (.string m.i) := fun g => g.fr.cell c1 id
        have g6 : ∀ g : Gr No w0, g.W.cell? ⟨mb, mo + k * 7 + 6, none⟩ = some (.slice m.a m.l.length m.c) := fun g => g.fr.cell c6 id
        have Hf1 := Lib.hid hf1
        clear c0 c1 c2 c3 c4 c5 c6 hmk hf0 hf hf1 hin hb1
        repeat (first | (apply sig_q; exact rfl; exact rfl; exact rfl; intro K hK; go_big_quiet_op; go_big_quiet_on) | (apply sig_skip; exact rfl; exact rfl; exact rfl; intro K hK; go_big_quiet_op; go_big_quiet_on))
        refine sig_end ?_
        clear g0 g1 g6
        go_wp2_with fail
        go_roundw
        case rel => exact ⟨k + 1, by omega, by rw [Hs.out]; go_num, by go_num, Hf1.out⟩
        case measure => simp [intOf]; omega
      · obtain rfl : k = L.length := by omega
        rw [List.take_length]
        have h1' : (L.length : Int) ≤ 40 := by omega
        by_cases hs : sumM L ≤ 2000
        · have hs' : ((sumM L : Nat) : Int) ≤ 2000 := by omega
          have Hok : Hid (FewOk L []) := FewOk.of h40 (by simp) (by simpa [sumK] using hs)
          clear hs
          go_wp2_with fail
          go_ret
          exact ⟨⟨_, rfl, fun _ => Hok.out⟩, hf⟩
        · have hs' : ¬ ((sumM L : Nat) : Int) ≤ 2000 := by omega
          clear hs
          go_wp2_with fail
          go_ret
          exact ⟨⟨_, rfl, fun h => by simp at h⟩, hf⟩
  · clear hL
    go_enter Tryz.func43, Tryz.ntmps43
    go_wp2_with fail
    go_loopw [3, 4] (fun n i wr => ∃ (k : Nat) (z : Int), k ≤ L.length ∧ n = .int .i64 z ∧ i = .int .i64 (k : Int) ∧ Fr No w wr) (fun _ i _ => L.length - (intOf i).toNat)
    case atStart => exact ⟨0, 0, by omega, rfl, rfl, Fr.refl _ _⟩
    case round =>
      obtain ⟨k, z, hk1, rfl, rfl, hf⟩ := hrel
      by_cases hlt : k < L.length
      · have hlt' : (k : Int) < L.length := by omega
        go_wp2_with fail
        refine region_sig No [(0, false), (1, false), (2, false), (3, false), (4, false), (5, false), (6, false), (7, false), (8, false), (9, false), (10, false), (11, false), (12, false), (13, false), (14, false), (15, false), (16, false), (17, false), (18, false), (19, false), (20, false), (21, false), (22, false)] (by kernel_rfl) (by kernel_rfl) (fun w0 hf0 => ?_)
        have hf1 := hf.step hf0 (fun _ _ h => h)
        obtain ⟨mb, mo, m, rfl, hmk, _, ⟨c0, c1, c2, c3, c4, c5, c6⟩, _⟩ := (hl.no hf1 (fun _ => id)).elem hlt
        have g0 : ∀ g : Gr No w0, g.W.cell? ⟨mb, mo + k * 7, none⟩ = some (.string m.p) := fun g => g.fr.cell c0 id
        have g1 : ∀ g : Gr No w0, g.W.cell? ⟨mb, mo + k * 7 + 1, none⟩ = some (.string m.i) := fun g => g.fr.cell c1 id
        have g6 : ∀ g : Gr No w0, g.W.cell? ⟨mb, mo + k * 7 + 6, none⟩ = some (.slice m.a m.l.length m.c) := fun g => g.fr.cell c6 id
        have Hf1 := Lib.hid hf1
        clear c0 c1 c2 c3 c4 c5 c6 hmk hf0 hf hf1
        repeat (first | (apply sig_q; exact rfl; exact rfl; exact rfl; intro K hK; go_big_quiet_op; go_big_quiet_on) | (apply sig_skip; exact rfl; exact rfl; exact rfl; intro K hK; go_big_quiet_op; go_big_quiet_on))
        refine sig_end ?_
        clear g0 g1 g6
        go_wp2_with fail
        go_roundw
        case rel => exact ⟨k + 1, _, by omega, rfl, by go_num, Hf1.out⟩
        case measure => simp [intOf]; omega
      · obtain rfl : k = L.length := by omega
        have h1' : ¬ (L.length : Int) ≤ 40 := by omega
        by_cases hz : z ≤ 2000
        · go_wp2_with fail
          go_ret
          exact ⟨⟨_, rfl, fun h => by simp at h⟩, hf⟩
        · go_wp2_with fail
          go_ret
          exact ⟨⟨_, rfl, fun h => by simp at h⟩, hf⟩

theorem firstOf_cases {good : Mem → Bool} (L : List Mem) (x : ByteArray) : firstOf (best2 good L) x = Mem.zero ∨ (firstOf (best2 good L) x ∈ L ∧ good (firstOf (best2 good L) x) = true) := by
  unfold firstOf
  rcases hg1 : best2 good L (x, leastSlot (best2 good L) x) with _ | m
  · exact .inl rfl
  · obtain ⟨h1, h2, _⟩ := best2_mem L _ m hg1
    exact .inr ⟨h1, h2⟩
/-- The sizes of an array of small members. -/
theorem arr_small {good : Mem → Bool} {L : List Mem} (h : MemSmall2 L) (hg : ∀ m, good m = true → 1 ≤ m.t ∧ m.t ≤ 16) {x : ByteArray} (hx : x ∈ idsW (L.filter good)) :
    (buildA (best2 good L) x).i.size ≤ 1000000 ∧ (buildA (best2 good L) x).l.length ≤ 1000000 ∧ (buildA (best2 good L) x).ps.length ≤ 16 := by
  obtain ⟨m, hm, rfl⟩ := ((idsW_ok _).2.1 x).1 hx
  refine ⟨h.i m (List.mem_filter.1 hm).1, ?_, ?_⟩
  · unfold buildA
    dsimp only
    rcases firstOf_cases (good := good) L m.i with e | ⟨h1, _⟩
    · rw [e]; simp [Mem.zero]
    · exact h.l _ h1
  · unfold buildA
    dsimp only
    rw [List.length_map, List.length_range]
    rcases firstOf_cases (good := good) L m.i with e | ⟨_, h2⟩
    · rw [e]; simp [Mem.zero]
    · have := hg _ h2; omega
theorem sound_t : ∀ m, soundB m = true → 1 ≤ m.t ∧ m.t ≤ 16 := fun m h => by
  unfold soundB at h
  simp only [Bool.and_eq_true, decide_eq_true_eq] at h
  exact h.2
end Go.Proofs.YtbblkknndaoefaaGreatDoor
