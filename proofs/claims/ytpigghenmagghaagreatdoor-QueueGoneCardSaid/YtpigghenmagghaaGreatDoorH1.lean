/- QueueGone: the walk. -/
import Derived.Test.YtpigghenmagghaaGreatDoorG6
import Derived.Test.YtpigghenmagghaaGreatDoorQA
namespace Go.Proofs.YtpigghenmagghaaGreatDoor
open Go.RowKit Go.Maps Go.Sort Go.Shelf
set_option linter.unusedVariables false

theorem asc_mem {l l' : List Int} {f : Int → Bool} (h1 : Asc l) (h2 : Asc l') (m1 : ∀ x, x ∈ l ↔ f x = true) (m2 : ∀ x, x ∈ l' ↔ f x = true) : l = l' := Asc.ext h1 h2 (fun x => by rw [m1, m2])

section
variable {w : World} {qb b1 b2 : Nat}
/-- The start of a law's state, behind a tape that was read. -/
theorem St.begin {W0 w1 : World} {tb k : Nat} (hfr : Fr (From w.heap.size) w W0) (ht : Tape W0 w.heap.size tb k) {T : TypeId}
    (hq : Que w1 qb b1 b2 (fun _ => false) (fun _ => false) 0) (e0 : W0.heap.size ≤ qb) (e1 : W0.heap.size ≤ b1) (e2 : W0.heap.size ≤ b2) (hf : Fr No W0 w1) :
    St w (w1.alloc (.cells #[.slice none 0 0, .slice none 0 0] T)) tb k qb b1 b2 w1.heap.size none 0 [] none 0 [] (fun _ => false) (fun _ => false) 0 := by
  have hx : Fr No w1 (w1.alloc (.cells #[.slice none 0 0, .slice none 0 0] T)) := (Fr.refl _ _).alloc _
  have hql : qb < w1.heap.size := by obtain ⟨T, hb⟩ := hq.blk; exact lt_of_block hb
  have hs0 := hfr.size
  have hs1 := hf.size
  have htl := ht.lt
  refine ⟨⟨(ht.fr hf (fun _ _ => id) id).fr hx (fun _ _ => id) id, hq.fr hx id id id, ⟨Ints.nil _, Ints.nil _, List.Pairwise.nil, List.Pairwise.nil, by simp, by simp⟩, ?_, ?_, by omega, by omega, by omega, by omega, by omega⟩,
    ⟨T, block_alloc _ _⟩, ?_, ?_, by omega, by omega, by omega, by omega, ?_, by simp, by simp⟩
  · intro ad e; cases e
  · intro ad e; cases e
  · intro ad e; cases e
  · intro ad e; cases e
  · exact (hfr.step hf (fun _ _ e => e.elim)).alloc _
end

set_option maxRecDepth 100000 in
set_option maxHeartbeats 2000000 in
theorem gone_walk (a : Option Addr) (cap : Nat) (l : List Int) (m : Int) (w : World) (hl : Ints w a cap l) (hm : w.cell? ⟨0, 0, none⟩ = some (.int .i64 m)) (hw0 : 0 < w.heap.size) :
    Calls Tryz.prog 3 #[.slice a l.length cap] w fun e w' => e = .returned (.bool true) ∧ Fr (From w.heap.size) w w' := by
  have hx : Fr No w (w.alloc (.cells #[.slice a l.length cap, .int .i64 0] 25)) := (Fr.refl _ _).alloc _
  have ht := Tape.new hl 25
  have hmx := hx.cell hm id
  go_enter Tryz.func3, Tryz.ntmps3
  go_upto_region 2 with (fail)
  have hxs : (w.alloc (.cells #[.slice a l.length cap, .int .i64 0] 25)).heap.size = w.heap.size + 1 := by simp
  generalize w.alloc (.cells #[.slice a l.length cap, .int .i64 0] 25) = W0 at *
  have Hxs := Lib.hid hxs
  clear hxs
  go_wp2_with fail
  refine (made_tree w.heap.size w.heap.size 0 8 m _ ht hw0 (by omega) (by omega) hmx).mono ?_
  rintro e w1 ⟨ta, tc, ds, k1, hk1, hdl, rfl, hT, ht1, hf1⟩
  have hfr1 : Fr (From w.heap.size) w w1 := (hx.mono (T := From w.heap.size) (fun _ _ h => h.elim)).step hf1 (fun b hb e => by unfold Is at e; unfold From; omega)
  have hs1 : w.heap.size + 1 ≤ w1.heap.size := by have := hf1.size; rw [Hxs.out] at this; exact this
  rw [Hxs.out] at hT
  go_upto_region 3 with (fail)
  have hy : Fr No w1 (w1.alloc (.cells #[.slice ta ds.length tc] 28)) := (Fr.refl _ _).alloc _
  have hbt := block_alloc w1 (.cells #[.slice ta ds.length tc] 28)
  have hys : (w1.alloc (.cells #[.slice ta ds.length tc] 28)).heap.size = w1.heap.size + 1 := by simp
  generalize w1.alloc (.cells #[.slice ta ds.length tc] 28) = W1 at *
  have Hys := Lib.hid hys
  clear hys hx ht hmx hf1
  have ht2 := ht1.fr hy (fun _ _ => id) id
  have hfr2 := hfr1.step hy (fun _ _ h => h.elim)
  have hT2 := hT.no hy
  go_wp2_with fail
  refine (q_new _).mono ?_
  rintro e w2 ⟨qb, b1, b2, rfl, h0, h1, h2, hq2, hf2⟩
  have hst := St.begin (T := 33) hfr2 ht2 hq2 h0 h1 h2 hf2
  have hbt2 := hf2.heap hbt id
  have hT3 := hT2.no hf2
  have hz : Fr No w2 (w2.alloc (.cells #[.slice none 0 0, .slice none 0 0] 33)) := (Fr.refl _ _).alloc _
  have hbt3 := hz.heap hbt2 id
  have hs2 : W1.heap.size ≤ w2.heap.size := hf2.size
  rw [Hys.out] at h0 h1 h2 hs2
  have hw12 : Fr No w1 w2 := hy.step hf2 (fun _ _ h => h)
  have hw13 := hw12.step hz (fun _ _ h => h)
  clear hbt hT2 hT3 hbt2 hf2 hq2 ht2 ht1 hy hw12
  go_wp2_with fail
  refine (tape_next w.heap.size w.heap.size k1 14 _ hst.both.tape (by omega) (by omega) (by omega)).mono ?_
  rintro e w3 ⟨r, rfl, hr1, hr2, ht3, hf3⟩
  have hs3 := hst.next ht3 hf3
  have hbt5 := hf3.heap hbt3 (fun e => by unfold Is at e; omega)
  have hw1w : Fr (TB w.heap.size w1.heap.size) w1 w3 := (hw13.mono (T := TB w.heap.size w1.heap.size) (fun _ _ h => h.elim)).step hf3 (fun b hb e => .inl e)
  clear hst ht3 hf3 hbt3 hz hw13
  obtain ⟨r, rfl⟩ := Int.eq_ofNat_of_zero_le hr1
  have hq1 : w1.heap.size < b1 := by omega
  have hq2 : w1.heap.size < b2 := by omega
  go_wp2_with fail
  go_loopw [7] (fun i wr => ∃ (j : Nat) (k : Nat) (a1 : Option Addr) (c1 : Nat) (l1 : List Int) (a2 : Option Addr) (c2 : Nat) (l2 : List Int) (f g : Int → Bool) (N : Nat), i = .int .i64 (j : Int) ∧ j ≤ 14 ∧ k + 5 * j ≤ 1000 ∧ N + j ≤ 20 ∧ St w wr w.heap.size k qb b1 b2 w2.heap.size a1 c1 l1 a2 c2 l2 f g N ∧ wr.heap[w1.heap.size]? = some (.cells #[.slice ta ds.length tc] 28) ∧ Fr (TB w.heap.size (w1.heap.size + 1)) w3 wr) (fun i _ => (intOf i).toNat)
  case atStart => exact ⟨r, _, _, _, _, _, _, _, _, _, 0, rfl, by omega, by omega, by omega, hs3, hbt5, Fr.refl _ _⟩
  case round =>
    obtain ⟨j, k, a1, c1, l1, a2, c2, l2, f, g, N, rfl, hj, hk, hN, hS, hbt, hfl⟩ := hrel
    have n1 := hS.s1
    have n2 := hS.s2
    by_cases hpos : 0 < j
    · have x0 := hS.cb0
      have x1 := hS.cb1
      go_wp2_with fail
      refine (q_call w.heap.size w.heap.size k qb b1 b2 a1 c1 l1 a2 c2 l2 f g N 13 _ hS.both (by omega) (by omega) (by omega) (by omega) (by decide)).mono ?_
      rintro e w4 ⟨k', a1', c1', l1', a2', c2', l2', f', g', rfl, hk', m1, m2, hb3, s1, s2, hf4⟩
      obtain ⟨⟨T, hbq⟩, hS3⟩ := hS.called hb3 s1 s2 hf4 m1 m2
      have y0 : w4.cell? ⟨w2.heap.size, 0, none⟩ = some (.slice a1 l1.length c1) := cell_of_block hbq 0
      have y1 : w4.cell? ⟨w2.heap.size, 1, none⟩ = some (.slice a2 l2.length c2) := cell_of_block hbq 1
      have z0 : w4.frozen? ⟨w2.heap.size, 0, none⟩ = false := free_of_block hbq 0
      have z1 : w4.frozen? ⟨w2.heap.size, 1, none⟩ = false := free_of_block hbq 1
      have hst2 : Fr (Is w2.heap.size) w4 ((w4.setCell ⟨w2.heap.size, 0, none⟩ (.slice a1' l1'.length c1')).setCell ⟨w2.heap.size, 1, none⟩ (.slice a2' l2'.length c2')) := ((Fr.refl _ _).setIs _).setIs _
      have hbt' := hst2.heap (hf4.heap hbt (fun e => by unfold Tri at e; omega)) (fun e => by unfold Is at e; omega)
      have hfl' := (hfl.step hf4 (fun b hb e => by unfold Tri at e; unfold TB; omega)).step hst2 (fun b hb e => by unfold Is at e; unfold TB; omega)
      have Hl := Lib.hid (And.intro hbt' hfl')
      clear x0 x1 hst2 hbt' hfl'
      go_wp2_with fail
      go_roundw
      case rel => exact ⟨j - 1, k', a1', c1', l1', a2', c2', l2', f', g', N + 1, by congr 1; omega, by omega, by omega, by omega, hS3, Hl.out⟩
      case measure => simp [intOf]; omega
    · obtain rfl : j = 0 := by omega
      have hfw := hw1w.step hfl (fun b hb e => by unfold TB at *; omega)
      have hTr : Tr wr (w.heap.size + 1 + 2) ta tc ds := hT.keep hfw (fun b hb hb2 e => by unfold TB at e; omega)
      have t0 : wr.cell? ⟨w1.heap.size, 0, none⟩ = some (.slice ta ds.length tc) := cell_of_block hbt 0
      clear hfl hfw hw1w
      go_wp2_with fail
      refine (q_gone qb b1 b2 f g N ta tc ds _ _ hS.both.que (by omega) hTr).mono ?_
      rintro e w4 ⟨⟨a4, c4, m4, rfl, hI4, mem4⟩, hf4⟩
      have hS4 := hS.no hf4
      clear t0
      go_wp2_with fail
      refine (q_dirty qb b1 b2 f g N _ hS4.both.que (by omega)).mono ?_
      rintro e w5 ⟨a5, c5, l5, rfl, hI5, asc5, mem5, fre5, hf5⟩
      have hS5 := hS4.no hf5
      go_wp2_with fail
      refine (q_busy qb b1 b2 f g N _ hS5.both.que (by omega)).mono ?_
      rintro e w6 ⟨a6, c6, l6, rfl, hI6, asc6, mem6, fre6, hf6⟩
      have hS6 := hS5.no hf6
      have hf46 := (hf4.step hf5 (fun _ _ h => h)).step hf6 (fun _ _ h => h)
      have hbt6 := hf46.heap hbt id
      have hTr6 := hTr.no hf46
      have hI46 := (hI4.no hf5 (fun _ => id)).no hf6 (fun _ => id)
      have hI56 := hI5.no hf6 (fun _ => id)
      have d4 : Hid (∀ n : Int, decide (n ∈ m4) = ((f n || g n) && !hasD ds n)) := fun n => by
        rw [Bool.eq_iff_iff, decide_eq_true_iff, mem4]
        simp
      have d5 : Hid (∀ n : Int, decide (n ∈ l5) = f n) := fun n => by rw [Bool.eq_iff_iff, decide_eq_true_iff]; exact mem5 n
      have d6 : Hid (∀ n : Int, decide (n ∈ l6) = g n) := fun n => by rw [Bool.eq_iff_iff, decide_eq_true_iff]; exact mem6 n
      have hfr6 := hS6.fr
      clear hI4 hI5 hS hS4 hS5 hS6 hf4 hf5 hf6 hf46 hbt hTr mem4 mem5 mem6 asc5 asc6 fre5 fre6
      go_wp2_with fail
      go_loopw [11] (fun i W => ∃ k : Nat, i = .int .i64 (k : Int) ∧ 1 ≤ k ∧ k ≤ 21 ∧ Fr No w6 W) (fun i _ => 21 - (intOf i).toNat)
      case atStart => exact ⟨1, rfl, by omega, by omega, Fr.refl _ _⟩
      case round =>
        obtain ⟨n, rfl, hn1, hn2, hfn⟩ := hrel
        obtain ⟨W, rfl⟩ : ∃ W, W = wr := ⟨_, rfl⟩
        by_cases hlt : n ≤ 20
        · have hlt' : (n : Int) ≤ 20 := by omega
          have t0 : W.cell? ⟨w1.heap.size, 0, none⟩ = some (.slice ta ds.length tc) := cell_of_block (hfn.heap hbt6 id) 0
          have D4 := Lib.hid (d4.out (n : Int))
          have D5 := Lib.hid (d5.out (n : Int))
          have D6 := Lib.hid (d6.out (n : Int))
          go_wp2_with fail
          refine (ref_find ta tc ds (n : Int) _ (hTr6.no hfn).dv).mono ?_
          rintro e w7 ⟨rfl, hf7⟩
          have hplace : decide (0 ≤ place ds (n : Int)) = hasD ds (n : Int) := by
            unfold hasD
            rcases place_look ds (n : Int) with ⟨h1, h2⟩ | ⟨k, d, h1, h2, h3⟩
            · rw [h1, h2]; rfl
            · rw [h1, h2]; simp
          rw [hplace]
          obtain ⟨dd, hdd⟩ : ∃ dd, dd = devOf ds (n : Int) := ⟨_, rfl⟩
          rw [← hdd]
          clear hplace hdd t0
          unfold Dev.vals
          have key : ∀ V : World, Fr No w7 V → Fr No w6 V := fun V hV => (hfn.step hf7 (fun _ _ h => h)).step hV (fun _ _ h => h)
          have Hkey := Lib.hid key
          clear key
          go_upto_region 15 with (fail)
          have hz := Hkey.out _ ((Fr.refl No w7).alloc (.cells #[.int .i64 dd.index, .int .i64 dd.parent, .string dd.name, .string dd.orig, .string dd.sub, .string dd.drv, .string dd.ali, .int .i64 dd.kind, .int .i64 dd.num, .slice dd.aa dd.an dd.ac] 41))
          generalize w7.alloc (.cells #[.int .i64 dd.index, .int .i64 dd.parent, .string dd.name, .string dd.orig, .string dd.sub, .string dd.drv, .string dd.ali, .int .i64 dd.kind, .int .i64 dd.num, .slice dd.aa dd.an dd.ac] 41) = V at *
          have H4 := Lib.hid (hI46.no hz (fun _ => id))
          have H5 := Lib.hid (hI56.no hz (fun _ => id))
          have H6 := Lib.hid (hI6.no hz (fun _ => id))
          cases hh : hasD ds (n : Int)
          · cases hf : f (n : Int)
            · go_wp2_with fail
              refine (ints_in a5 c5 l5 (n : Int) _ H5.out).mono ?_
              rintro e w8 ⟨rfl, rfl⟩
              rw [D5.out, hf]
              go_wp2_with fail
              refine (ints_in a6 c6 l6 (n : Int) _ H6.out).mono ?_
              rintro e w8 ⟨rfl, rfl⟩
              rw [D6.out]
              cases hg : g (n : Int)
              all_goals
                go_wp2_with fail
                refine (ints_in a4 c4 m4 (n : Int) _ H4.out).mono ?_
                rintro e w8 ⟨rfl, rfl⟩
                rw [D4.out, hh, hf, hg]
                go_wp2_with fail
                go_roundw
                case rel => exact ⟨n + 1, by congr 1, by omega, by omega, hz⟩
                case measure => simp [intOf]; omega
            · go_wp2_with fail
              refine (ints_in a5 c5 l5 (n : Int) _ H5.out).mono ?_
              rintro e w8 ⟨rfl, rfl⟩
              rw [D5.out, hf]
              go_wp2_with fail
              refine (ints_in a4 c4 m4 (n : Int) _ H4.out).mono ?_
              rintro e w8 ⟨rfl, rfl⟩
              rw [D4.out, hh, hf]
              go_wp2_with fail
              go_roundw
              case rel => exact ⟨n + 1, by congr 1, by omega, by omega, hz⟩
              case measure => simp [intOf]; omega
          · go_wp2_with fail
            refine (ints_in a4 c4 m4 (n : Int) _ H4.out).mono ?_
            rintro e w8 ⟨rfl, rfl⟩
            rw [D4.out, hh, Bool.not_true, Bool.and_false]
            go_wp2_with fail
            go_roundw
            case rel => exact ⟨n + 1, by congr 1, by omega, by omega, hz⟩
            case measure => simp [intOf]; omega
        · have hlt' : ¬ (n : Int) ≤ 20 := by omega
          go_wp2_with fail
          refine (known_true _).mono ?_
          rintro e w7 ⟨rfl, hf7⟩
          go_wp2_with fail
          go_ret
          exact ⟨rfl, (hfr6.step hfn (fun _ _ h => h.elim)).step hf7 (fun _ _ h => h.elim)⟩
end Go.Proofs.YtpigghenmagghaaGreatDoor
