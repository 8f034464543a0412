/- pv: a made physical volume. -/
import Derived.Test.YtbblkknndaoefaaGreatDoorZV22
import Derived.Test.YtbblkknndaoefaaGreatDoorZV5
import Derived.Test.YtbblkknndaoefaaGreatDoorZV10
namespace Go.Proofs.YtbblkknndaoefaaGreatDoor
open Go.RowKit Go.Maps
set_option linter.unusedVariables false

def pvIds : List ByteArray := [⟨#[118]⟩, ⟨#[119]⟩, ⟨#[118, 45, 49]⟩]
theorem pvIds_size : ∀ s ∈ pvIds, s.size ≤ 3 := by decide
structure PvOk (m : Mem) : Prop where
  p : m.p.size ≤ 100
  i : m.i ∈ pvIds
  s : -1 ≤ m.s ∧ m.s ≤ 19
  t : -1 ≤ m.t ∧ m.t ≤ 19
  n : m.l.length ≤ 2
  l : ∀ x ∈ m.l, x.size ≤ 5
/-- What pv answers. -/
def PvRes (w : World) (B tb k : Nat) (e : Ending) (w' : World) : Prop :=
  ∃ (m : Mem) (k' : Nat), e = .returned (.agg m.vals) ∧ (Strs w' m.a m.c m.l ∧ BlkT w' m.a 9) ∧ (∀ ad, m.a = some ad → w.heap.size ≤ ad.block) ∧ PvOk m ∧ k' ≤ k + 16 ∧ Tape w' B tb k'
def TM (mb tb B4 : Nat) : Nat → Prop := fun b => b = mb ∨ b = tb ∨ B4 ≤ b

set_option maxRecDepth 100000 in
set_option maxHeartbeats 8000000 in
theorem made_pv (B tb k : Nat) (w : World) (ht : Tape w B tb k) (hk : k ≤ 100000) :
    Calls Tryz.prog 92 #[.pointer (some ⟨tb, 0, none⟩)] w fun e w' => PvRes w B tb k e w' ∧ Fr (Is tb) w w' := by
  obtain ⟨i0, hi0, hz0, hz1, hz2⟩ := info_parts infoS
  have htl := ht.lt
  have hBt := ht.le
  have hx : Fr No w (w.alloc (.cells #[.string ⟨#[]⟩, .string ⟨#[]⟩, .int .i64 0, .int .i64 0, .int .i64 0, .int .i64 0, .slice none 0 0] 58)) := (Fr.refl _ _).alloc _
  have q0 := block_alloc w (.cells #[.string ⟨#[]⟩, .string ⟨#[]⟩, .int .i64 0, .int .i64 0, .int .i64 0, .int .i64 0, .slice none 0 0] 58)
  have hsx : (w.alloc (.cells #[.string ⟨#[]⟩, .string ⟨#[]⟩, .int .i64 0, .int .i64 0, .int .i64 0, .int .i64 0, .slice none 0 0] 58)).heap.size = w.heap.size + 1 := by simp
  have htx := ht.fr hx (fun _ _ => id) id
  obtain ⟨W0, hW0⟩ : ∃ W0, W0 = w.alloc (.cells #[.string ⟨#[]⟩, .string ⟨#[]⟩, .int .i64 0, .int .i64 0, .int .i64 0, .int .i64 0, .slice none 0 0] 58) := ⟨_, rfl⟩
  rw [← hW0] at hx q0 hsx htx
  have hsx' : w.heap.size + 1 ≤ W0.heap.size := by omega
  clear hsx
  go_enter Tryz.func92, Tryz.ntmps92
  go_upto_region 1 with (fail)
  rw [← hW0]
  clear hW0
  go_wp2_with fail
  refine (tape_next B tb k 3 _ htx (by omega) (by omega) (by omega)).mono ?_
  rintro e w1 ⟨r, rfl, hr1, hr2, ht1, hf1⟩
  obtain ⟨r, rfl⟩ := Int.eq_ofNat_of_zero_le hr1
  have q1 := hf1.heap q0 (fun e => by unfold Is at e; omega)
  have Hf1 := Lib.hid ((hx.mono (T := Is tb) (fun _ _ h => h.elim)).step hf1 (fun _ _ h => h))
  have hs1 := hf1.size
  clear hx q0 htx hf1 hr1
  have ht3 : 1 ≤ 1 + r ∧ 1 + r ≤ 3 := by omega
  have hpath := made_path B tb (k + 1) w1 ht1 (by omega)
  clear ht1 hr2
  go_upto_region 2 with (fail)
  rw [show (1 : Int) + (r : Int) = ((1 + r : Nat) : Int) from by omega]
  generalize 1 + r = t at *
  go_wp2_with fail
  refine hpath.mono ?_
  rintro e w2 ⟨⟨p, k2, rfl, hp, hk2, ht2⟩, hf2⟩
  have q2 := hf2.heap q1 (fun e => by unfold Is at e; omega)
  have Hf2 := Lib.hid (Hf1.out.step hf2 (fun _ _ h => h))
  have hs2 := hf2.size
  clear hpath q1 hf2 Hf1
  have hS2 := Strs.of_block (l := pvIds) (block_alloc w2 (.cells (pvIds.map Value.string).toArray 9)) (by unfold maxLen pvIds; simp)
  have hx2 : Fr No w2 (w2.alloc (.cells (pvIds.map Value.string).toArray 9)) := (Fr.refl _ _).alloc _
  have hone := tape_one B tb k2 (some ⟨w2.heap.size, 0, none⟩) 3 pvIds _ (ht2.fr hx2 (fun _ _ => id) id) (by omega) hS2 (by decide) (by decide) (fun ad e => by cases e; show w2.heap.size ≠ tb; omega)
  go_wp2_with fail
  refine hone.mono ?_
  rintro e w3 ⟨⟨y, rfl, hy⟩, ht3', hf3⟩
  have q3 := hf3.heap (hx2.heap q2 id) (fun e => by unfold Is at e; omega)
  have Hf3 := Lib.hid ((Hf2.out.step hx2 (fun _ _ h => h.elim)).step hf3 (fun _ _ h => h))
  have hs3 := (hx2.mono (T := Is tb) (fun _ _ h => h.elim) |>.step hf3 (fun _ _ h => h)).size
  have Hy : Hid (y ∈ pvIds) := hy
  clear hone hS2 hx2 ht2 hf3 hy q2 Hf2
  have hn4 := tape_next B tb (k2 + 1) 3 w3 ht3' (by omega) (by omega) (by omega)
  go_wp2_with fail
  refine hn4.mono ?_
  rintro e w4 ⟨rd, rfl, hrd1, hrd2, ht4, hf4⟩
  have q4 := hf4.heap q3 (fun e => by unfold Is at e; omega)
  have Hf4 := Lib.hid (Hf3.out.step hf4 (fun _ _ h => h))
  have hs4 := hf4.size
  clear hn4 q3 hf4 Hf3 ht3'
  have hn5 := tape_next B tb (k2 + 1 + 1) (t : Int) w4 ht4 (by omega) (by omega) (by omega)
  go_wp2_with fail
  refine hn5.mono ?_
  rintro e w5 ⟨s0, rfl, hs01, hs02, ht5, hf5⟩
  have q5 := hf5.heap q4 (fun e => by unfold Is at e; omega)
  have Hf5 := Lib.hid (Hf4.out.step hf5 (fun _ _ h => h))
  have hs5 := hf5.size
  clear hn5 q4 hf5 Hf4 ht4
  go_upto_region 3 with (fail)
  obtain ⟨s, hss⟩ : ∃ s : Int, s = 1 + s0 := ⟨_, rfl⟩
  rw [← hss]
  have hsr : 1 ≤ s ∧ s ≤ 3 := by omega
  clear hss
  have hx6 : Fr No w5 (w5.alloc (.cells #[.string p, .string y, .int .i64 rd, .int .i64 s, .int .i64 (t : Int), .int .i64 (t : Int), .slice none 0 0] 58)) := (Fr.refl _ _).alloc _
  have qm := block_alloc w5 (.cells #[.string p, .string y, .int .i64 rd, .int .i64 s, .int .i64 (t : Int), .int .i64 (t : Int), .slice none 0 0] 58)
  have ht6 := ht5.fr hx6 (fun _ _ => id) id
  generalize w5.alloc (.cells #[.string p, .string y, .int .i64 rd, .int .i64 s, .int .i64 (t : Int), .int .i64 (t : Int), .slice none 0 0] 58) = W6 at *
  have q6 := hx6.heap q5 id
  have Hf6 := Lib.hid (Hf5.out.step hx6 (fun _ _ h => h.elim))
  have hs6 := hx6.size
  have hlm := lt_of_block qm
  have hmt : w5.heap.size ≠ tb := by omega
  have hmB : B ≤ w5.heap.size := by omega
  have hm2 : w.heap.size < w5.heap.size := by omega
  generalize w5.heap.size = mb at *
  clear q5 hx6 Hf5 ht5 hs01 hs02
  have hn7 := tape_next B tb (k2 + 1 + 1 + 1) 3 W6 ht6 (by omega) (by omega) (by omega)
  go_wp2_with fail
  refine hn7.mono ?_
  rintro e w7 ⟨c7, rfl, hc71, hc72, ht7, hf7⟩
  obtain ⟨c7, rfl⟩ := Int.eq_ofNat_of_zero_le hc71
  have q7 := hf7.heap q6 (fun e => by unfold Is at e; omega)
  have qm7 := hf7.heap qm (fun e => by unfold Is at e; omega)
  have Hf7 := Lib.hid (Hf6.out.step hf7 (fun _ _ h => h))
  have hs7 := hf7.size
  clear hn7 q6 qm hf7 Hf6 ht6 hc71
  go_wp2_with fail
  have hlm7 := lt_of_block qm7
  obtain ⟨B4, hB4⟩ : ∃ B4, B4 = w7.heap.size := ⟨_, rfl⟩
  have HB4 := Lib.hid hB4
  have hlmB : mb < B4 := by omega
  have hwB : w.heap.size ≤ B4 := by omega
  clear hB4
  go_loopw [5] (fun i wr => ∃ (l : List ByteArray) (av : Option Addr) (cv j kk : Nat), i = .int .i64 (j : Int) ∧ l.length + j ≤ 2 ∧ kk + 1 * j ≤ k2 + 6 ∧ wr.heap[mb]? = some (.cells #[.string p, .string y, .int .i64 rd, .int .i64 s, .int .i64 (t : Int), .int .i64 (t : Int), .slice av l.length cv] 58) ∧ wr.ownsRow B4 9 1 (.slice av l.length cv) l.length (l.map Value.string) ∧ Hid (∀ x ∈ l, x.size ≤ 5) ∧ Tape wr B tb kk ∧ Fr (TM mb tb B4) w7 wr) (fun i _ => (intOf i).toNat)
  case atStart => exact ⟨[], none, 0, c7, k2 + 1 + 1 + 1 + 1, rfl, by simp; omega, by omega, qm7, World.ownsRow_nil _ _ _ _, fun x hx => by simp at hx, ht7, Fr.refl _ _⟩
  case round =>
    obtain ⟨l, av, cv, j, kk, rfl, hlj, hkk, hbox, hown, Hl, htr, hf⟩ := hrel
    have hll : l.length ≤ 2 := by omega
    have hsr7 : B4 ≤ wr.heap.size := by have := hf.size; have := HB4.out; omega
    by_cases hlt : 0 < j
    · have hlt' : (0 : Int) < j := by omega
      have Hf := Lib.hid hf
      clear hf qm7 q7
      go_upto_region 6 with (fail)
      refine region_tree (TM mb tb B4) (.q 0 (.q 2 (.m2 1 (.m1 3 (.m1 4 (.m1 5 (.m1 6 (.q 7 (.m1 8 .fin)))))) 3 (.m2 1 (.m1 4 (.m1 5 (.m1 6 (.q 7 (.m1 8 .fin))))) 4 (.m2 1 (.m1 5 (.m1 6 (.q 7 (.m1 8 .fin)))) 5 (.m1 1 (.m1 6 (.q 7 (.m1 8 .fin))))))))) _ (by kernel_rfl) (by kernel_rfl) (fun w0 hf0 => ?_) (fun _ _ h => h)
      have qb0 := hf0.heap hbox id
      have hown0 := ownsRow_at hown hf0 (fun _ _ h => h)
      have ht0 := htr.fr hf0 (fun _ _ => id) id
      have Hf0 := Lib.hid (Hf.out.step hf0 (fun _ _ h => h.elim))
      have hs0 := hf0.size
      clear hbox hown htr hf0
      repeat (apply tree_q; exact rfl; exact rfl; exact rfl; intro K hK; go_big_quiet_op; go_big_quiet_on)
      refine tree_m2 rfl rfl ?_ ?_
      · have z6 : w0.cell? ⟨mb, 6, none⟩ = some (.slice av l.length cv) := cell_of_block qb0 6
        go_wp2_with fail
        clear z6
        refine OnlyN.mk ⟨Fr.refl _ _, ?_⟩
        refine tree_m1 rfl ?_
        go_wp2_with fail
        have hX1 : Fr No w0 (w0.alloc (.cells (layIn.map Value.string).toArray 9)) := (Fr.refl _ _).alloc _
        have hS1 := Strs.of_block (l := layIn) (block_alloc w0 (.cells (layIn.map Value.string).toArray 9)) (by unfold maxLen layIn; simp)
        refine OnlyN.mk ⟨(Fr.refl _ _).alloc _, ?_⟩
        change wpSg _ _ _ _ _ _ (w0.alloc (.cells (layIn.map Value.string).toArray 9))
        generalize w0.alloc (.cells (layIn.map Value.string).toArray 9) = X1 at *
        have qb1 := hX1.heap qb0 id
        have hs1 := hX1.size
        refine tree_m1 rfl ?_
        have hone := tape_one B tb kk (some ⟨w0.heap.size, 0, none⟩) 3 layIn _ (ht0.fr hX1 (fun _ _ => id) id) (by omega) hS1 (by decide) (by decide) (fun ad e => by cases e; show w0.heap.size ≠ tb; omega)
        go_wp2_with fail
        refine hone.mono ?_
        rintro e X2 ⟨⟨z, rfl, hz⟩, ht2, hX2⟩
        have hzs := layIn_size z hz
        have qb2 := hX2.heap qb1 (fun e => by unfold Is at e; omega)
        have hs2 := hX2.size
        clear hone
        go_wp2_with fail
        refine OnlyN.mk ⟨hX2.mono (fun b _ h => .inr (.inl h)), ?_⟩
        refine tree_m1 rfl ?_
        go_wp2_with fail
        have hX3 : Fr No X2 (X2.alloc (.cells #[.string z] 9)) := (Fr.refl _ _).alloc _
        have hcz := cell_one_new X2 (.string z) 9
        refine OnlyN.mk ⟨(Fr.refl _ _).alloc _, ?_⟩
        generalize X2.alloc (.cells #[.string z] 9) = X3 at *
        have qb3 := hX3.heap qb2 id
        have hs3 := hX3.size
        refine tree_m1 rfl ?_
        have hX03 : Fr (Is tb) w0 X3 := ((hX1.mono (fun _ _ h => h.elim)).step hX2 (fun _ _ h => h)).step hX3 (fun _ _ h => h.elim)
        have hown3 := ownsRow_at hown0 hX03 (fun b h e => by have h1 := ownsRow_blk hown0 h; unfold From at h1; unfold Is at e; omega)
        have Hown3 := Lib.hid hown3
        go_wp2_with (at_builtin; refine wpList_append_own _ rfl _ _ 33 rfl B4 9 i0 (.string ByteArray.empty) 1 16 Tryz.underlying33 hi0 hz0 hz1 hz2 rfl (by decide) _ _ _ rfl hown3 ⟨X2.heap.size, 0, none⟩ 1 1 [.string z] rfl rfl hcz (strs_one [z]) (by unfold maxLen; omega) (by omega) (by first | omega | (simp; done) | (simp; omega)) ?_; intro v' w9 hown9 hgrow9 _; obtain ⟨av', cv', rfl⟩ := ownsRow_slice hown9)
        have hgf : Fr (fun b => (Value.slice av l.length cv).ownBlock = some b) X3 w9 := Fr.of_grown hgrow9
        refine OnlyN.mk ⟨hgf.mono (fun b _ e => .inr (.inr (ownsRow_blk Hown3.out e))), ?_⟩
        repeat (apply tree_q; exact rfl; exact rfl; exact rfl; intro K hK; go_big_quiet_op; go_big_quiet_on)
        refine tree_m1 rfl ?_
        have qb9 := hgf.heap qb3 (fun e => by have h1 := ownsRow_blk Hown3.out e; unfold From at h1; omega)
        have HX := Lib.hid (And.intro (hX03.mono (T := TM mb tb B4) (fun b _ h => .inr (.inl h)) |>.step hgf (fun b _ e => .inr (.inr (ownsRow_blk Hown3.out e)))) (And.intro hown9 (And.intro qb9 (And.intro (((ht2.fr hX3 (fun _ _ => id) id).fr hgf (fun b hb e => by have h1 := ownsRow_blk Hown3.out e; unfold From at h1; omega) (fun e => by have h1 := ownsRow_blk Hown3.out e; unfold From at h1; omega))) hzs))))
        have y6 : w9.cell? ⟨mb, 6, none⟩ = some (.slice av l.length cv) := cell_of_block qb9 6
        have y7 : w9.frozen? ⟨mb, 6, none⟩ = false := free_of_block qb9 6
        clear hown9 qb9 hgrow9 hgf hown3 hX03 hX1 hX2 hX3 hcz hS1 qb1 qb2 qb3 ht2 hz hzs
        go_wp2_with fail
        have hfs : Fr (Is mb) w9 (w9.setCell ⟨mb, 6, none⟩ (.slice av' (l.length + 1) cv')) := Fr.setCell (S := Is mb) (p := ⟨mb, 6, none⟩) (Fr.refl _ _) (fun _ => rfl) _
        refine OnlyN.mk ⟨hfs.mono (fun b _ h => .inl h), ?_⟩
        have q10 := block_setCell HX.out.2.2.1 6 (.slice av' (l.length + 1) cv')
        have hown10 := ownsRow_at HX.out.2.1 hfs (fun b h e => by have h1 := ownsRow_blk HX.out.2.1 h; unfold From at h1; unfold Is at e; omega)
        have ht10 := HX.out.2.2.2.1.fr hfs (fun b hb e => by unfold Is at e; omega) (fun e => by unfold Is at e; omega)
        have hf10 := (HX.out.1.step hfs (fun b _ h => .inl h))
        simp at q10
        have HY := Lib.hid (And.intro q10 (And.intro hown10 (And.intro ht10 (Hf0.out.step hf10 (fun b hb h => h)))))
        have Hz := Lib.hid HX.out.2.2.2.2
        clear q10 hown10 ht10 hf10 hfs HX y6 y7
        refine tree_end ?_
        go_wp2_with fail
        go_roundw
        case rel => exact ⟨l ++ [z], av', cv', j - 1, kk + 1, by go_num, by simp; omega, by omega, by rw [List.length_append]; exact HY.out.1, by rw [List.length_append, List.map_append]; exact HY.out.2.1, fun x hx => (List.mem_append.1 hx).elim (fun h => Hl.out x h) (fun h => by obtain rfl : x = z := (by simpa using h); exact Hz.out), HY.out.2.2.1, HY.out.2.2.2⟩
        case measure => simp [intOf]; omega
      · go_wp2_with fail
        have hX1 : Fr No w0 (w0.alloc (.cells (layIn.map Value.string).toArray 9)) := (Fr.refl _ _).alloc _
        have hS1 := Strs.of_block (l := layIn) (block_alloc w0 (.cells (layIn.map Value.string).toArray 9)) (by unfold maxLen layIn; simp)
        refine OnlyN.mk ⟨(Fr.refl _ _).alloc _, ?_⟩
        change wpSg _ _ _ _ _ _ (w0.alloc (.cells (layIn.map Value.string).toArray 9))
        generalize w0.alloc (.cells (layIn.map Value.string).toArray 9) = X1 at *
        have qb1 := hX1.heap qb0 id
        have hs1 := hX1.size
        refine tree_m2 rfl rfl ?_ ?_
        · have z6 : X1.cell? ⟨mb, 6, none⟩ = some (.slice av l.length cv) := cell_of_block qb1 6
          go_wp2_with fail
          clear z6
          refine OnlyN.mk ⟨Fr.refl _ _, ?_⟩
          refine tree_m1 rfl ?_
          have hone := tape_one B tb kk (some ⟨w0.heap.size, 0, none⟩) 3 layIn _ (ht0.fr hX1 (fun _ _ => id) id) (by omega) hS1 (by decide) (by decide) (fun ad e => by cases e; show w0.heap.size ≠ tb; omega)
          go_wp2_with fail
          refine hone.mono ?_
          rintro e X2 ⟨⟨z, rfl, hz⟩, ht2, hX2⟩
          have hzs := layIn_size z hz
          have qb2 := hX2.heap qb1 (fun e => by unfold Is at e; omega)
          have hs2 := hX2.size
          clear hone
          go_wp2_with fail
          refine OnlyN.mk ⟨hX2.mono (fun b _ h => .inr (.inl h)), ?_⟩
          refine tree_m1 rfl ?_
          go_wp2_with fail
          have hX3 : Fr No X2 (X2.alloc (.cells #[.string z] 9)) := (Fr.refl _ _).alloc _
          have hcz := cell_one_new X2 (.string z) 9
          refine OnlyN.mk ⟨(Fr.refl _ _).alloc _, ?_⟩
          generalize X2.alloc (.cells #[.string z] 9) = X3 at *
          have qb3 := hX3.heap qb2 id
          have hs3 := hX3.size
          refine tree_m1 rfl ?_
          have hX03 : Fr (Is tb) w0 X3 := ((hX1.mono (fun _ _ h => h.elim)).step hX2 (fun _ _ h => h)).step hX3 (fun _ _ h => h.elim)
          have hown3 := ownsRow_at hown0 hX03 (fun b h e => by have h1 := ownsRow_blk hown0 h; unfold From at h1; unfold Is at e; omega)
          have Hown3 := Lib.hid hown3
          go_wp2_with (at_builtin; refine wpList_append_own _ rfl _ _ 33 rfl B4 9 i0 (.string ByteArray.empty) 1 16 Tryz.underlying33 hi0 hz0 hz1 hz2 rfl (by decide) _ _ _ rfl hown3 ⟨X2.heap.size, 0, none⟩ 1 1 [.string z] rfl rfl hcz (strs_one [z]) (by unfold maxLen; omega) (by omega) (by first | omega | (simp; done) | (simp; omega)) ?_; intro v' w9 hown9 hgrow9 _; obtain ⟨av', cv', rfl⟩ := ownsRow_slice hown9)
          have hgf : Fr (fun b => (Value.slice av l.length cv).ownBlock = some b) X3 w9 := Fr.of_grown hgrow9
          refine OnlyN.mk ⟨hgf.mono (fun b _ e => .inr (.inr (ownsRow_blk Hown3.out e))), ?_⟩
          repeat (apply tree_q; exact rfl; exact rfl; exact rfl; intro K hK; go_big_quiet_op; go_big_quiet_on)
          refine tree_m1 rfl ?_
          have qb9 := hgf.heap qb3 (fun e => by have h1 := ownsRow_blk Hown3.out e; unfold From at h1; omega)
          have HX := Lib.hid (And.intro (hX03.mono (T := TM mb tb B4) (fun b _ h => .inr (.inl h)) |>.step hgf (fun b _ e => .inr (.inr (ownsRow_blk Hown3.out e)))) (And.intro hown9 (And.intro qb9 (And.intro (((ht2.fr hX3 (fun _ _ => id) id).fr hgf (fun b hb e => by have h1 := ownsRow_blk Hown3.out e; unfold From at h1; omega) (fun e => by have h1 := ownsRow_blk Hown3.out e; unfold From at h1; omega))) hzs))))
          have y6 : w9.cell? ⟨mb, 6, none⟩ = some (.slice av l.length cv) := cell_of_block qb9 6
          have y7 : w9.frozen? ⟨mb, 6, none⟩ = false := free_of_block qb9 6
          clear hown9 qb9 hgrow9 hgf hown3 hX03 hX1 hX2 hX3 hcz hS1 qb1 qb2 qb3 ht2 hz hzs
          go_wp2_with fail
          have hfs : Fr (Is mb) w9 (w9.setCell ⟨mb, 6, none⟩ (.slice av' (l.length + 1) cv')) := Fr.setCell (S := Is mb) (p := ⟨mb, 6, none⟩) (Fr.refl _ _) (fun _ => rfl) _
          refine OnlyN.mk ⟨hfs.mono (fun b _ h => .inl h), ?_⟩
          have q10 := block_setCell HX.out.2.2.1 6 (.slice av' (l.length + 1) cv')
          have hown10 := ownsRow_at HX.out.2.1 hfs (fun b h e => by have h1 := ownsRow_blk HX.out.2.1 h; unfold From at h1; unfold Is at e; omega)
          have ht10 := HX.out.2.2.2.1.fr hfs (fun b hb e => by unfold Is at e; omega) (fun e => by unfold Is at e; omega)
          have hf10 := (HX.out.1.step hfs (fun b _ h => .inl h))
          simp at q10
          have HY := Lib.hid (And.intro q10 (And.intro hown10 (And.intro ht10 (Hf0.out.step hf10 (fun b hb h => h)))))
          have Hz := Lib.hid HX.out.2.2.2.2
          clear q10 hown10 ht10 hf10 hfs HX y6 y7
          refine tree_end ?_
          go_wp2_with fail
          go_roundw
          case rel => exact ⟨l ++ [z], av', cv', j - 1, kk + 1, by go_num, by simp; omega, by omega, by rw [List.length_append]; exact HY.out.1, by rw [List.length_append, List.map_append]; exact HY.out.2.1, fun x hx => (List.mem_append.1 hx).elim (fun h => Hl.out x h) (fun h => by obtain rfl : x = z := (by simpa using h); exact Hz.out), HY.out.2.2.1, HY.out.2.2.2⟩
          case measure => simp [intOf]; omega
        · have hone := tape_one B tb kk (some ⟨w0.heap.size, 0, none⟩) 3 layIn _ (ht0.fr hX1 (fun _ _ => id) id) (by omega) hS1 (by decide) (by decide) (fun ad e => by cases e; show w0.heap.size ≠ tb; omega)
          go_wp2_with fail
          refine hone.mono ?_
          rintro e X2 ⟨⟨z, rfl, hz⟩, ht2, hX2⟩
          have hzs := layIn_size z hz
          have qb2 := hX2.heap qb1 (fun e => by unfold Is at e; omega)
          have hs2 := hX2.size
          clear hone
          go_wp2_with fail
          refine OnlyN.mk ⟨hX2.mono (fun b _ h => .inr (.inl h)), ?_⟩
          refine tree_m2 rfl rfl ?_ ?_
          · have z6 : X2.cell? ⟨mb, 6, none⟩ = some (.slice av l.length cv) := cell_of_block qb2 6
            go_wp2_with fail
            clear z6
            refine OnlyN.mk ⟨Fr.refl _ _, ?_⟩
            refine tree_m1 rfl ?_
            go_wp2_with fail
            have hX3 : Fr No X2 (X2.alloc (.cells #[.string z] 9)) := (Fr.refl _ _).alloc _
            have hcz := cell_one_new X2 (.string z) 9
            refine OnlyN.mk ⟨(Fr.refl _ _).alloc _, ?_⟩
            generalize X2.alloc (.cells #[.string z] 9) = X3 at *
            have qb3 := hX3.heap qb2 id
            have hs3 := hX3.size
            refine tree_m1 rfl ?_
            have hX03 : Fr (Is tb) w0 X3 := ((hX1.mono (fun _ _ h => h.elim)).step hX2 (fun _ _ h => h)).step hX3 (fun _ _ h => h.elim)
            have hown3 := ownsRow_at hown0 hX03 (fun b h e => by have h1 := ownsRow_blk hown0 h; unfold From at h1; unfold Is at e; omega)
            have Hown3 := Lib.hid hown3
            go_wp2_with (at_builtin; refine wpList_append_own _ rfl _ _ 33 rfl B4 9 i0 (.string ByteArray.empty) 1 16 Tryz.underlying33 hi0 hz0 hz1 hz2 rfl (by decide) _ _ _ rfl hown3 ⟨X2.heap.size, 0, none⟩ 1 1 [.string z] rfl rfl hcz (strs_one [z]) (by unfold maxLen; omega) (by omega) (by first | omega | (simp; done) | (simp; omega)) ?_; intro v' w9 hown9 hgrow9 _; obtain ⟨av', cv', rfl⟩ := ownsRow_slice hown9)
            have hgf : Fr (fun b => (Value.slice av l.length cv).ownBlock = some b) X3 w9 := Fr.of_grown hgrow9
            refine OnlyN.mk ⟨hgf.mono (fun b _ e => .inr (.inr (ownsRow_blk Hown3.out e))), ?_⟩
            repeat (apply tree_q; exact rfl; exact rfl; exact rfl; intro K hK; go_big_quiet_op; go_big_quiet_on)
            refine tree_m1 rfl ?_
            have qb9 := hgf.heap qb3 (fun e => by have h1 := ownsRow_blk Hown3.out e; unfold From at h1; omega)
            have HX := Lib.hid (And.intro (hX03.mono (T := TM mb tb B4) (fun b _ h => .inr (.inl h)) |>.step hgf (fun b _ e => .inr (.inr (ownsRow_blk Hown3.out e)))) (And.intro hown9 (And.intro qb9 (And.intro (((ht2.fr hX3 (fun _ _ => id) id).fr hgf (fun b hb e => by have h1 := ownsRow_blk Hown3.out e; unfold From at h1; omega) (fun e => by have h1 := ownsRow_blk Hown3.out e; unfold From at h1; omega))) hzs))))
            have y6 : w9.cell? ⟨mb, 6, none⟩ = some (.slice av l.length cv) := cell_of_block qb9 6
            have y7 : w9.frozen? ⟨mb, 6, none⟩ = false := free_of_block qb9 6
            clear hown9 qb9 hgrow9 hgf hown3 hX03 hX1 hX2 hX3 hcz hS1 qb1 qb2 qb3 ht2 hz hzs
            go_wp2_with fail
            have hfs : Fr (Is mb) w9 (w9.setCell ⟨mb, 6, none⟩ (.slice av' (l.length + 1) cv')) := Fr.setCell (S := Is mb) (p := ⟨mb, 6, none⟩) (Fr.refl _ _) (fun _ => rfl) _
            refine OnlyN.mk ⟨hfs.mono (fun b _ h => .inl h), ?_⟩
            have q10 := block_setCell HX.out.2.2.1 6 (.slice av' (l.length + 1) cv')
            have hown10 := ownsRow_at HX.out.2.1 hfs (fun b h e => by have h1 := ownsRow_blk HX.out.2.1 h; unfold From at h1; unfold Is at e; omega)
            have ht10 := HX.out.2.2.2.1.fr hfs (fun b hb e => by unfold Is at e; omega) (fun e => by unfold Is at e; omega)
            have hf10 := (HX.out.1.step hfs (fun b _ h => .inl h))
            simp at q10
            have HY := Lib.hid (And.intro q10 (And.intro hown10 (And.intro ht10 (Hf0.out.step hf10 (fun b hb h => h)))))
            have Hz := Lib.hid HX.out.2.2.2.2
            clear q10 hown10 ht10 hf10 hfs HX y6 y7
            refine tree_end ?_
            go_wp2_with fail
            go_roundw
            case rel => exact ⟨l ++ [z], av', cv', j - 1, kk + 1, by go_num, by simp; omega, by omega, by rw [List.length_append]; exact HY.out.1, by rw [List.length_append, List.map_append]; exact HY.out.2.1, fun x hx => (List.mem_append.1 hx).elim (fun h => Hl.out x h) (fun h => by obtain rfl : x = z := (by simpa using h); exact Hz.out), HY.out.2.2.1, HY.out.2.2.2⟩
            case measure => simp [intOf]; omega
          · go_wp2_with fail
            have hX3 : Fr No X2 (X2.alloc (.cells #[.string z] 9)) := (Fr.refl _ _).alloc _
            have hcz := cell_one_new X2 (.string z) 9
            refine OnlyN.mk ⟨(Fr.refl _ _).alloc _, ?_⟩
            generalize X2.alloc (.cells #[.string z] 9) = X3 at *
            have qb3 := hX3.heap qb2 id
            have hs3 := hX3.size
            refine tree_m1 rfl ?_
            have z6 : X3.cell? ⟨mb, 6, none⟩ = some (.slice av l.length cv) := cell_of_block qb3 6
            go_wp2_with fail
            clear z6
            refine OnlyN.mk ⟨Fr.refl _ _, ?_⟩
            refine tree_m1 rfl ?_
            have hX03 : Fr (Is tb) w0 X3 := ((hX1.mono (fun _ _ h => h.elim)).step hX2 (fun _ _ h => h)).step hX3 (fun _ _ h => h.elim)
            have hown3 := ownsRow_at hown0 hX03 (fun b h e => by have h1 := ownsRow_blk hown0 h; unfold From at h1; unfold Is at e; omega)
            have Hown3 := Lib.hid hown3
            go_wp2_with (at_builtin; refine wpList_append_own _ rfl _ _ 33 rfl B4 9 i0 (.string ByteArray.empty) 1 16 Tryz.underlying33 hi0 hz0 hz1 hz2 rfl (by decide) _ _ _ rfl hown3 ⟨X2.heap.size, 0, none⟩ 1 1 [.string z] rfl rfl hcz (strs_one [z]) (by unfold maxLen; omega) (by omega) (by first | omega | (simp; done) | (simp; omega)) ?_; intro v' w9 hown9 hgrow9 _; obtain ⟨av', cv', rfl⟩ := ownsRow_slice hown9)
            have hgf : Fr (fun b => (Value.slice av l.length cv).ownBlock = some b) X3 w9 := Fr.of_grown hgrow9
            refine OnlyN.mk ⟨hgf.mono (fun b _ e => .inr (.inr (ownsRow_blk Hown3.out e))), ?_⟩
            repeat (apply tree_q; exact rfl; exact rfl; exact rfl; intro K hK; go_big_quiet_op; go_big_quiet_on)
            refine tree_m1 rfl ?_
            have qb9 := hgf.heap qb3 (fun e => by have h1 := ownsRow_blk Hown3.out e; unfold From at h1; omega)
            have HX := Lib.hid (And.intro (hX03.mono (T := TM mb tb B4) (fun b _ h => .inr (.inl h)) |>.step hgf (fun b _ e => .inr (.inr (ownsRow_blk Hown3.out e)))) (And.intro hown9 (And.intro qb9 (And.intro (((ht2.fr hX3 (fun _ _ => id) id).fr hgf (fun b hb e => by have h1 := ownsRow_blk Hown3.out e; unfold From at h1; omega) (fun e => by have h1 := ownsRow_blk Hown3.out e; unfold From at h1; omega))) hzs))))
            have y6 : w9.cell? ⟨mb, 6, none⟩ = some (.slice av l.length cv) := cell_of_block qb9 6
            have y7 : w9.frozen? ⟨mb, 6, none⟩ = false := free_of_block qb9 6
            clear hown9 qb9 hgrow9 hgf hown3 hX03 hX1 hX2 hX3 hcz hS1 qb1 qb2 qb3 ht2 hz hzs
            go_wp2_with fail
            have hfs : Fr (Is mb) w9 (w9.setCell ⟨mb, 6, none⟩ (.slice av' (l.length + 1) cv')) := Fr.setCell (S := Is mb) (p := ⟨mb, 6, none⟩) (Fr.refl _ _) (fun _ => rfl) _
            refine OnlyN.mk ⟨hfs.mono (fun b _ h => .inl h), ?_⟩
            have q10 := block_setCell HX.out.2.2.1 6 (.slice av' (l.length + 1) cv')
            have hown10 := ownsRow_at HX.out.2.1 hfs (fun b h e => by have h1 := ownsRow_blk HX.out.2.1 h; unfold From at h1; unfold Is at e; omega)
            have ht10 := HX.out.2.2.2.1.fr hfs (fun b hb e => by unfold Is at e; omega) (fun e => by unfold Is at e; omega)
            have hf10 := (HX.out.1.step hfs (fun b _ h => .inl h))
            simp at q10
            have HY := Lib.hid (And.intro q10 (And.intro hown10 (And.intro ht10 (Hf0.out.step hf10 (fun b hb h => h)))))
            have Hz := Lib.hid HX.out.2.2.2.2
            clear q10 hown10 ht10 hf10 hfs HX y6 y7
            refine tree_end ?_
            go_wp2_with fail
            go_roundw
            case rel => exact ⟨l ++ [z], av', cv', j - 1, kk + 1, by go_num, by simp; omega, by omega, by rw [List.length_append]; exact HY.out.1, by rw [List.length_append, List.map_append]; exact HY.out.2.1, fun x hx => (List.mem_append.1 hx).elim (fun h => Hl.out x h) (fun h => by obtain rfl : x = z := (by simpa using h); exact Hz.out), HY.out.2.2.1, HY.out.2.2.2⟩
            case measure => simp [intOf]; omega
    · obtain rfl : j = 0 := by omega
      have hb7 := (hf.heap q7 (fun e => by unfold TM at e; omega))
      have Hfw : Hid (Fr (TB tb (w.heap.size + 1)) w wr) := (Hf7.out.mono (T := TB tb (w.heap.size + 1)) (fun b _ h => .inl h)).step hf (fun b hb h => by unfold TM at h; unfold TB; omega)
      clear hf qm7 q7
      go_wp2_with fail
      refine (tape_next B tb kk 14 _ htr (by omega) (by omega) (by omega)).mono ?_
      rintro e w8 ⟨r8, rfl, hr81, hr82, ht8, hf8⟩
      have qb := hf8.heap hbox (fun e => by unfold Is at e; omega)
      have q8 := hf8.heap hb7 (fun e => by unfold Is at e; omega)
      have hown8 := ownsRow_at hown hf8 (fun b h e => by have h1 := ownsRow_blk hown h; unfold From at h1; unfold Is at e; omega)
      have Hf8 := Lib.hid (Hfw.out.step hf8 (fun b hb h => .inl h))
      have hs8 := hf8.size
      obtain ⟨a', c', hv, hS8, hF8⟩ := Strs.of_own hown8
      have hB8 := own_typ hown8
      cases hv
      have HS8 := Lib.hid (And.intro hS8 (And.intro hB8 hF8))
      clear hbox hb7 hown hf8 htr Hfw hS8 hB8 hF8 hown8
      rcases hr0 : (r8 == 0) with _ | _
      · rcases hr1' : (r8 == 1) with _ | _
        · rcases hr2' : (r8 == 2) with _ | _
          · have HfW : Hid (Fr (fun b => b = tb ∨ b = mb) w8 w8) := Fr.refl _ _
            have HtW := Lib.hid ht8
            clear ht8
            have u0 : w8.cell? ⟨mb, 0, none⟩ = some (.string p) := cell_of_block qb 0
            have u1 : w8.cell? ⟨mb, 1, none⟩ = some (.string y) := cell_of_block qb 1
            have u2 : w8.cell? ⟨mb, 2, none⟩ = some (.int .i64 rd) := cell_of_block qb 2
            have u3 : w8.cell? ⟨mb, 3, none⟩ = some (.int .i64 s) := cell_of_block qb 3
            have u4 : w8.cell? ⟨mb, 4, none⟩ = some (.int .i64 (t : Int)) := cell_of_block qb 4
            have u5 : w8.cell? ⟨mb, 5, none⟩ = some (.int .i64 (t : Int)) := cell_of_block qb 5
            have u6 : w8.cell? ⟨mb, 6, none⟩ = some (.slice av l.length cv) := cell_of_block qb 6
            have b0 : w8.cell? ⟨w.heap.size, 0, none⟩ = some (.string ⟨#[]⟩) := cell_of_block q8 0
            have b1 : w8.cell? ⟨w.heap.size, 1, none⟩ = some (.string ⟨#[]⟩) := cell_of_block q8 1
            have b2 : w8.cell? ⟨w.heap.size, 2, none⟩ = some (.int .i64 0) := cell_of_block q8 2
            have b3 : w8.cell? ⟨w.heap.size, 3, none⟩ = some (.int .i64 0) := cell_of_block q8 3
            have b4 : w8.cell? ⟨w.heap.size, 4, none⟩ = some (.int .i64 0) := cell_of_block q8 4
            have b5 : w8.cell? ⟨w.heap.size, 5, none⟩ = some (.int .i64 0) := cell_of_block q8 5
            have b6 : w8.cell? ⟨w.heap.size, 6, none⟩ = some (.slice none 0 0) := cell_of_block q8 6
            have f0 : w8.frozen? ⟨w.heap.size, 0, none⟩ = false := free_of_block q8 0
            have f1 : w8.frozen? ⟨w.heap.size, 1, none⟩ = false := free_of_block q8 1
            have f2 : w8.frozen? ⟨w.heap.size, 2, none⟩ = false := free_of_block q8 2
            have f3 : w8.frozen? ⟨w.heap.size, 3, none⟩ = false := free_of_block q8 3
            have f4 : w8.frozen? ⟨w.heap.size, 4, none⟩ = false := free_of_block q8 4
            have f5 : w8.frozen? ⟨w.heap.size, 5, none⟩ = false := free_of_block q8 5
            have f6 : w8.frozen? ⟨w.heap.size, 6, none⟩ = false := free_of_block q8 6
            have h7 := set7 q8 rfl (.string p) (.string y) (.int .i64 rd) (.int .i64 s) (.int .i64 (t : Int)) (.int .i64 (t : Int)) (.slice av l.length cv)
            have hE : Fr (fun b => b = tb ∨ b = mb ∨ b = w.heap.size) w8 _ := (HfW.out.mono (T := fun b => b = tb ∨ b = mb ∨ b = w.heap.size) (fun b _ h => h.elim .inl (fun h => .inr (.inl h)))).step h7.2 (fun b _ h => .inr (.inr h))
            have HR := Lib.hid (And.intro (HS8.out.1.fr hE (fun ad e _ h => by have := HS8.out.2.2 ad e; omega)) (And.intro (HS8.out.2.1.fr hE (fun ad e h => by have := HS8.out.2.2 ad e; omega)) (And.intro (HtW.out.fr h7.2 (fun b hb e => by unfold Is at e; omega) (fun e => by unfold Is at e; omega)) (((Hf8.out.step hE (fun b hb h => by unfold TB; omega)).mono (T := Is tb) (fun b hb h => by unfold TB at h; unfold Is; omega))))))
            have Hq := Lib.hid h7.1
            clear h7 hE qb q8
            go_wp2_with fail
            have y0 := cell_of_block Hq.out 0
            have y1 := cell_of_block Hq.out 1
            have y2 := cell_of_block Hq.out 2
            have y3 := cell_of_block Hq.out 3
            have y4 := cell_of_block Hq.out 4
            have y5 := cell_of_block Hq.out 5
            have y6 := cell_of_block Hq.out 6
            refine bodyPost_ret (v := .agg #[.string p, .string y, .int .i64 rd, .int .i64 s, .int .i64 (t : Int), .int .i64 (t : Int), .slice av l.length cv]) (by simp [results, Tryz.results92, go_sem, y0, y1, y2, y3, y4, y5, y6]) rfl ?_
            exact ⟨⟨⟨p, y, rd, s, (t : Int), (t : Int), av, l, cv⟩, kk + 1, rfl, ⟨HR.out.1, HR.out.2.1⟩, fun ad e => by have := HS8.out.2.2 ad e; omega, ⟨hp, Hy.out, by constructor <;> (try dsimp only) <;> omega, by constructor <;> (try dsimp only) <;> omega, hll, Hl.out⟩, by omega, HR.out.2.2.1⟩, HR.out.2.2.2⟩
          · have hS9 := Strs.of_block (l := layPaths) (block_alloc w8 (.cells (layPaths.map Value.string).toArray 9)) (by unfold maxLen layPaths; simp)
            have hx9 : Fr No w8 (w8.alloc (.cells (layPaths.map Value.string).toArray 9)) := (Fr.refl _ _).alloc _
            have hone := tape_one B tb (kk + 1) (some ⟨w8.heap.size, 0, none⟩) 4 layPaths _ (ht8.fr hx9 (fun _ _ => id) id) (by omega) hS9 (by decide) (by decide) (fun ad e => by cases e; show w8.heap.size ≠ tb; omega)
            have qx := hx9.heap qb id
            have qx2 := hx9.heap q8 id
            clear hS9 ht8 qb q8
            go_wp2_with fail
            refine hone.mono ?_
            rintro e wa ⟨⟨sp, rfl, hsp⟩, hta, hfa⟩
            have hss := layPaths_size sp hsp
            have q4 := hfa.heap qx (fun e => by unfold Is at e; omega)
            have q4' := hfa.heap qx2 (fun e => by unfold Is at e; omega)
            have q5 := block_setCell q4 0 (.string sp)
            have z0 : wa.frozen? ⟨mb, 0, none⟩ = false := free_of_block q4 0
            have z1 : wa.cell? ⟨mb, 0, none⟩ = some (.string p) := cell_of_block q4 0
            have hfs : Fr (Is mb) wa (wa.setCell ⟨mb, 0, none⟩ (.string sp)) := Fr.setCell (S := Is mb) (p := ⟨mb, 0, none⟩) (Fr.refl _ _) (fun _ => rfl) _
            have q5' := hfs.heap q4' (fun e => by unfold Is at e; omega)
            have HtW := Lib.hid (hta.fr hfs (fun b hb e => by unfold Is at e; omega) (fun e => by unfold Is at e; omega))
            have HfW : Hid (Fr (fun b => b = tb ∨ b = mb) w8 (wa.setCell ⟨mb, 0, none⟩ (.string sp))) := (((hx9.mono (T := fun b => b = tb ∨ b = mb) (fun _ _ h => h.elim)).step hfa (fun b _ h => .inl h)).step hfs (fun b _ h => .inr h))
            clear hone qx qx2 q4 q4' hsp hfa hfs hta hx9
            go_upto_region 14 with (fail)
            generalize wa.setCell ⟨mb, 0, none⟩ (.string sp) = Wb at *
            simp at q5
            clear z0 z1
            have u0 : Wb.cell? ⟨mb, 0, none⟩ = some (.string sp) := cell_of_block q5 0
            have u1 : Wb.cell? ⟨mb, 1, none⟩ = some (.string y) := cell_of_block q5 1
            have u2 : Wb.cell? ⟨mb, 2, none⟩ = some (.int .i64 rd) := cell_of_block q5 2
            have u3 : Wb.cell? ⟨mb, 3, none⟩ = some (.int .i64 s) := cell_of_block q5 3
            have u4 : Wb.cell? ⟨mb, 4, none⟩ = some (.int .i64 (t : Int)) := cell_of_block q5 4
            have u5 : Wb.cell? ⟨mb, 5, none⟩ = some (.int .i64 (t : Int)) := cell_of_block q5 5
            have u6 : Wb.cell? ⟨mb, 6, none⟩ = some (.slice av l.length cv) := cell_of_block q5 6
            have b0 : Wb.cell? ⟨w.heap.size, 0, none⟩ = some (.string ⟨#[]⟩) := cell_of_block q5' 0
            have b1 : Wb.cell? ⟨w.heap.size, 1, none⟩ = some (.string ⟨#[]⟩) := cell_of_block q5' 1
            have b2 : Wb.cell? ⟨w.heap.size, 2, none⟩ = some (.int .i64 0) := cell_of_block q5' 2
            have b3 : Wb.cell? ⟨w.heap.size, 3, none⟩ = some (.int .i64 0) := cell_of_block q5' 3
            have b4 : Wb.cell? ⟨w.heap.size, 4, none⟩ = some (.int .i64 0) := cell_of_block q5' 4
            have b5 : Wb.cell? ⟨w.heap.size, 5, none⟩ = some (.int .i64 0) := cell_of_block q5' 5
            have b6 : Wb.cell? ⟨w.heap.size, 6, none⟩ = some (.slice none 0 0) := cell_of_block q5' 6
            have f0 : Wb.frozen? ⟨w.heap.size, 0, none⟩ = false := free_of_block q5' 0
            have f1 : Wb.frozen? ⟨w.heap.size, 1, none⟩ = false := free_of_block q5' 1
            have f2 : Wb.frozen? ⟨w.heap.size, 2, none⟩ = false := free_of_block q5' 2
            have f3 : Wb.frozen? ⟨w.heap.size, 3, none⟩ = false := free_of_block q5' 3
            have f4 : Wb.frozen? ⟨w.heap.size, 4, none⟩ = false := free_of_block q5' 4
            have f5 : Wb.frozen? ⟨w.heap.size, 5, none⟩ = false := free_of_block q5' 5
            have f6 : Wb.frozen? ⟨w.heap.size, 6, none⟩ = false := free_of_block q5' 6
            have h7 := set7 q5' rfl (.string sp) (.string y) (.int .i64 rd) (.int .i64 s) (.int .i64 (t : Int)) (.int .i64 (t : Int)) (.slice av l.length cv)
            have hE : Fr (fun b => b = tb ∨ b = mb ∨ b = w.heap.size) w8 _ := (HfW.out.mono (T := fun b => b = tb ∨ b = mb ∨ b = w.heap.size) (fun b _ h => h.elim .inl (fun h => .inr (.inl h)))).step h7.2 (fun b _ h => .inr (.inr h))
            have HR := Lib.hid (And.intro (HS8.out.1.fr hE (fun ad e _ h => by have := HS8.out.2.2 ad e; omega)) (And.intro (HS8.out.2.1.fr hE (fun ad e h => by have := HS8.out.2.2 ad e; omega)) (And.intro (HtW.out.fr h7.2 (fun b hb e => by unfold Is at e; omega) (fun e => by unfold Is at e; omega)) (((Hf8.out.step hE (fun b hb h => by unfold TB; omega)).mono (T := Is tb) (fun b hb h => by unfold TB at h; unfold Is; omega))))))
            have Hq := Lib.hid h7.1
            clear h7 hE q5 q5'
            go_wp2_with fail
            have y0 := cell_of_block Hq.out 0
            have y1 := cell_of_block Hq.out 1
            have y2 := cell_of_block Hq.out 2
            have y3 := cell_of_block Hq.out 3
            have y4 := cell_of_block Hq.out 4
            have y5 := cell_of_block Hq.out 5
            have y6 := cell_of_block Hq.out 6
            refine bodyPost_ret (v := .agg #[.string sp, .string y, .int .i64 rd, .int .i64 s, .int .i64 (t : Int), .int .i64 (t : Int), .slice av l.length cv]) (by simp [results, Tryz.results92, go_sem, y0, y1, y2, y3, y4, y5, y6]) rfl ?_
            exact ⟨⟨⟨sp, y, rd, s, (t : Int), (t : Int), av, l, cv⟩, kk + 1 + 1, rfl, ⟨HR.out.1, HR.out.2.1⟩, fun ad e => by have := HS8.out.2.2 ad e; omega, ⟨by show sp.size ≤ 100; omega, Hy.out, by constructor <;> (try dsimp only) <;> omega, by constructor <;> (try dsimp only) <;> omega, hll, Hl.out⟩, by omega, HR.out.2.2.1⟩, HR.out.2.2.2⟩
        · have hn9 := tape_next B tb (kk + 1) 20 w8 ht8 (by omega) (by omega) (by omega)
          clear ht8
          go_wp2_with fail
          refine hn9.mono ?_
          rintro e wa ⟨r9, rfl, hr91, hr92, hta, hfa⟩
          have q4 := hfa.heap qb (fun e => by unfold Is at e; omega)
          have q4' := hfa.heap q8 (fun e => by unfold Is at e; omega)
          have q5 := block_setCell q4 4 (.int .i64 (r9 - 1))
          have z0 : wa.frozen? ⟨mb, 4, none⟩ = false := free_of_block q4 4
          have z1 : wa.cell? ⟨mb, 4, none⟩ = some (.int .i64 (t : Int)) := cell_of_block q4 4
          have hfs : Fr (Is mb) wa (wa.setCell ⟨mb, 4, none⟩ (.int .i64 (r9 - 1))) := Fr.setCell (S := Is mb) (p := ⟨mb, 4, none⟩) (Fr.refl _ _) (fun _ => rfl) _
          have q5' := hfs.heap q4' (fun e => by unfold Is at e; omega)
          have HtW := Lib.hid (hta.fr hfs (fun b hb e => by unfold Is at e; omega) (fun e => by unfold Is at e; omega))
          have HfW : Hid (Fr (fun b => b = tb ∨ b = mb) w8 (wa.setCell ⟨mb, 4, none⟩ (.int .i64 (r9 - 1)))) := ((hfa.mono (T := fun b => b = tb ∨ b = mb) (fun b _ h => .inl h)).step hfs (fun b _ h => .inr h))
          clear hn9 q4 q4' qb q8 hfa hfs hta
          go_upto_region 14 with (fail)
          generalize wa.setCell ⟨mb, 4, none⟩ (.int .i64 (r9 - 1)) = Wb at *
          simp at q5
          clear z0 z1
          have u0 : Wb.cell? ⟨mb, 0, none⟩ = some (.string p) := cell_of_block q5 0
          have u1 : Wb.cell? ⟨mb, 1, none⟩ = some (.string y) := cell_of_block q5 1
          have u2 : Wb.cell? ⟨mb, 2, none⟩ = some (.int .i64 rd) := cell_of_block q5 2
          have u3 : Wb.cell? ⟨mb, 3, none⟩ = some (.int .i64 s) := cell_of_block q5 3
          have u4 : Wb.cell? ⟨mb, 4, none⟩ = some (.int .i64 (r9 - 1)) := cell_of_block q5 4
          have u5 : Wb.cell? ⟨mb, 5, none⟩ = some (.int .i64 (t : Int)) := cell_of_block q5 5
          have u6 : Wb.cell? ⟨mb, 6, none⟩ = some (.slice av l.length cv) := cell_of_block q5 6
          have b0 : Wb.cell? ⟨w.heap.size, 0, none⟩ = some (.string ⟨#[]⟩) := cell_of_block q5' 0
          have b1 : Wb.cell? ⟨w.heap.size, 1, none⟩ = some (.string ⟨#[]⟩) := cell_of_block q5' 1
          have b2 : Wb.cell? ⟨w.heap.size, 2, none⟩ = some (.int .i64 0) := cell_of_block q5' 2
          have b3 : Wb.cell? ⟨w.heap.size, 3, none⟩ = some (.int .i64 0) := cell_of_block q5' 3
          have b4 : Wb.cell? ⟨w.heap.size, 4, none⟩ = some (.int .i64 0) := cell_of_block q5' 4
          have b5 : Wb.cell? ⟨w.heap.size, 5, none⟩ = some (.int .i64 0) := cell_of_block q5' 5
          have b6 : Wb.cell? ⟨w.heap.size, 6, none⟩ = some (.slice none 0 0) := cell_of_block q5' 6
          have f0 : Wb.frozen? ⟨w.heap.size, 0, none⟩ = false := free_of_block q5' 0
          have f1 : Wb.frozen? ⟨w.heap.size, 1, none⟩ = false := free_of_block q5' 1
          have f2 : Wb.frozen? ⟨w.heap.size, 2, none⟩ = false := free_of_block q5' 2
          have f3 : Wb.frozen? ⟨w.heap.size, 3, none⟩ = false := free_of_block q5' 3
          have f4 : Wb.frozen? ⟨w.heap.size, 4, none⟩ = false := free_of_block q5' 4
          have f5 : Wb.frozen? ⟨w.heap.size, 5, none⟩ = false := free_of_block q5' 5
          have f6 : Wb.frozen? ⟨w.heap.size, 6, none⟩ = false := free_of_block q5' 6
          have h7 := set7 q5' rfl (.string p) (.string y) (.int .i64 rd) (.int .i64 s) (.int .i64 (r9 - 1)) (.int .i64 (t : Int)) (.slice av l.length cv)
          have hE : Fr (fun b => b = tb ∨ b = mb ∨ b = w.heap.size) w8 _ := (HfW.out.mono (T := fun b => b = tb ∨ b = mb ∨ b = w.heap.size) (fun b _ h => h.elim .inl (fun h => .inr (.inl h)))).step h7.2 (fun b _ h => .inr (.inr h))
          have HR := Lib.hid (And.intro (HS8.out.1.fr hE (fun ad e _ h => by have := HS8.out.2.2 ad e; omega)) (And.intro (HS8.out.2.1.fr hE (fun ad e h => by have := HS8.out.2.2 ad e; omega)) (And.intro (HtW.out.fr h7.2 (fun b hb e => by unfold Is at e; omega) (fun e => by unfold Is at e; omega)) (((Hf8.out.step hE (fun b hb h => by unfold TB; omega)).mono (T := Is tb) (fun b hb h => by unfold TB at h; unfold Is; omega))))))
          have Hq := Lib.hid h7.1
          clear h7 hE q5 q5'
          go_wp2_with fail
          have y0 := cell_of_block Hq.out 0
          have y1 := cell_of_block Hq.out 1
          have y2 := cell_of_block Hq.out 2
          have y3 := cell_of_block Hq.out 3
          have y4 := cell_of_block Hq.out 4
          have y5 := cell_of_block Hq.out 5
          have y6 := cell_of_block Hq.out 6
          refine bodyPost_ret (v := .agg #[.string p, .string y, .int .i64 rd, .int .i64 s, .int .i64 (r9 - 1), .int .i64 (t : Int), .slice av l.length cv]) (by simp [results, Tryz.results92, go_sem, y0, y1, y2, y3, y4, y5, y6]) rfl ?_
          exact ⟨⟨⟨p, y, rd, s, (r9 - 1), (t : Int), av, l, cv⟩, kk + 1 + 1, rfl, ⟨HR.out.1, HR.out.2.1⟩, fun ad e => by have := HS8.out.2.2 ad e; omega, ⟨hp, Hy.out, by constructor <;> (try dsimp only) <;> omega, by constructor <;> (try dsimp only) <;> omega, hll, Hl.out⟩, by omega, HR.out.2.2.1⟩, HR.out.2.2.2⟩
      · have hn9 := tape_next B tb (kk + 1) 20 w8 ht8 (by omega) (by omega) (by omega)
        clear ht8
        go_wp2_with fail
        refine hn9.mono ?_
        rintro e wa ⟨r9, rfl, hr91, hr92, hta, hfa⟩
        have q4 := hfa.heap qb (fun e => by unfold Is at e; omega)
        have q4' := hfa.heap q8 (fun e => by unfold Is at e; omega)
        have q5 := block_setCell q4 3 (.int .i64 (r9 - 1))
        have z0 : wa.frozen? ⟨mb, 3, none⟩ = false := free_of_block q4 3
        have z1 : wa.cell? ⟨mb, 3, none⟩ = some (.int .i64 s) := cell_of_block q4 3
        have hfs : Fr (Is mb) wa (wa.setCell ⟨mb, 3, none⟩ (.int .i64 (r9 - 1))) := Fr.setCell (S := Is mb) (p := ⟨mb, 3, none⟩) (Fr.refl _ _) (fun _ => rfl) _
        have q5' := hfs.heap q4' (fun e => by unfold Is at e; omega)
        have HtW := Lib.hid (hta.fr hfs (fun b hb e => by unfold Is at e; omega) (fun e => by unfold Is at e; omega))
        have HfW : Hid (Fr (fun b => b = tb ∨ b = mb) w8 (wa.setCell ⟨mb, 3, none⟩ (.int .i64 (r9 - 1)))) := ((hfa.mono (T := fun b => b = tb ∨ b = mb) (fun b _ h => .inl h)).step hfs (fun b _ h => .inr h))
        clear hn9 q4 q4' qb q8 hfa hfs hta
        go_upto_region 14 with (fail)
        generalize wa.setCell ⟨mb, 3, none⟩ (.int .i64 (r9 - 1)) = Wb at *
        simp at q5
        clear z0 z1
        have u0 : Wb.cell? ⟨mb, 0, none⟩ = some (.string p) := cell_of_block q5 0
        have u1 : Wb.cell? ⟨mb, 1, none⟩ = some (.string y) := cell_of_block q5 1
        have u2 : Wb.cell? ⟨mb, 2, none⟩ = some (.int .i64 rd) := cell_of_block q5 2
        have u3 : Wb.cell? ⟨mb, 3, none⟩ = some (.int .i64 (r9 - 1)) := cell_of_block q5 3
        have u4 : Wb.cell? ⟨mb, 4, none⟩ = some (.int .i64 (t : Int)) := cell_of_block q5 4
        have u5 : Wb.cell? ⟨mb, 5, none⟩ = some (.int .i64 (t : Int)) := cell_of_block q5 5
        have u6 : Wb.cell? ⟨mb, 6, none⟩ = some (.slice av l.length cv) := cell_of_block q5 6
        have b0 : Wb.cell? ⟨w.heap.size, 0, none⟩ = some (.string ⟨#[]⟩) := cell_of_block q5' 0
        have b1 : Wb.cell? ⟨w.heap.size, 1, none⟩ = some (.string ⟨#[]⟩) := cell_of_block q5' 1
        have b2 : Wb.cell? ⟨w.heap.size, 2, none⟩ = some (.int .i64 0) := cell_of_block q5' 2
        have b3 : Wb.cell? ⟨w.heap.size, 3, none⟩ = some (.int .i64 0) := cell_of_block q5' 3
        have b4 : Wb.cell? ⟨w.heap.size, 4, none⟩ = some (.int .i64 0) := cell_of_block q5' 4
        have b5 : Wb.cell? ⟨w.heap.size, 5, none⟩ = some (.int .i64 0) := cell_of_block q5' 5
        have b6 : Wb.cell? ⟨w.heap.size, 6, none⟩ = some (.slice none 0 0) := cell_of_block q5' 6
        have f0 : Wb.frozen? ⟨w.heap.size, 0, none⟩ = false := free_of_block q5' 0
        have f1 : Wb.frozen? ⟨w.heap.size, 1, none⟩ = false := free_of_block q5' 1
        have f2 : Wb.frozen? ⟨w.heap.size, 2, none⟩ = false := free_of_block q5' 2
        have f3 : Wb.frozen? ⟨w.heap.size, 3, none⟩ = false := free_of_block q5' 3
        have f4 : Wb.frozen? ⟨w.heap.size, 4, none⟩ = false := free_of_block q5' 4
        have f5 : Wb.frozen? ⟨w.heap.size, 5, none⟩ = false := free_of_block q5' 5
        have f6 : Wb.frozen? ⟨w.heap.size, 6, none⟩ = false := free_of_block q5' 6
        have h7 := set7 q5' rfl (.string p) (.string y) (.int .i64 rd) (.int .i64 (r9 - 1)) (.int .i64 (t : Int)) (.int .i64 (t : Int)) (.slice av l.length cv)
        have hE : Fr (fun b => b = tb ∨ b = mb ∨ b = w.heap.size) w8 _ := (HfW.out.mono (T := fun b => b = tb ∨ b = mb ∨ b = w.heap.size) (fun b _ h => h.elim .inl (fun h => .inr (.inl h)))).step h7.2 (fun b _ h => .inr (.inr h))
        have HR := Lib.hid (And.intro (HS8.out.1.fr hE (fun ad e _ h => by have := HS8.out.2.2 ad e; omega)) (And.intro (HS8.out.2.1.fr hE (fun ad e h => by have := HS8.out.2.2 ad e; omega)) (And.intro (HtW.out.fr h7.2 (fun b hb e => by unfold Is at e; omega) (fun e => by unfold Is at e; omega)) (((Hf8.out.step hE (fun b hb h => by unfold TB; omega)).mono (T := Is tb) (fun b hb h => by unfold TB at h; unfold Is; omega))))))
        have Hq := Lib.hid h7.1
        clear h7 hE q5 q5'
        go_wp2_with fail
        have y0 := cell_of_block Hq.out 0
        have y1 := cell_of_block Hq.out 1
        have y2 := cell_of_block Hq.out 2
        have y3 := cell_of_block Hq.out 3
        have y4 := cell_of_block Hq.out 4
        have y5 := cell_of_block Hq.out 5
        have y6 := cell_of_block Hq.out 6
        refine bodyPost_ret (v := .agg #[.string p, .string y, .int .i64 rd, .int .i64 (r9 - 1), .int .i64 (t : Int), .int .i64 (t : Int), .slice av l.length cv]) (by simp [results, Tryz.results92, go_sem, y0, y1, y2, y3, y4, y5, y6]) rfl ?_
        exact ⟨⟨⟨p, y, rd, (r9 - 1), (t : Int), (t : Int), av, l, cv⟩, kk + 1 + 1, rfl, ⟨HR.out.1, HR.out.2.1⟩, fun ad e => by have := HS8.out.2.2 ad e; omega, ⟨hp, Hy.out, by constructor <;> (try dsimp only) <;> omega, by constructor <;> (try dsimp only) <;> omega, hll, Hl.out⟩, by omega, HR.out.2.2.1⟩, HR.out.2.2.2⟩
end Go.Proofs.YtbblkknndaoefaaGreatDoor
