/- member: a made member of an array. members: made members of arrays. -/
import Derived.Test.YtbblkknndaoefaaGreatDoorZA23
import Derived.Test.YtbblkknndaoefaaGreatDoorZA5
import Derived.Test.YtbblkknndaoefaaGreatDoorZA10
namespace Go.Proofs.YtbblkknndaoefaaGreatDoor
open Go.RowKit Go.Maps
set_option linter.unusedVariables false

def mbIds : List ByteArray := [⟨#[114]⟩, ⟨#[115]⟩, ⟨#[114, 49]⟩]
def mbIn : List ByteArray := [⟨#[]⟩, ⟨#[102, 115, 58, 120, 58]⟩, ⟨#[102, 115, 58, 121, 58]⟩]
def mbPaths : List ByteArray := [⟨#[120]⟩, ⟨#[]⟩, ⟨#[47, 97, 47]⟩, ⟨#[47, 97, 32, 98]⟩]
def mbFz : ByteArray := ⟨#[102, 115, 58, 122, 58]⟩
theorem mbIds_size : ∀ s ∈ mbIds, s.size ≤ 2 := by decide
theorem mbIn_size : ∀ s ∈ mbIn, s.size ≤ 5 := by decide
theorem mbPaths_size : ∀ s ∈ mbPaths, s.size ≤ 4 := by decide
structure MbOk (m : Mem) : Prop where
  p : m.p.size ≤ 100
  i : m.i ∈ mbIds
  r : 0 ≤ m.r ∧ m.r ≤ 2
  s : -1 ≤ m.s ∧ m.s ≤ 19
  t : -1 ≤ m.t ∧ m.t ≤ 19
  e : 1 ≤ m.e ∧ m.e ≤ 4
  n : m.l.length ≤ 2
  l : ∀ x ∈ m.l, x.size ≤ 5
/-- What member answers. -/
def MbRes (w : World) (B tb k : Nat) (e : Ending) (w' : World) : Prop :=
  ∃ (m : Mem) (k' : Nat), e = .returned (.agg m.vals) ∧ (Strs w' m.a m.c m.l ∧ BlkT w' m.a 9) ∧ (∀ ad, m.a = some ad → w.heap.size ≤ ad.block) ∧ MbOk m ∧ k' ≤ k + 20 ∧ Tape w' B tb k'
theorem own_new {w : World} {b base : Nat} {l : List ByteArray} (h : w.heap[b]? = some (.cells (l.map Value.string).toArray 9)) (hb : base ≤ b) (hl : l.length ≤ maxLen) : w.ownsRow base 9 1 (.slice (some ⟨b, 0, none⟩) l.length l.length) l.length (l.map Value.string) :=
  ⟨by simp, .inr ⟨b, l.length, _, rfl, hb, h, Nat.le_refl _, hl, by simp, by rw [Nat.mul_one]; exact List.take_of_length_le (by simp)⟩⟩

set_option maxRecDepth 100000 in
set_option maxHeartbeats 8000000 in
theorem made_mb (B tb k : Nat) (w : World) (ht : Tape w B tb k) (hk : k ≤ 100000) :
    Calls Tryz.prog 51 #[.pointer (some ⟨tb, 0, none⟩)] w fun e w' => MbRes w B tb k e w' ∧ Fr (Is tb) w w' := by
  obtain ⟨i0, hi0, hz0, hz1, hz2⟩ := info_parts infoS
  have htl := ht.lt
  have hBt := ht.le
  have hx : Fr No w (w.alloc (.cells #[.string ⟨#[]⟩, .string ⟨#[]⟩, .int .i64 0, .int .i64 0, .int .i64 0, .int .i64 0, .slice none 0 0] 58)) := (Fr.refl _ _).alloc _
  have q0 := block_alloc w (.cells #[.string ⟨#[]⟩, .string ⟨#[]⟩, .int .i64 0, .int .i64 0, .int .i64 0, .int .i64 0, .slice none 0 0] 58)
  have hsx : (w.alloc (.cells #[.string ⟨#[]⟩, .string ⟨#[]⟩, .int .i64 0, .int .i64 0, .int .i64 0, .int .i64 0, .slice none 0 0] 58)).heap.size = w.heap.size + 1 := by simp
  have htx := ht.fr hx (fun _ _ => id) id
  obtain ⟨W0, hW0⟩ : ∃ W0, W0 = w.alloc (.cells #[.string ⟨#[]⟩, .string ⟨#[]⟩, .int .i64 0, .int .i64 0, .int .i64 0, .int .i64 0, .slice none 0 0] 58) := ⟨_, rfl⟩
  rw [← hW0] at hx q0 hsx htx
  have hsx' : w.heap.size + 1 ≤ W0.heap.size := by omega
  clear hsx
  go_enter Tryz.func51, Tryz.ntmps51
  go_upto_region 1 with (fail)
  rw [← hW0]
  clear hW0
  go_wp2_with fail
  refine (tape_next B tb k 4 _ htx (by omega) (by omega) (by omega)).mono ?_
  rintro e w1 ⟨r, rfl, hr1, hr2, ht1, hf1⟩
  obtain ⟨r, rfl⟩ := Int.eq_ofNat_of_zero_le hr1
  have q1 := hf1.heap q0 (fun e => by unfold Is at e; omega)
  have Hf1 := Lib.hid ((hx.mono (T := Is tb) (fun _ _ h => h.elim)).step hf1 (fun _ _ h => h))
  have hs1 := hf1.size
  clear hx q0 htx hf1 hr1
  have ht3 : 1 ≤ 1 + r ∧ 1 + r ≤ 4 := by omega
  have hpath := made_path B tb (k + 1) w1 ht1 (by omega)
  clear ht1 hr2
  go_upto_region 2 with (fail)
  rw [show (1 : Int) + (r : Int) = ((1 + r : Nat) : Int) from by omega]
  generalize 1 + r = t at *
  go_wp2_with fail
  refine hpath.mono ?_
  rintro e w2 ⟨⟨p, k2, rfl, hp, hk2, ht2⟩, hf2⟩
  have q2 := hf2.heap q1 (fun e => by unfold Is at e; omega)
  have Hf2 := Lib.hid (Hf1.out.step hf2 (fun _ _ h => h))
  have hs2 := hf2.size
  clear hpath q1 hf2 Hf1
  have hS2 := Strs.of_block (l := mbIds) (block_alloc w2 (.cells (mbIds.map Value.string).toArray 9)) (by unfold maxLen mbIds; simp)
  have hx2 : Fr No w2 (w2.alloc (.cells (mbIds.map Value.string).toArray 9)) := (Fr.refl _ _).alloc _
  have hone := tape_one B tb k2 (some ⟨w2.heap.size, 0, none⟩) 3 mbIds _ (ht2.fr hx2 (fun _ _ => id) id) (by omega) hS2 (by decide) (by decide) (fun ad e => by cases e; show w2.heap.size ≠ tb; omega)
  go_wp2_with fail
  refine hone.mono ?_
  rintro e w3 ⟨⟨y, rfl, hy⟩, ht3', hf3⟩
  have q3 := hf3.heap (hx2.heap q2 id) (fun e => by unfold Is at e; omega)
  have Hf3 := Lib.hid ((Hf2.out.step hx2 (fun _ _ h => h.elim)).step hf3 (fun _ _ h => h))
  have hs3 := (hx2.mono (T := Is tb) (fun _ _ h => h.elim) |>.step hf3 (fun _ _ h => h)).size
  have Hy : Hid (y ∈ mbIds) := hy
  clear hone hS2 hx2 ht2 hf3 hy q2 Hf2
  have hn4 := tape_next B tb (k2 + 1) 3 w3 ht3' (by omega) (by omega) (by omega)
  go_wp2_with fail
  refine hn4.mono ?_
  rintro e w4 ⟨rd, rfl, hrd1, hrd2, ht4, hf4⟩
  have q4 := hf4.heap q3 (fun e => by unfold Is at e; omega)
  have Hf4 := Lib.hid (Hf3.out.step hf4 (fun _ _ h => h))
  have hs4 := hf4.size
  clear hn4 q3 hf4 Hf3 ht3'
  have hn5 := tape_next B tb (k2 + 1 + 1) (t : Int) w4 ht4 (by omega) (by omega) (by omega)
  go_wp2_with fail
  refine hn5.mono ?_
  rintro e w5 ⟨s0, rfl, hs01, hs02, ht5, hf5⟩
  have q5 := hf5.heap q4 (fun e => by unfold Is at e; omega)
  have Hf5 := Lib.hid (Hf4.out.step hf5 (fun _ _ h => h))
  have hs5 := hf5.size
  clear hn5 q4 hf5 Hf4 ht4
  have hn6 := tape_next B tb (k2 + 1 + 1 + 1) (t : Int) w5 ht5 (by omega) (by omega) (by omega)
  go_wp2_with fail
  refine hn6.mono ?_
  rintro e w6 ⟨l0, rfl, hl01, hl02, ht6, hf6⟩
  have q6 := hf6.heap q5 (fun e => by unfold Is at e; omega)
  have Hf6 := Lib.hid (Hf5.out.step hf6 (fun _ _ h => h))
  have hs6 := hf6.size
  clear hn6 q5 hf6 Hf5 ht5
  have hS6 := Strs.of_block (l := mbIn) (block_alloc w6 (.cells (mbIn.map Value.string).toArray 9)) (by unfold maxLen mbIn; simp)
  have hx6 : Fr No w6 (w6.alloc (.cells (mbIn.map Value.string).toArray 9)) := (Fr.refl _ _).alloc _
  have hone := tape_one B tb (k2 + 1 + 1 + 1 + 1) (some ⟨w6.heap.size, 0, none⟩) 3 mbIn _ (ht6.fr hx6 (fun _ _ => id) id) (by omega) hS6 (by decide) (by decide) (fun ad e => by cases e; show w6.heap.size ≠ tb; omega)
  go_wp2_with fail
  refine hone.mono ?_
  rintro e w7 ⟨⟨z, rfl, hz⟩, ht7, hf7⟩
  have q7 := hf7.heap (hx6.heap q6 id) (fun e => by unfold Is at e; omega)
  have Hf7 := Lib.hid ((Hf6.out.step hx6 (fun _ _ h => h.elim)).step hf7 (fun _ _ h => h))
  have hs7 := (hx6.mono (T := Is tb) (fun _ _ h => h.elim) |>.step hf7 (fun _ _ h => h)).size
  have hzs := mbIn_size z hz
  clear hone hS6 hx6 ht6 hf7 hz q6 Hf6
  obtain ⟨s, hss⟩ : ∃ s : Int, s = 1 + s0 := ⟨_, rfl⟩
  obtain ⟨le, hle⟩ : ∃ le : Int, le = 1 + l0 := ⟨_, rfl⟩
  have hsr : 1 ≤ s ∧ s ≤ 4 := by omega
  have hlr : 1 ≤ le ∧ le ≤ 4 := by omega
  have hx8 : Fr No w7 ((w7.alloc (.cells #[.string z] 9)).alloc (.cells #[.string p, .string y, .int .i64 rd, .int .i64 s, .int .i64 (t : Int), .int .i64 le, .slice (some ⟨w7.heap.size, 0, none⟩) 1 1] 58)) := ((Fr.refl _ _).alloc _).alloc _
  have qi := block_alloc1 w7 (.cells #[.string z] 9) (.cells #[.string p, .string y, .int .i64 rd, .int .i64 s, .int .i64 (t : Int), .int .i64 le, .slice (some ⟨w7.heap.size, 0, none⟩) 1 1] 58)
  have qm := block_alloc2 w7 (.cells #[.string z] 9) (.cells #[.string p, .string y, .int .i64 rd, .int .i64 s, .int .i64 (t : Int), .int .i64 le, .slice (some ⟨w7.heap.size, 0, none⟩) 1 1] 58)
  have hs8 : ((w7.alloc (.cells #[.string z] 9)).alloc (.cells #[.string p, .string y, .int .i64 rd, .int .i64 s, .int .i64 (t : Int), .int .i64 le, .slice (some ⟨w7.heap.size, 0, none⟩) 1 1] 58)).heap.size = w7.heap.size + 2 := by simp
  have q8 := hx8.heap q7 id
  have ht8 := ht7.fr hx8 (fun _ _ => id) id
  have Hf8 := Lib.hid (Hf7.out.step hx8 (fun _ _ h => h.elim))
  obtain ⟨W8, hW8⟩ : ∃ W8, W8 = (w7.alloc (.cells #[.string z] 9)).alloc (.cells #[.string p, .string y, .int .i64 rd, .int .i64 s, .int .i64 (t : Int), .int .i64 le, .slice (some ⟨w7.heap.size, 0, none⟩) 1 1] 58) := ⟨_, rfl⟩
  rw [← hW8] at qi qm hs8 q8 ht8 Hf8
  clear hx8 q7 ht7 Hf7
  go_upto_region 3 with (fail)
  rw [← hss, ← hle, ← hW8]
  clear hss hle hW8
  have hib : w.heap.size < w7.heap.size := by omega
  have hiB : B ≤ w7.heap.size := by omega
  have hit : w7.heap.size ≠ tb := by omega
  have hit2 : w7.heap.size + 1 ≠ tb := by omega
  have hmw : w7.heap.size + 1 < W8.heap.size := by omega
  have hmi : w7.heap.size < w7.heap.size + 1 := by omega
  clear hs7
  generalize w7.heap.size = ib at *
  generalize ib + 1 = mb at *
  clear hs01 hs02 hl01 hl02 hs8
  have hn9 := tape_next B tb (k2 + 1 + 1 + 1 + 1 + 1) 14 W8 ht8 (by omega) (by omega) (by omega)
  clear ht8
  go_wp2_with fail
  refine hn9.mono ?_
  rintro e w9 ⟨r9, rfl, hr91, hr92, ht9, hf9⟩
  have qi9 := hf9.heap qi (fun e => by unfold Is at e; omega)
  have qm9 := hf9.heap qm (fun e => by unfold Is at e; omega)
  have q9 := hf9.heap q8 (fun e => by unfold Is at e; omega)
  have Hf9 : Hid (Fr (TB tb w.heap.size) w w9) := (Hf8.out.step hf9 (fun _ _ h => h)).mono (fun b _ h => .inl h)
  have hs9 := hf9.size
  have hS9 : Strs w9 (some ⟨ib, 0, none⟩) 1 [z] := Strs.of_block (l := [z]) qi9 (by unfold maxLen; simp)
  have hB9 : BlkT w9 (some ⟨ib, 0, none⟩) 9 := fun ad e => by cases e; exact ⟨_, qi9⟩
  have Hi9 := Lib.hid qi9
  have HS9 := Lib.hid (And.intro hS9 hB9)
  clear hn9 qi qm q8 hf9 Hf8 qi9 hS9 hB9
  rcases hr0 : (r9 == 0) with _ | _
  · rcases hr1' : (r9 == 1) with _ | _
    · rcases hr2' : (r9 == 2) with _ | _
      · rcases hr3' : (r9 == 3) with _ | _
        · have HtW := Lib.hid ht9
          have HF : Hid (∀ ad : Addr, some (⟨ib, 0, none⟩ : Addr) = some ad → w.heap.size < ad.block) := fun ad e => by cases e; exact hib
          clear ht9
          have u0 : w9.cell? ⟨mb, 0, none⟩ = some (.string p) := cell_of_block qm9 0
          have u1 : w9.cell? ⟨mb, 1, none⟩ = some (.string y) := cell_of_block qm9 1
          have u2 : w9.cell? ⟨mb, 2, none⟩ = some (.int .i64 rd) := cell_of_block qm9 2
          have u3 : w9.cell? ⟨mb, 3, none⟩ = some (.int .i64 s) := cell_of_block qm9 3
          have u4 : w9.cell? ⟨mb, 4, none⟩ = some (.int .i64 (t : Int)) := cell_of_block qm9 4
          have u5 : w9.cell? ⟨mb, 5, none⟩ = some (.int .i64 le) := cell_of_block qm9 5
          have u6 : w9.cell? ⟨mb, 6, none⟩ = some (.slice (some ⟨ib, 0, none⟩) 1 1) := cell_of_block qm9 6
          have b0 : w9.cell? ⟨w.heap.size, 0, none⟩ = some (.string ⟨#[]⟩) := cell_of_block q9 0
          have b1 : w9.cell? ⟨w.heap.size, 1, none⟩ = some (.string ⟨#[]⟩) := cell_of_block q9 1
          have b2 : w9.cell? ⟨w.heap.size, 2, none⟩ = some (.int .i64 0) := cell_of_block q9 2
          have b3 : w9.cell? ⟨w.heap.size, 3, none⟩ = some (.int .i64 0) := cell_of_block q9 3
          have b4 : w9.cell? ⟨w.heap.size, 4, none⟩ = some (.int .i64 0) := cell_of_block q9 4
          have b5 : w9.cell? ⟨w.heap.size, 5, none⟩ = some (.int .i64 0) := cell_of_block q9 5
          have b6 : w9.cell? ⟨w.heap.size, 6, none⟩ = some (.slice none 0 0) := cell_of_block q9 6
          have f0 : w9.frozen? ⟨w.heap.size, 0, none⟩ = false := free_of_block q9 0
          have f1 : w9.frozen? ⟨w.heap.size, 1, none⟩ = false := free_of_block q9 1
          have f2 : w9.frozen? ⟨w.heap.size, 2, none⟩ = false := free_of_block q9 2
          have f3 : w9.frozen? ⟨w.heap.size, 3, none⟩ = false := free_of_block q9 3
          have f4 : w9.frozen? ⟨w.heap.size, 4, none⟩ = false := free_of_block q9 4
          have f5 : w9.frozen? ⟨w.heap.size, 5, none⟩ = false := free_of_block q9 5
          have f6 : w9.frozen? ⟨w.heap.size, 6, none⟩ = false := free_of_block q9 6
          have h7 := set7 q9 rfl (.string p) (.string y) (.int .i64 rd) (.int .i64 s) (.int .i64 (t : Int)) (.int .i64 le) (.slice (some ⟨ib, 0, none⟩) 1 1)
          have HR := Lib.hid (And.intro (HS9.out.1.fr h7.2 (fun ad e _ h => by have := HF.out ad e; unfold Is at h; omega)) (And.intro (HS9.out.2.fr h7.2 (fun ad e h => by have := HF.out ad e; unfold Is at h; omega)) (And.intro (HtW.out.fr h7.2 (fun b hb e => by unfold Is at e; omega) (fun e => by unfold Is at e; omega)) ((Hf9.out.step h7.2 (fun b _ h => by unfold Is at h; exact .inr (by omega))).mono (T := Is tb) (fun b hb h => by unfold TB at h; unfold Is; omega)))))
          have Hq := Lib.hid h7.1
          clear h7 qm9 q9
          go_wp2_with fail
          have y0 := cell_of_block Hq.out 0
          have y1 := cell_of_block Hq.out 1
          have y2 := cell_of_block Hq.out 2
          have y3 := cell_of_block Hq.out 3
          have y4 := cell_of_block Hq.out 4
          have y5 := cell_of_block Hq.out 5
          have y6 := cell_of_block Hq.out 6
          refine bodyPost_ret (v := .agg #[.string p, .string y, .int .i64 rd, .int .i64 s, .int .i64 (t : Int), .int .i64 le, .slice (some ⟨ib, 0, none⟩) 1 1]) (by simp [results, Tryz.results51, go_sem, y0, y1, y2, y3, y4, y5, y6]) rfl ?_
          exact ⟨⟨⟨p, y, rd, s, (t : Int), le, some ⟨ib, 0, none⟩, [z], 1⟩, k2 + 1 + 1 + 1 + 1 + 1 + 1, rfl, ⟨HR.out.1, HR.out.2.1⟩, fun ad e => by have := HF.out ad e; omega, ⟨by first | exact hp | omega, Hy.out, ⟨hrd1, by show rd ≤ 2; omega⟩, ⟨by show -1 ≤ s; omega, by show s ≤ 19; omega⟩, ⟨by show -1 ≤ (t : Int); omega, by show (t : Int) ≤ 19; omega⟩, ⟨hlr.1, hlr.2⟩, by simp, fun x hx => by obtain rfl : x = z := (by simpa using hx); exact hzs⟩, by omega, HR.out.2.2.1⟩, HR.out.2.2.2⟩
        · have hS10 := Strs.of_block (l := mbPaths) (block_alloc w9 (.cells (mbPaths.map Value.string).toArray 9)) (by unfold maxLen mbPaths; simp)
          have hx10 : Fr No w9 (w9.alloc (.cells (mbPaths.map Value.string).toArray 9)) := (Fr.refl _ _).alloc _
          have hone := tape_one B tb (k2 + 1 + 1 + 1 + 1 + 1 + 1) (some ⟨w9.heap.size, 0, none⟩) 4 mbPaths _ (ht9.fr hx10 (fun _ _ => id) id) (by omega) hS10 (by decide) (by decide) (fun ad e => by cases e; show w9.heap.size ≠ tb; omega)
          have qx := hx10.heap qm9 id
          have qx0 := hx10.heap q9 id
          clear hS10 ht9 qm9 q9
          go_wp2_with fail
          refine hone.mono ?_
          rintro e wa ⟨⟨sp, rfl, hsp⟩, hta, hfa⟩
          have hps := mbPaths_size sp hsp
          have qa := hfa.heap qx (fun e => by unfold Is at e; omega)
          have qa0 := hfa.heap qx0 (fun e => by unfold Is at e; omega)
          have hf9a : Fr (TB tb w.heap.size) w9 wa := (hx10.mono (fun _ _ h => h.elim)).step hfa (fun b _ h => .inl h)
          have hsa := hf9a.size
          have z0 : wa.cell? ⟨mb, 0, none⟩ = some (.string p) := cell_of_block qa 0
          have fz : wa.frozen? ⟨mb, 0, none⟩ = false := free_of_block qa 0
          have hfs : Fr (Is mb) wa (wa.setCell ⟨mb, 0, none⟩ (.string sp)) := Fr.setCell (S := Is mb) (p := ⟨mb, 0, none⟩) (Fr.refl _ _) (fun _ => rfl) _
          have qb : (wa.setCell ⟨mb, 0, none⟩ (.string sp)).heap[mb]? = some (.cells #[.string sp, .string y, .int .i64 rd, .int .i64 s, .int .i64 (t : Int), .int .i64 le, .slice (some ⟨ib, 0, none⟩) 1 1] 58) := block_setCell qa 0 (.string sp)
          have qb0 := hfs.heap qa0 (fun e => by unfold Is at e; omega)
          have HtW := Lib.hid (hta.fr hfs (fun b hb e => by unfold Is at e; omega) (fun e => by unfold Is at e; omega))
          have HF : Hid (∀ ad : Addr, some (⟨ib, 0, none⟩ : Addr) = some ad → w.heap.size < ad.block) := fun ad e => by cases e; exact hib
          have hf9b : Fr (fun b => b = tb ∨ b = mb) w9 (wa.setCell ⟨mb, 0, none⟩ (.string sp)) := ((hx10.mono (T := fun b => b = tb ∨ b = mb) (fun _ _ h => h.elim)).step hfa (fun b _ h => .inl h)).step hfs (fun b _ h => .inr h)
          have HB := Lib.hid (And.intro (HS9.out.1.fr hf9b (fun ad e _ h => by cases e; simp only at h; omega)) (And.intro (HS9.out.2.fr hf9b (fun ad e h => by cases e; simp only at h; omega)) (Hf9.out.step hf9b (fun b _ h => h.elim .inl (fun h => .inr (by omega))))))
          clear hfs qa qa0 hta hfa hf9a hf9b HS9 hone qx qx0 hsp hx10
          go_upto_region 12 with (fail)
          generalize wa.setCell ⟨mb, 0, none⟩ (.string sp) = Wb at *
          clear z0 fz
          have u0 : Wb.cell? ⟨mb, 0, none⟩ = some (.string sp) := cell_of_block qb 0
          have u1 : Wb.cell? ⟨mb, 1, none⟩ = some (.string y) := cell_of_block qb 1
          have u2 : Wb.cell? ⟨mb, 2, none⟩ = some (.int .i64 rd) := cell_of_block qb 2
          have u3 : Wb.cell? ⟨mb, 3, none⟩ = some (.int .i64 s) := cell_of_block qb 3
          have u4 : Wb.cell? ⟨mb, 4, none⟩ = some (.int .i64 (t : Int)) := cell_of_block qb 4
          have u5 : Wb.cell? ⟨mb, 5, none⟩ = some (.int .i64 le) := cell_of_block qb 5
          have u6 : Wb.cell? ⟨mb, 6, none⟩ = some (.slice (some ⟨ib, 0, none⟩) 1 1) := cell_of_block qb 6
          have b0 : Wb.cell? ⟨w.heap.size, 0, none⟩ = some (.string ⟨#[]⟩) := cell_of_block qb0 0
          have b1 : Wb.cell? ⟨w.heap.size, 1, none⟩ = some (.string ⟨#[]⟩) := cell_of_block qb0 1
          have b2 : Wb.cell? ⟨w.heap.size, 2, none⟩ = some (.int .i64 0) := cell_of_block qb0 2
          have b3 : Wb.cell? ⟨w.heap.size, 3, none⟩ = some (.int .i64 0) := cell_of_block qb0 3
          have b4 : Wb.cell? ⟨w.heap.size, 4, none⟩ = some (.int .i64 0) := cell_of_block qb0 4
          have b5 : Wb.cell? ⟨w.heap.size, 5, none⟩ = some (.int .i64 0) := cell_of_block qb0 5
          have b6 : Wb.cell? ⟨w.heap.size, 6, none⟩ = some (.slice none 0 0) := cell_of_block qb0 6
          have f0 : Wb.frozen? ⟨w.heap.size, 0, none⟩ = false := free_of_block qb0 0
          have f1 : Wb.frozen? ⟨w.heap.size, 1, none⟩ = false := free_of_block qb0 1
          have f2 : Wb.frozen? ⟨w.heap.size, 2, none⟩ = false := free_of_block qb0 2
          have f3 : Wb.frozen? ⟨w.heap.size, 3, none⟩ = false := free_of_block qb0 3
          have f4 : Wb.frozen? ⟨w.heap.size, 4, none⟩ = false := free_of_block qb0 4
          have f5 : Wb.frozen? ⟨w.heap.size, 5, none⟩ = false := free_of_block qb0 5
          have f6 : Wb.frozen? ⟨w.heap.size, 6, none⟩ = false := free_of_block qb0 6
          have h7 := set7 qb0 rfl (.string sp) (.string y) (.int .i64 rd) (.int .i64 s) (.int .i64 (t : Int)) (.int .i64 le) (.slice (some ⟨ib, 0, none⟩) 1 1)
          have HR := Lib.hid (And.intro (HB.out.1.fr h7.2 (fun ad e _ h => by have := HF.out ad e; unfold Is at h; omega)) (And.intro (HB.out.2.1.fr h7.2 (fun ad e h => by have := HF.out ad e; unfold Is at h; omega)) (And.intro (HtW.out.fr h7.2 (fun b hb e => by unfold Is at e; omega) (fun e => by unfold Is at e; omega)) ((HB.out.2.2.step h7.2 (fun b _ h => by unfold Is at h; exact .inr (by omega))).mono (T := Is tb) (fun b hb h => by unfold TB at h; unfold Is; omega)))))
          have Hq := Lib.hid h7.1
          clear h7 qb qb0
          go_wp2_with fail
          have y0 := cell_of_block Hq.out 0
          have y1 := cell_of_block Hq.out 1
          have y2 := cell_of_block Hq.out 2
          have y3 := cell_of_block Hq.out 3
          have y4 := cell_of_block Hq.out 4
          have y5 := cell_of_block Hq.out 5
          have y6 := cell_of_block Hq.out 6
          refine bodyPost_ret (v := .agg #[.string sp, .string y, .int .i64 rd, .int .i64 s, .int .i64 (t : Int), .int .i64 le, .slice (some ⟨ib, 0, none⟩) 1 1]) (by simp [results, Tryz.results51, go_sem, y0, y1, y2, y3, y4, y5, y6]) rfl ?_
          exact ⟨⟨⟨sp, y, rd, s, (t : Int), le, some ⟨ib, 0, none⟩, [z], 1⟩, k2 + 1 + 1 + 1 + 1 + 1 + 1 + 1, rfl, ⟨HR.out.1, HR.out.2.1⟩, fun ad e => by have := HF.out ad e; omega, ⟨by first | exact (by show sp.size ≤ 100; omega) | omega, Hy.out, ⟨hrd1, by show rd ≤ 2; omega⟩, ⟨by show -1 ≤ s; omega, by show s ≤ 19; omega⟩, ⟨by show -1 ≤ (t : Int); omega, by show (t : Int) ≤ 19; omega⟩, ⟨hlr.1, hlr.2⟩, by simp, fun x hx => by obtain rfl : x = z := (by simpa using hx); exact hzs⟩, by omega, HR.out.2.2.1⟩, HR.out.2.2.2⟩
      · -- one more inner text
        have HtW0 := Lib.hid ht9
        have hown : w9.ownsRow ib 9 1 (.slice (some ⟨ib, 0, none⟩) 1 1) 1 [.string z] := own_new (w := w9) (b := ib) (base := ib) (l := [z]) Hi9.out (Nat.le_refl _) (by unfold maxLen; simp)
        have Hown := Lib.hid hown
        have y6 : w9.cell? ⟨mb, 6, none⟩ = some (.slice (some ⟨ib, 0, none⟩) 1 1) := cell_of_block qm9 6
        have hal : Fr No w9 (w9.alloc (.cells #[.string mbFz] 9)) := (Fr.refl _ _).alloc _
        have Hqm := Lib.hid qm9
        have Hq9 := Lib.hid q9
        clear ht9 qm9 q9
        go_upto_region 12 with (at_builtin; refine wpList_append_own _ rfl _ _ 33 rfl ib 9 i0 (.string ByteArray.empty) 1 16 Tryz.underlying33 hi0 hz0 hz1 hz2 rfl (by decide) _ _ _ rfl (hown.alloc _) ⟨w9.heap.size, 0, none⟩ 1 1 [.string mbFz] rfl rfl (cell_one_new _ _ _) (strs_one [mbFz]) (by unfold maxLen; simp) (by omega) (by first | omega | (simp; done) | (simp; omega)) ?_; intro v' wc hownc hgrowc _; obtain ⟨av', cv', rfl⟩ := ownsRow_slice hownc; have hgf : Fr (fun b => (Value.slice (some ⟨ib, 0, none⟩) 1 1).ownBlock = some b) (w9.alloc (.cells #[.string mbFz] 9)) wc := Fr.of_grown hgrowc; have qc := hgf.heap (hal.heap Hqm.out id) (fun h => by have h1 : ib = mb := Option.some.inj h; omega); have z6 := cell_of_block qc 6; have f6 := free_of_block qc 6)
        have hownd : wc.ownsRow ib 9 1 (.slice av' ([z, mbFz] : List ByteArray).length cv') ([z, mbFz] : List ByteArray).length (([z, mbFz] : List ByteArray).map Value.string) := by simpa using hownc
        obtain ⟨a', c', hv, hSc, hFc⟩ := Strs.of_own hownd
        cases hv
        have hBc := own_typ hownd
        have hf9c : Fr (fun b => b = ib) w9 wc := (hal.mono (fun _ _ h => h.elim)).step hgf (fun b _ h => by have h1 : ib = b := Option.some.inj h; exact h1.symm)
        have qc0 := hf9c.heap Hq9.out (fun h => by omega)
        have hsc := hf9c.size
        have hfs : Fr (Is mb) wc (wc.setCell ⟨mb, 6, none⟩ (.slice av' 2 cv')) := Fr.setCell (S := Is mb) (p := ⟨mb, 6, none⟩) (Fr.refl _ _) (fun _ => rfl) _
        have hmc := lt_of_block qc
        have qb : (wc.setCell ⟨mb, 6, none⟩ (.slice av' 2 cv')).heap[mb]? = some (.cells #[.string p, .string y, .int .i64 rd, .int .i64 s, .int .i64 (t : Int), .int .i64 le, .slice av' 2 cv'] 58) := block_setCell qc 6 (.slice av' 2 cv')
        have qb0 := hfs.heap qc0 (fun e => by unfold Is at e; omega)
        have HtW := Lib.hid ((HtW0.out.fr hf9c (fun b hb e => by omega) (fun e => by omega)).fr hfs (fun b hb e => by unfold Is at e; omega) (fun e => by unfold Is at e; omega))
        have hne : ∀ ad, av' = some ad → ad.block ≠ mb := fun ad e h => by
          obtain ⟨cs, hcs⟩ := hBc ad e
          rw [h, qc] at hcs
          simp at hcs
        have HF : Hid (∀ ad : Addr, av' = some ad → w.heap.size < ad.block) := fun ad e => by have := hFc ad e; omega
        have HB := Lib.hid (And.intro (hSc.fr hfs (fun ad e _ h => by have := hne ad e; unfold Is at h; omega)) (And.intro (hBc.fr hfs (fun ad e h => by have := hne ad e; unfold Is at h; omega)) ((Hf9.out.step hf9c (fun b _ h => .inr (by omega))).step hfs (fun b _ h => by unfold Is at h; exact .inr (by omega)))))
        clear hownc hownd hgrowc hgf hal qc qc0 hf9c hfs hSc hBc hFc hne HS9 HtW0 Hown hown y6
        generalize wc.setCell ⟨mb, 6, none⟩ (.slice av' 2 cv') = Wb at *
        clear z6 f6
        have u0 : Wb.cell? ⟨mb, 0, none⟩ = some (.string p) := cell_of_block qb 0
        have u1 : Wb.cell? ⟨mb, 1, none⟩ = some (.string y) := cell_of_block qb 1
        have u2 : Wb.cell? ⟨mb, 2, none⟩ = some (.int .i64 rd) := cell_of_block qb 2
        have u3 : Wb.cell? ⟨mb, 3, none⟩ = some (.int .i64 s) := cell_of_block qb 3
        have u4 : Wb.cell? ⟨mb, 4, none⟩ = some (.int .i64 (t : Int)) := cell_of_block qb 4
        have u5 : Wb.cell? ⟨mb, 5, none⟩ = some (.int .i64 le) := cell_of_block qb 5
        have u6 : Wb.cell? ⟨mb, 6, none⟩ = some (.slice av' 2 cv') := cell_of_block qb 6
        have b0 : Wb.cell? ⟨w.heap.size, 0, none⟩ = some (.string ⟨#[]⟩) := cell_of_block qb0 0
        have b1 : Wb.cell? ⟨w.heap.size, 1, none⟩ = some (.string ⟨#[]⟩) := cell_of_block qb0 1
        have b2 : Wb.cell? ⟨w.heap.size, 2, none⟩ = some (.int .i64 0) := cell_of_block qb0 2
        have b3 : Wb.cell? ⟨w.heap.size, 3, none⟩ = some (.int .i64 0) := cell_of_block qb0 3
        have b4 : Wb.cell? ⟨w.heap.size, 4, none⟩ = some (.int .i64 0) := cell_of_block qb0 4
        have b5 : Wb.cell? ⟨w.heap.size, 5, none⟩ = some (.int .i64 0) := cell_of_block qb0 5
        have b6 : Wb.cell? ⟨w.heap.size, 6, none⟩ = some (.slice none 0 0) := cell_of_block qb0 6
        have f0 : Wb.frozen? ⟨w.heap.size, 0, none⟩ = false := free_of_block qb0 0
        have f1 : Wb.frozen? ⟨w.heap.size, 1, none⟩ = false := free_of_block qb0 1
        have f2 : Wb.frozen? ⟨w.heap.size, 2, none⟩ = false := free_of_block qb0 2
        have f3 : Wb.frozen? ⟨w.heap.size, 3, none⟩ = false := free_of_block qb0 3
        have f4 : Wb.frozen? ⟨w.heap.size, 4, none⟩ = false := free_of_block qb0 4
        have f5 : Wb.frozen? ⟨w.heap.size, 5, none⟩ = false := free_of_block qb0 5
        have f6 : Wb.frozen? ⟨w.heap.size, 6, none⟩ = false := free_of_block qb0 6
        have h7 := set7 qb0 rfl (.string p) (.string y) (.int .i64 rd) (.int .i64 s) (.int .i64 (t : Int)) (.int .i64 le) (.slice av' 2 cv')
        have HR := Lib.hid (And.intro (HB.out.1.fr h7.2 (fun ad e _ h => by have := HF.out ad e; unfold Is at h; omega)) (And.intro (HB.out.2.1.fr h7.2 (fun ad e h => by have := HF.out ad e; unfold Is at h; omega)) (And.intro (HtW.out.fr h7.2 (fun b hb e => by unfold Is at e; omega) (fun e => by unfold Is at e; omega)) ((HB.out.2.2.step h7.2 (fun b _ h => by unfold Is at h; exact .inr (by omega))).mono (T := Is tb) (fun b hb h => by unfold TB at h; unfold Is; omega)))))
        have Hq := Lib.hid h7.1
        clear h7 qb qb0
        go_wp2_with fail
        have y0 := cell_of_block Hq.out 0
        have y1 := cell_of_block Hq.out 1
        have y2 := cell_of_block Hq.out 2
        have y3 := cell_of_block Hq.out 3
        have y4 := cell_of_block Hq.out 4
        have y5 := cell_of_block Hq.out 5
        have y6 := cell_of_block Hq.out 6
        refine bodyPost_ret (v := .agg #[.string p, .string y, .int .i64 rd, .int .i64 s, .int .i64 (t : Int), .int .i64 le, .slice av' 2 cv']) (by simp [results, Tryz.results51, go_sem, y0, y1, y2, y3, y4, y5, y6]) rfl ?_
        exact ⟨⟨⟨p, y, rd, s, (t : Int), le, av', [z, mbFz], cv'⟩, k2 + 1 + 1 + 1 + 1 + 1 + 1, rfl, ⟨HR.out.1, HR.out.2.1⟩, fun ad e => by have := HF.out ad e; omega, ⟨by first | exact hp | omega, Hy.out, ⟨hrd1, by show rd ≤ 2; omega⟩, ⟨by show -1 ≤ s; omega, by show s ≤ 19; omega⟩, ⟨by show -1 ≤ (t : Int); omega, by show (t : Int) ≤ 19; omega⟩, ⟨hlr.1, hlr.2⟩, by simp, fun x hx => by rcases List.mem_cons.1 hx with rfl | hx; exact hzs; obtain rfl : x = mbFz := (by simpa using hx); exact (by decide : mbFz.size ≤ 5)⟩, by omega, HR.out.2.2.1⟩, HR.out.2.2.2⟩
    · have hn10 := tape_next B tb (k2 + 1 + 1 + 1 + 1 + 1 + 1) 20 w9 ht9 (by omega) (by omega) (by omega)
      clear ht9
      go_wp2_with fail
      refine hn10.mono ?_
      rintro e wa ⟨rx, rfl, hrx1, hrx2, hta, hfa⟩
      have qa := hfa.heap qm9 (fun e => by unfold Is at e; omega)
      have qa0 := hfa.heap q9 (fun e => by unfold Is at e; omega)
      have hf9a : Fr (TB tb w.heap.size) w9 wa := hfa.mono (fun b _ h => .inl h)
      have hsa := hf9a.size
      clear hn10 qm9 q9
      have z4 : wa.cell? ⟨mb, 4, none⟩ = some (.int .i64 (t : Int)) := cell_of_block qa 4
      have fz : wa.frozen? ⟨mb, 4, none⟩ = false := free_of_block qa 4
      have hfs : Fr (Is mb) wa (wa.setCell ⟨mb, 4, none⟩ (.int .i64 (rx - 1))) := Fr.setCell (S := Is mb) (p := ⟨mb, 4, none⟩) (Fr.refl _ _) (fun _ => rfl) _
      have qb : (wa.setCell ⟨mb, 4, none⟩ (.int .i64 (rx - 1))).heap[mb]? = some (.cells #[.string p, .string y, .int .i64 rd, .int .i64 s, .int .i64 (rx - 1), .int .i64 le, .slice (some ⟨ib, 0, none⟩) 1 1] 58) := block_setCell qa 4 (.int .i64 (rx - 1))
      have qb0 := hfs.heap qa0 (fun e => by unfold Is at e; omega)
      have HtW := Lib.hid (hta.fr hfs (fun b hb e => by unfold Is at e; omega) (fun e => by unfold Is at e; omega))
      have HF : Hid (∀ ad : Addr, some (⟨ib, 0, none⟩ : Addr) = some ad → w.heap.size < ad.block) := fun ad e => by cases e; exact hib
      have hf9b : Fr (fun b => b = tb ∨ b = mb) w9 (wa.setCell ⟨mb, 4, none⟩ (.int .i64 (rx - 1))) := (hfa.mono (T := fun b => b = tb ∨ b = mb) (fun b _ h => .inl h)).step hfs (fun b _ h => .inr h)
      have HB := Lib.hid (And.intro (HS9.out.1.fr hf9b (fun ad e _ h => by cases e; simp only at h; omega)) (And.intro (HS9.out.2.fr hf9b (fun ad e h => by cases e; simp only at h; omega)) (Hf9.out.step hf9b (fun b _ h => h.elim .inl (fun h => .inr (by omega))))))
      clear hfs qa qa0 hta hfa hf9a hf9b HS9 hr91
      go_upto_region 12 with (fail)
      generalize wa.setCell ⟨mb, 4, none⟩ (.int .i64 (rx - 1)) = Wb at *
      clear z4 fz
      have u0 : Wb.cell? ⟨mb, 0, none⟩ = some (.string p) := cell_of_block qb 0
      have u1 : Wb.cell? ⟨mb, 1, none⟩ = some (.string y) := cell_of_block qb 1
      have u2 : Wb.cell? ⟨mb, 2, none⟩ = some (.int .i64 rd) := cell_of_block qb 2
      have u3 : Wb.cell? ⟨mb, 3, none⟩ = some (.int .i64 s) := cell_of_block qb 3
      have u4 : Wb.cell? ⟨mb, 4, none⟩ = some (.int .i64 (rx - 1)) := cell_of_block qb 4
      have u5 : Wb.cell? ⟨mb, 5, none⟩ = some (.int .i64 le) := cell_of_block qb 5
      have u6 : Wb.cell? ⟨mb, 6, none⟩ = some (.slice (some ⟨ib, 0, none⟩) 1 1) := cell_of_block qb 6
      have b0 : Wb.cell? ⟨w.heap.size, 0, none⟩ = some (.string ⟨#[]⟩) := cell_of_block qb0 0
      have b1 : Wb.cell? ⟨w.heap.size, 1, none⟩ = some (.string ⟨#[]⟩) := cell_of_block qb0 1
      have b2 : Wb.cell? ⟨w.heap.size, 2, none⟩ = some (.int .i64 0) := cell_of_block qb0 2
      have b3 : Wb.cell? ⟨w.heap.size, 3, none⟩ = some (.int .i64 0) := cell_of_block qb0 3
      have b4 : Wb.cell? ⟨w.heap.size, 4, none⟩ = some (.int .i64 0) := cell_of_block qb0 4
      have b5 : Wb.cell? ⟨w.heap.size, 5, none⟩ = some (.int .i64 0) := cell_of_block qb0 5
      have b6 : Wb.cell? ⟨w.heap.size, 6, none⟩ = some (.slice none 0 0) := cell_of_block qb0 6
      have f0 : Wb.frozen? ⟨w.heap.size, 0, none⟩ = false := free_of_block qb0 0
      have f1 : Wb.frozen? ⟨w.heap.size, 1, none⟩ = false := free_of_block qb0 1
      have f2 : Wb.frozen? ⟨w.heap.size, 2, none⟩ = false := free_of_block qb0 2
      have f3 : Wb.frozen? ⟨w.heap.size, 3, none⟩ = false := free_of_block qb0 3
      have f4 : Wb.frozen? ⟨w.heap.size, 4, none⟩ = false := free_of_block qb0 4
      have f5 : Wb.frozen? ⟨w.heap.size, 5, none⟩ = false := free_of_block qb0 5
      have f6 : Wb.frozen? ⟨w.heap.size, 6, none⟩ = false := free_of_block qb0 6
      have h7 := set7 qb0 rfl (.string p) (.string y) (.int .i64 rd) (.int .i64 s) (.int .i64 (rx - 1)) (.int .i64 le) (.slice (some ⟨ib, 0, none⟩) 1 1)
      have HR := Lib.hid (And.intro (HB.out.1.fr h7.2 (fun ad e _ h => by have := HF.out ad e; unfold Is at h; omega)) (And.intro (HB.out.2.1.fr h7.2 (fun ad e h => by have := HF.out ad e; unfold Is at h; omega)) (And.intro (HtW.out.fr h7.2 (fun b hb e => by unfold Is at e; omega) (fun e => by unfold Is at e; omega)) ((HB.out.2.2.step h7.2 (fun b _ h => by unfold Is at h; exact .inr (by omega))).mono (T := Is tb) (fun b hb h => by unfold TB at h; unfold Is; omega)))))
      have Hq := Lib.hid h7.1
      clear h7 qb qb0
      go_wp2_with fail
      have y0 := cell_of_block Hq.out 0
      have y1 := cell_of_block Hq.out 1
      have y2 := cell_of_block Hq.out 2
      have y3 := cell_of_block Hq.out 3
      have y4 := cell_of_block Hq.out 4
      have y5 := cell_of_block Hq.out 5
      have y6 := cell_of_block Hq.out 6
      refine bodyPost_ret (v := .agg #[.string p, .string y, .int .i64 rd, .int .i64 s, .int .i64 (rx - 1), .int .i64 le, .slice (some ⟨ib, 0, none⟩) 1 1]) (by simp [results, Tryz.results51, go_sem, y0, y1, y2, y3, y4, y5, y6]) rfl ?_
      exact ⟨⟨⟨p, y, rd, s, (rx - 1), le, some ⟨ib, 0, none⟩, [z], 1⟩, k2 + 1 + 1 + 1 + 1 + 1 + 1 + 1, rfl, ⟨HR.out.1, HR.out.2.1⟩, fun ad e => by have := HF.out ad e; omega, ⟨by first | exact hp | omega, Hy.out, ⟨hrd1, by show rd ≤ 2; omega⟩, ⟨by show -1 ≤ s; omega, by show s ≤ 19; omega⟩, ⟨by show -1 ≤ (rx - 1); omega, by show (rx - 1) ≤ 19; omega⟩, ⟨hlr.1, hlr.2⟩, by simp, fun x hx => by obtain rfl : x = z := (by simpa using hx); exact hzs⟩, by omega, HR.out.2.2.1⟩, HR.out.2.2.2⟩
  · have hn10 := tape_next B tb (k2 + 1 + 1 + 1 + 1 + 1 + 1) 20 w9 ht9 (by omega) (by omega) (by omega)
    clear ht9
    go_wp2_with fail
    refine hn10.mono ?_
    rintro e wa ⟨rx, rfl, hrx1, hrx2, hta, hfa⟩
    have qa := hfa.heap qm9 (fun e => by unfold Is at e; omega)
    have qa0 := hfa.heap q9 (fun e => by unfold Is at e; omega)
    have hf9a : Fr (TB tb w.heap.size) w9 wa := hfa.mono (fun b _ h => .inl h)
    have hsa := hf9a.size
    clear hn10 qm9 q9
    have z3 : wa.cell? ⟨mb, 3, none⟩ = some (.int .i64 s) := cell_of_block qa 3
    have fz : wa.frozen? ⟨mb, 3, none⟩ = false := free_of_block qa 3
    have hfs : Fr (Is mb) wa (wa.setCell ⟨mb, 3, none⟩ (.int .i64 (rx - 1))) := Fr.setCell (S := Is mb) (p := ⟨mb, 3, none⟩) (Fr.refl _ _) (fun _ => rfl) _
    have qb : (wa.setCell ⟨mb, 3, none⟩ (.int .i64 (rx - 1))).heap[mb]? = some (.cells #[.string p, .string y, .int .i64 rd, .int .i64 (rx - 1), .int .i64 (t : Int), .int .i64 le, .slice (some ⟨ib, 0, none⟩) 1 1] 58) := block_setCell qa 3 (.int .i64 (rx - 1))
    have qb0 := hfs.heap qa0 (fun e => by unfold Is at e; omega)
    have HtW := Lib.hid (hta.fr hfs (fun b hb e => by unfold Is at e; omega) (fun e => by unfold Is at e; omega))
    have HF : Hid (∀ ad : Addr, some (⟨ib, 0, none⟩ : Addr) = some ad → w.heap.size < ad.block) := fun ad e => by cases e; exact hib
    have hf9b : Fr (fun b => b = tb ∨ b = mb) w9 (wa.setCell ⟨mb, 3, none⟩ (.int .i64 (rx - 1))) := (hfa.mono (T := fun b => b = tb ∨ b = mb) (fun b _ h => .inl h)).step hfs (fun b _ h => .inr h)
    have HB := Lib.hid (And.intro (HS9.out.1.fr hf9b (fun ad e _ h => by cases e; simp only at h; omega)) (And.intro (HS9.out.2.fr hf9b (fun ad e h => by cases e; simp only at h; omega)) (Hf9.out.step hf9b (fun b _ h => h.elim .inl (fun h => .inr (by omega))))))
    clear hfs qa qa0 hta hfa hf9a hf9b HS9 hr91
    go_upto_region 12 with (fail)
    generalize wa.setCell ⟨mb, 3, none⟩ (.int .i64 (rx - 1)) = Wb at *
    clear z3 fz
    have u0 : Wb.cell? ⟨mb, 0, none⟩ = some (.string p) := cell_of_block qb 0
    have u1 : Wb.cell? ⟨mb, 1, none⟩ = some (.string y) := cell_of_block qb 1
    have u2 : Wb.cell? ⟨mb, 2, none⟩ = some (.int .i64 rd) := cell_of_block qb 2
    have u3 : Wb.cell? ⟨mb, 3, none⟩ = some (.int .i64 (rx - 1)) := cell_of_block qb 3
    have u4 : Wb.cell? ⟨mb, 4, none⟩ = some (.int .i64 (t : Int)) := cell_of_block qb 4
    have u5 : Wb.cell? ⟨mb, 5, none⟩ = some (.int .i64 le) := cell_of_block qb 5
    have u6 : Wb.cell? ⟨mb, 6, none⟩ = some (.slice (some ⟨ib, 0, none⟩) 1 1) := cell_of_block qb 6
    have b0 : Wb.cell? ⟨w.heap.size, 0, none⟩ = some (.string ⟨#[]⟩) := cell_of_block qb0 0
    have b1 : Wb.cell? ⟨w.heap.size, 1, none⟩ = some (.string ⟨#[]⟩) := cell_of_block qb0 1
    have b2 : Wb.cell? ⟨w.heap.size, 2, none⟩ = some (.int .i64 0) := cell_of_block qb0 2
    have b3 : Wb.cell? ⟨w.heap.size, 3, none⟩ = some (.int .i64 0) := cell_of_block qb0 3
    have b4 : Wb.cell? ⟨w.heap.size, 4, none⟩ = some (.int .i64 0) := cell_of_block qb0 4
    have b5 : Wb.cell? ⟨w.heap.size, 5, none⟩ = some (.int .i64 0) := cell_of_block qb0 5
    have b6 : Wb.cell? ⟨w.heap.size, 6, none⟩ = some (.slice none 0 0) := cell_of_block qb0 6
    have f0 : Wb.frozen? ⟨w.heap.size, 0, none⟩ = false := free_of_block qb0 0
    have f1 : Wb.frozen? ⟨w.heap.size, 1, none⟩ = false := free_of_block qb0 1
    have f2 : Wb.frozen? ⟨w.heap.size, 2, none⟩ = false := free_of_block qb0 2
    have f3 : Wb.frozen? ⟨w.heap.size, 3, none⟩ = false := free_of_block qb0 3
    have f4 : Wb.frozen? ⟨w.heap.size, 4, none⟩ = false := free_of_block qb0 4
    have f5 : Wb.frozen? ⟨w.heap.size, 5, none⟩ = false := free_of_block qb0 5
    have f6 : Wb.frozen? ⟨w.heap.size, 6, none⟩ = false := free_of_block qb0 6
    have h7 := set7 qb0 rfl (.string p) (.string y) (.int .i64 rd) (.int .i64 (rx - 1)) (.int .i64 (t : Int)) (.int .i64 le) (.slice (some ⟨ib, 0, none⟩) 1 1)
    have HR := Lib.hid (And.intro (HB.out.1.fr h7.2 (fun ad e _ h => by have := HF.out ad e; unfold Is at h; omega)) (And.intro (HB.out.2.1.fr h7.2 (fun ad e h => by have := HF.out ad e; unfold Is at h; omega)) (And.intro (HtW.out.fr h7.2 (fun b hb e => by unfold Is at e; omega) (fun e => by unfold Is at e; omega)) ((HB.out.2.2.step h7.2 (fun b _ h => by unfold Is at h; exact .inr (by omega))).mono (T := Is tb) (fun b hb h => by unfold TB at h; unfold Is; omega)))))
    have Hq := Lib.hid h7.1
    clear h7 qb qb0
    go_wp2_with fail
    have y0 := cell_of_block Hq.out 0
    have y1 := cell_of_block Hq.out 1
    have y2 := cell_of_block Hq.out 2
    have y3 := cell_of_block Hq.out 3
    have y4 := cell_of_block Hq.out 4
    have y5 := cell_of_block Hq.out 5
    have y6 := cell_of_block Hq.out 6
    refine bodyPost_ret (v := .agg #[.string p, .string y, .int .i64 rd, .int .i64 (rx - 1), .int .i64 (t : Int), .int .i64 le, .slice (some ⟨ib, 0, none⟩) 1 1]) (by simp [results, Tryz.results51, go_sem, y0, y1, y2, y3, y4, y5, y6]) rfl ?_
    exact ⟨⟨⟨p, y, rd, (rx - 1), (t : Int), le, some ⟨ib, 0, none⟩, [z], 1⟩, k2 + 1 + 1 + 1 + 1 + 1 + 1 + 1, rfl, ⟨HR.out.1, HR.out.2.1⟩, fun ad e => by have := HF.out ad e; omega, ⟨by first | exact hp | omega, Hy.out, ⟨hrd1, by show rd ≤ 2; omega⟩, ⟨by show -1 ≤ (rx - 1); omega, by show (rx - 1) ≤ 19; omega⟩, ⟨by show -1 ≤ (t : Int); omega, by show (t : Int) ≤ 19; omega⟩, ⟨hlr.1, hlr.2⟩, by simp, fun x hx => by obtain rfl : x = z := (by simpa using hx); exact hzs⟩, by omega, HR.out.2.2.1⟩, HR.out.2.2.2⟩
end Go.Proofs.YtbblkknndaoefaaGreatDoor
namespace Go.Proofs.YtbblkknndaoefaaGreatDoor
open Go.RowKit Go.Maps
set_option linter.unusedVariables false

/-- What members answers. -/
def MbsRes (w : World) (B tb k n : Nat) (e : Ending) (w' : World) : Prop :=
  ∃ (L : List Mem) (a' : Option Addr) (c' k' : Nat), e = .returned (.slice a' L.length c') ∧ Mems w' a' c' L ∧ (∀ ad, a' = some ad → w.heap.size ≤ ad.block) ∧ MFresh w' w.heap.size L ∧ (∀ m ∈ L, MbOk m) ∧ L.length ≤ n ∧ k' ≤ k + 250 ∧ Tape w' B tb k' ∧ w'.ownsRow w.heap.size 58 7 (.slice a' L.length c') L.length (mflat L)

set_option maxRecDepth 100000 in
set_option maxHeartbeats 8000000 in
theorem made_mbs (B tb k n : Nat) (w : World) (ht : Tape w B tb k) (hk : k ≤ 50000) (hn : n ≤ 9) :
    Calls Tryz.prog 47 #[.pointer (some ⟨tb, 0, none⟩), .int .i64 (n : Int)] w fun e w' => MbsRes w B tb k n e w' ∧ Fr (Is tb) w w' := by
  obtain ⟨i0, hi0, hz0, hz1, hz2⟩ := info_parts infoM
  have htl := ht.lt
  have hBt := ht.le
  have hn1 := tape_next B tb k ((n : Int) + 1) w ht (by omega) (by omega) (by omega)
  go_enter Tryz.func47, Tryz.ntmps47
  go_wp2_with fail
  refine hn1.mono ?_
  rintro e w1 ⟨r, rfl, hr1, hr2, ht1, hf1⟩
  obtain ⟨r, rfl⟩ := Int.eq_ofNat_of_zero_le hr1
  have hf1' : Fr (TB tb w.heap.size) w w1 := hf1.mono (fun b _ h => .inl h)
  have hrn : r ≤ n := by omega
  clear hn1 hr1 hr2 hf1
  go_wp2_with fail
  go_loopw [5, 6] (fun v i wr => ∃ (L : List Mem) (av : Option Addr) (cv j kk : Nat), v = .slice av L.length cv ∧ i = .int .i64 (j : Int) ∧ L.length + j ≤ n ∧ kk + 25 * j ≤ k + 235 ∧ wr.ownsRow w.heap.size 58 7 (.slice av L.length cv) L.length (mflat L) ∧ MFresh wr w.heap.size L ∧ Hid (∀ m ∈ L, MbOk m) ∧ Tape wr B tb kk ∧ Fr (TB tb w.heap.size) w wr) (fun _ i _ => (intOf i).toNat)
  case atStart => exact ⟨[], none, 0, r, k + 1, rfl, rfl, by simp; omega, by omega, World.ownsRow_nil _ _ _ _, fun m hm => by simp at hm, fun m hm => by simp at hm, ht1, hf1'⟩
  case round =>
    obtain ⟨L, av, cv, j, kk, rfl, rfl, hLj, hkk, hown, hMF, Hsm, htr, hf⟩ := hrel
    by_cases hlt : 0 < j
    · have hlt' : (0 : Int) < j := by omega
      have hLl : L.length ≤ 9 := by omega
      have hj8 : j ≤ 9 := by omega
      have hmb := made_mb B tb kk wr htr (by omega)
      have hsr := hf.size
      clear htr
      go_wp2_with fail
      refine hmb.mono ?_
      rintro e w2 ⟨⟨m, k2, rfl, ⟨hS, hB⟩, hF, hok, hk2, ht2⟩, hf2⟩
      have hown2 := ownsRow_at hown hf2 (fun b h e => by have h1 := ownsRow_blk hown h; unfold From at h1; unfold Is at e; omega)
      have hMF2 := hMF.fr hf2 (fun b h1 h2 e => by unfold Is at e; omega)
      have hff2 : Fr (TB tb w.heap.size) w w2 := hf.step hf2 (fun b _ h => .inl h)
      have hs2 := hf2.size
      obtain ⟨mp, mi, mr, ms, mt, me, ma, ml, mc⟩ := m
      simp only at hS hB hF
      unfold Mem.vals
      have Hown := Lib.hid hown2
      have HR := Lib.hid (And.intro hMF2 (And.intro hff2 (And.intro hS (And.intro hB (And.intro hok ht2)))))
      have HF : Hid (∀ ad, ma = some ad → w.heap.size ≤ ad.block) := fun ad e => by have := hF ad e; omega
      have hsw : w.heap.size ≤ w2.heap.size := by omega
      clear hmb hf2 hown hMF hf hMF2 hff2 hS hB hF hok ht2
      go_wp2_with (at_builtin; refine wpList_append_own _ rfl _ _ 23 rfl w.heap.size 58 i0 (.agg #[.string ByteArray.empty, .string ByteArray.empty, .int .i64 0, .int .i64 0, .int .i64 0, .int .i64 0, .slice none 0 0]) 7 88 Tryz.underlying23 hi0 hz0 hz1 hz2 rfl (by decide) _ _ _ rfl (hown2.alloc _) ⟨w2.heap.size, 0, none⟩ 1 1 (Mem.vals ⟨mp, mi, mr, ms, mt, me, ma, ml, mc⟩).toList rfl rfl (cells_new _ (Mem.vals ⟨mp, mi, mr, ms, mt, me, ma, ml, mc⟩) _ rfl) (mvals_one _) (by unfold maxLen; omega) (by omega) (by first | omega | (simp; done) | (simp; omega)) ?_; intro v' w9 hown9 hgrow9 _; obtain ⟨av', cv', rfl⟩ := ownsRow_slice hown9)
      have hal : Fr No w2 (w2.alloc (.cells #[.string mp, .string mi, .int .i64 mr, .int .i64 ms, .int .i64 mt, .int .i64 me, .slice ma ml.length mc] 58)) := (Fr.refl _ _).alloc _
      have howa := Hown.out.alloc (.cells #[.string mp, .string mi, .int .i64 mr, .int .i64 ms, .int .i64 mt, .int .i64 me, .slice ma ml.length mc] 58)
      have hgf : Fr (fun b => (Value.slice av L.length cv).ownBlock = some b) (w2.alloc (.cells #[.string mp, .string mi, .int .i64 mr, .int .i64 ms, .int .i64 mt, .int .i64 me, .slice ma ml.length mc] 58)) w9 := Fr.of_grown hgrow9
      obtain ⟨hMF2, hff2, hS, hB, hok, ht2⟩ := HR.out
      have hMF9 : MFresh w9 w.heap.size (L ++ [⟨mp, mi, mr, ms, mt, me, ma, ml, mc⟩]) := MFresh.own (MFresh.snoc (hMF2.fr hal (fun _ _ _ => id)) (hS.no hal (fun _ => id)) (hB.fr hal (fun _ _ => id)) HF.out) howa hgf
      have hsm9 : ∀ m ∈ L ++ [(⟨mp, mi, mr, ms, mt, me, ma, ml, mc⟩ : Mem)], MbOk m := fun m hm => by
        rcases List.mem_append.1 hm with h | h
        · exact Hsm.out m h
        · obtain rfl : m = ⟨mp, mi, mr, ms, mt, me, ma, ml, mc⟩ := by simpa using h
          exact hok
      have ht9 := (ht2.fr hal (fun _ _ => id) id).fr hgf (fun b hb h => by have h2 := ownsRow_blk howa h; unfold From at h2; omega) (fun h => by have h2 := ownsRow_blk howa h; unfold From at h2; omega)
      have hf9 : Fr (TB tb w.heap.size) w w9 := (hff2.step hal (fun _ _ h => h.elim)).step hgf (fun b _ h => .inr (ownsRow_blk howa h))
      have HF9 := Lib.hid (And.intro hown9 (And.intro hMF9 (And.intro hsm9 (And.intro ht9 hf9))))
      clear hown9 hMF9 hsm9 ht9 hf9 hgf howa hal hgrow9 hown2 hMF2 hff2 hS hB hok ht2
      go_roundw
      case rel => exact ⟨L ++ [⟨mp, mi, mr, ms, mt, me, ma, ml, mc⟩], av', cv', j - 1, k2, by simp, by go_num, by simp; omega, by omega, by rw [List.length_append, mflat_snoc]; exact HF9.out.1, HF9.out.2.1, Lib.hid HF9.out.2.2.1, HF9.out.2.2.2.1, HF9.out.2.2.2.2⟩
      case measure => simp [intOf]; omega
    · obtain rfl : j = 0 := by omega
      obtain ⟨a', c', hv, hR, hfresh⟩ := Mems.of_own hown (fun m hm => (hMF m hm).1)
      cases hv
      have H := Lib.hid (And.intro hR (And.intro hfresh (And.intro hMF (And.intro (And.intro htr hown) (hf.mono (T := Is tb) (fun b hb h => by unfold TB at h; unfold Is; omega))))))
      clear hown hMF htr hf hR hfresh
      go_wp2_with fail
      go_ret
      exact ⟨⟨L, _, _, kk, rfl, H.out.1, H.out.2.1, H.out.2.2.1, Hsm.out, by omega, by omega, H.out.2.2.2.1.1, H.out.2.2.2.1.2⟩, H.out.2.2.2.2⟩
end Go.Proofs.YtbblkknndaoefaaGreatDoor
