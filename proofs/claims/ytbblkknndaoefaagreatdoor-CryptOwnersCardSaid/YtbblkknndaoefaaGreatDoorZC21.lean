/- Path. layers, keys. keys. Laws on layers: small lemmas. -/
import Derived.Test.YtbblkknndaoefaaGreatDoorZC13
import Derived.Test.YtbblkknndaoefaaGreatDoorZC6
import Derived.Test.YtbblkknndaoefaaGreatDoorZC7
import Derived.Test.YtbblkknndaoefaaGreatDoorZC20
namespace Go.Proofs.YtbblkknndaoefaaGreatDoor
open Go.RowKit Go.Maps
set_option linter.unusedVariables false

def pathNames : List ByteArray := [⟨#[97]⟩, ⟨#[98]⟩, ⟨#[115, 100]⟩, ⟨#[112, 49]⟩, ⟨#[97, 95, 98]⟩, ⟨#[120, 33, 121]⟩, ⟨#[65, 45, 49]⟩]
theorem pathNames_size : ∀ s ∈ pathNames, s.size ≤ 3 := by decide
set_option maxRecDepth 100000 in
set_option maxHeartbeats 1000000 in
theorem made_path (B tb k : Nat) (w : World) (ht : Tape w B tb k) (hk : k ≤ 1000000) :
    Calls Tryz.prog 72 #[.pointer (some ⟨tb, 0, none⟩)] w fun e w' => (∃ s k', e = .returned (.string s) ∧ s.size ≤ 100 ∧ k' ≤ k + 4 ∧ Tape w' B tb k') ∧ Fr (Is tb) w w' := by
  go_enter Tryz.func72, Tryz.ntmps72
  go_wp2_with fail
  refine (tape_next B tb k 3 _ ht (by omega) (by omega) (by omega)).mono ?_
  rintro e w1 ⟨r, rfl, hr1, hr2, ht1, hf1⟩
  obtain ⟨r, rfl⟩ := Int.eq_ofNat_of_zero_le hr1
  go_wp2_with fail
  go_loopw [3, 4] (fun v i wr => ∃ (x : ByteArray) (j kk : Nat), v = .string x ∧ i = .int .i64 (j : Int) ∧ j ≤ 3 ∧ x.size + 10 * j ≤ 30 ∧ kk + j ≤ k + 4 ∧ Tape wr B tb kk ∧ Fr (Is tb) w wr) (fun _ i _ => (intOf i).toNat)
  case atStart => exact ⟨⟨#[]⟩, 1 + r, k + 1, rfl, by go_num, by omega, by show 0 + 10 * (1 + r) ≤ 30; omega, by omega, ht1, hf1⟩
  case round =>
    obtain ⟨x, j, kk, rfl, rfl, hj, hx, hkk, htr, hf⟩ := hrel
    by_cases hlt : 0 < j
    · have hlt' : (0 : Int) < j := by omega
      have hs := Strs.of_block (l := pathNames) (block_alloc wr (.cells (pathNames.map Value.string).toArray 9)) (by unfold maxLen pathNames; simp)
      have hfx : Fr No wr (wr.alloc (.cells (pathNames.map Value.string).toArray 9)) := (Fr.refl _ _).alloc _
      have htl := htr.lt
      have hone := tape_one B tb kk (some ⟨wr.heap.size, 0, none⟩) 7 pathNames _ (htr.fr hfx (fun _ _ => id) id) (by omega) hs (by decide) (by decide) (fun ad e => by cases e; show wr.heap.size ≠ tb; omega)
      have Hf := Lib.hid (hf.step hfx (fun _ _ h => h.elim))
      clear hs htr hf hfx
      go_wp2_with fail
      refine hone.mono ?_
      rintro e w2 ⟨⟨y, rfl, hy⟩, ht2, hf2⟩
      have hys := pathNames_size y hy
      have hz1 : ¬ 9223372036854775807 < 1 + y.size := by omega
      have hz2 : ¬ 9223372036854775807 < x.size + (1 + y.size) := by omega
      have Hf2 := Lib.hid (Hf.out.step hf2 (fun _ _ h => h))
      clear hone hy hf2
      go_wp2_with fail
      go_roundw
      case rel => exact ⟨x ++ (⟨#[47]⟩ ++ y), j - 1, kk + 1, rfl, by go_num, by omega, by simp only [ByteArray.size_append]; show x.size + (1 + y.size) + _ ≤ _; omega, by omega, ht2, Hf2.out⟩
      case measure => simp [intOf]; omega
    · obtain rfl : j = 0 := by omega
      go_wp2_with fail
      go_ret
      exact ⟨⟨x, kk, rfl, by omega, by omega, htr⟩, hf⟩
end Go.Proofs.YtbblkknndaoefaaGreatDoor
namespace Go.Proofs.YtbblkknndaoefaaGreatDoor
open Go.RowKit Go.Maps
set_option linter.unusedVariables false

/-- A layer that layers makes. -/
structure LayOk (m : Mem) : Prop where
  p : m.p.size ≤ 100
  i : m.i.size ≤ 2
  n : m.l.length ≤ 1
  l : ∀ x ∈ m.l, x.size ≤ 5
def layIds : List ByteArray := [⟨#[97]⟩, ⟨#[98]⟩, ⟨#[99]⟩, ⟨#[99, 49]⟩]
def layIn : List ByteArray := [⟨#[]⟩, ⟨#[102, 115, 58, 120, 58]⟩, ⟨#[102, 115, 58, 121, 58]⟩]
def layPaths : List ByteArray := [⟨#[120]⟩, ⟨#[]⟩, ⟨#[47, 97, 47]⟩, ⟨#[47, 97, 32, 98]⟩]
theorem layIds_size : ∀ s ∈ layIds, s.size ≤ 2 := by decide
theorem layIn_size : ∀ s ∈ layIn, s.size ≤ 5 := by decide
theorem layPaths_size : ∀ s ∈ layPaths, s.size ≤ 4 := by decide
/-- What layers answers. -/
def LayRes (w : World) (B tb k : Nat) (e : Ending) (w' : World) : Prop :=
  ∃ (L : List Mem) (a' : Option Addr) (c' k' : Nat), e = .returned (.slice a' L.length c') ∧ Mems w' a' c' L ∧ (∀ ad, a' = some ad → w.heap.size ≤ ad.block) ∧ MFresh w' w.heap.size L ∧ (∀ m ∈ L, LayOk m) ∧ L.length ≤ 8 ∧ k' ≤ k + 100 ∧ Tape w' B tb k'
/-- As LayRes; the row's own is told too. -/
def LayRes2 (w : World) (B tb k : Nat) (e : Ending) (w' : World) : Prop :=
  ∃ (L : List Mem) (a' : Option Addr) (c' k' : Nat), e = .returned (.slice a' L.length c') ∧ Mems w' a' c' L ∧ (∀ ad, a' = some ad → w.heap.size ≤ ad.block) ∧ MFresh w' w.heap.size L ∧ (∀ m ∈ L, LayOk m) ∧ L.length ≤ 8 ∧ k' ≤ k + 100 ∧ Tape w' B tb k' ∧ w'.ownsRow w.heap.size 58 7 (.slice a' L.length c') L.length (mflat L)

set_option maxRecDepth 100000 in
set_option maxHeartbeats 8000000 in
theorem made_layers2 (B tb k : Nat) (w : World) (ht : Tape w B tb k) (hk : k ≤ 100000) :
    Calls Tryz.prog 17 #[.pointer (some ⟨tb, 0, none⟩), .int .i64 8] w fun e w' => LayRes2 w B tb k e w' ∧ Fr (Is tb) w w' := by
  obtain ⟨i0, hi0, hz0, hz1, hz2⟩ := info_parts infoM
  have htl := ht.lt
  have hBt := ht.le
  go_enter Tryz.func17, Tryz.ntmps17
  go_wp2_with fail
  refine (tape_next B tb k 9 _ ht (by omega) (by omega) (by omega)).mono ?_
  rintro e w1 ⟨r, rfl, hr1, hr2, ht1, hf1⟩
  obtain ⟨r, rfl⟩ := Int.eq_ofNat_of_zero_le hr1
  have hf1' : Fr (TB tb w.heap.size) w w1 := hf1.mono (fun b _ h => .inl h)
  go_wp2_with fail
  go_loopw [5, 6] (fun v i wr => ∃ (L : List Mem) (av : Option Addr) (cv j kk : Nat), v = .slice av L.length cv ∧ i = .int .i64 (j : Int) ∧ L.length + j ≤ 8 ∧ kk + 10 * j ≤ k + 100 ∧ wr.ownsRow w.heap.size 58 7 (.slice av L.length cv) L.length (mflat L) ∧ MFresh wr w.heap.size L ∧ Hid (∀ m ∈ L, LayOk m) ∧ Tape wr B tb kk ∧ Fr (TB tb w.heap.size) w wr) (fun _ i _ => (intOf i).toNat)
  case atStart => exact ⟨[], none, 0, r, k + 1, rfl, rfl, by simp; omega, by omega, World.ownsRow_nil _ _ _ _, fun m hm => by simp at hm, fun m hm => by simp at hm, ht1, hf1'⟩
  case round =>
    obtain ⟨L, av, cv, j, kk, rfl, rfl, hLj, hkk, hown, hMF, Hsm, htr, hf⟩ := hrel
    by_cases hlt : 0 < j
    · have hlt' : (0 : Int) < j := by omega
      have hpath := made_path B tb kk wr htr (by omega)
      have hsr := hf.size
      clear htr
      go_wp2_with fail
      refine hpath.mono ?_
      rintro e w2 ⟨⟨p, k2, rfl, hp, hk2, ht2⟩, hf2⟩
      have hown2 := ownsRow_at hown hf2 (fun b h e => by have h1 := ownsRow_blk hown h; unfold From at h1; unfold Is at e; omega)
      have hMF2 := hMF.fr hf2 (fun b h1 h2 e => by unfold Is at e; omega)
      have hff2 : Fr (TB tb w.heap.size) w w2 := hf.step hf2 (fun b _ h => .inl h)
      have hs2 := hf2.size
      clear hpath hf2 hown hMF hf
      have hS2 := Strs.of_block (l := layIds) (block_alloc w2 (.cells (layIds.map Value.string).toArray 9)) (by unfold maxLen layIds; simp)
      have hx2 : Fr No w2 (w2.alloc (.cells (layIds.map Value.string).toArray 9)) := (Fr.refl _ _).alloc _
      have hone := tape_one B tb k2 (some ⟨w2.heap.size, 0, none⟩) 4 layIds _ (ht2.fr hx2 (fun _ _ => id) id) (by omega) hS2 (by decide) (by decide) (fun ad e => by cases e; show w2.heap.size ≠ tb; omega)
      go_wp2_with fail
      refine hone.mono ?_
      rintro e w3 ⟨⟨y, rfl, hy⟩, ht3, hf3⟩
      have hys := layIds_size y hy
      have hf23 : Fr (Is tb) w2 w3 := (hx2.mono (fun _ _ h => h.elim)).step hf3 (fun _ _ h => h)
      clear hone hS2 hx2 hf3 ht2 hy
      go_wp2_with fail
      refine (tape_next B tb (k2 + 1) 3 _ ht3 (by omega) (by omega) (by omega)).mono ?_
      rintro e w4 ⟨rd, rfl, hrd1, hrd2, ht4, hf4⟩
      have hf24 := hf23.step hf4 (fun _ _ h => h)
      have hs4 := hf24.size
      clear hf23 hf4 ht3
      have hS4 := Strs.of_block (l := layIn) (block_alloc w4 (.cells (layIn.map Value.string).toArray 9)) (by unfold maxLen layIn; simp)
      have hx4 : Fr No w4 (w4.alloc (.cells (layIn.map Value.string).toArray 9)) := (Fr.refl _ _).alloc _
      have hone := tape_one B tb (k2 + 1 + 1) (some ⟨w4.heap.size, 0, none⟩) 3 layIn _ (ht4.fr hx4 (fun _ _ => id) id) (by omega) hS4 (by decide) (by decide) (fun ad e => by cases e; show w4.heap.size ≠ tb; omega)
      go_wp2_with fail
      refine hone.mono ?_
      rintro e w6 ⟨⟨z, rfl, hz⟩, ht6, hf6⟩
      have hzs := layIn_size z hz
      have hf26 : Fr (Is tb) w2 w6 := (hf24.step hx4 (fun _ _ h => h.elim)).step hf6 (fun _ _ h => h)
      clear hone hS4 hx4 hf6 ht4 hz hf24
      have hs6 := hf26.size
      go_upto_region 6 with (fail)
      have hx7 : Fr No w6 ((w6.alloc (.cells #[.string z] 9)).alloc (.cells #[.string p, .string y, .int .i64 rd, .int .i64 0, .int .i64 0, .int .i64 0, .slice (some ⟨w6.heap.size, 0, none⟩) 1 1] 58)) := ((Fr.refl _ _).alloc _).alloc _
      have q1 := block_alloc1 w6 (.cells #[.string z] 9) (.cells #[.string p, .string y, .int .i64 rd, .int .i64 0, .int .i64 0, .int .i64 0, .slice (some ⟨w6.heap.size, 0, none⟩) 1 1] 58)
      have q2 := block_alloc2 w6 (.cells #[.string z] 9) (.cells #[.string p, .string y, .int .i64 rd, .int .i64 0, .int .i64 0, .int .i64 0, .slice (some ⟨w6.heap.size, 0, none⟩) 1 1] 58)
      have hs7 : ((w6.alloc (.cells #[.string z] 9)).alloc (.cells #[.string p, .string y, .int .i64 rd, .int .i64 0, .int .i64 0, .int .i64 0, .slice (some ⟨w6.heap.size, 0, none⟩) 1 1] 58)).heap.size = w6.heap.size + 2 := by simp
      generalize (w6.alloc (.cells #[.string z] 9)).alloc (.cells #[.string p, .string y, .int .i64 rd, .int .i64 0, .int .i64 0, .int .i64 0, .slice (some ⟨w6.heap.size, 0, none⟩) 1 1] 58) = W7 at *
      have hs7' : w6.heap.size + 2 ≤ W7.heap.size := by omega
      clear hs7
      have hf27 : Fr (Is tb) w2 W7 := hf26.step hx7 (fun _ _ h => h.elim)
      have ht7 := ht6.fr hx7 (fun _ _ => id) id
      clear ht6 hx7 hf26
      go_wp2_with fail
      refine (tape_next B tb (k2 + 1 + 1 + 1) 14 _ ht7 (by omega) (by omega) (by omega)).mono ?_
      rintro e w8 ⟨r8, rfl, hr81, hr82, ht8, hf8⟩
      have q1' := hf8.heap q1 (fun e => by unfold Is at e; omega)
      have q2' := hf8.heap q2 (fun e => by unfold Is at e; omega)
      have hf28 := hf27.step hf8 (fun _ _ h => h)
      have hs8 := hf8.size
      have hown8 := ownsRow_at hown2 hf28 (fun b h e => by have h1 := ownsRow_blk hown2 h; unfold From at h1; unfold Is at e; omega)
      have hMF8 := hMF2.fr hf28 (fun b h1 h2 e => by unfold Is at e; omega)
      have hff8 : Fr (TB tb w.heap.size) w w8 := hff2.step hf28 (fun b _ h => .inl h)
      have hnb : ∀ b, (Value.slice av L.length cv).ownBlock = some b → b < w2.heap.size := fun b h => ownsRow_lt hown2 h
      have Hnb := Lib.hid hnb
      have hB8 : BlkT w8 (some ⟨w6.heap.size, 0, none⟩) 9 := fun ad e => by cases e; exact ⟨_, q1'⟩
      have hS8 := Strs.of_block (l := [z]) q1' (by unfold maxLen; simp)
      have Hf28 := Lib.hid hf28
      have Hown2 := Lib.hid hown2
      have HMF2 := Lib.hid hMF2
      have Hff2 := Lib.hid hff2
      clear hf27 hf8 q1 q2 hown2 hMF2 hff2 hf28 ht7 hnb
      rcases hr0 : (r8 == 0) with _ | _
      · rcases hr1' : (r8 == 1) with _ | _
        · -- nothing more
          have Hf8 := Lib.hid hff8
          have Hown8 := Lib.hid hown8
          have HMF8 := Lib.hid hMF8
          have Ht8 := Lib.hid ht8
          have HS8 := Lib.hid hS8
          have HB8 := Lib.hid hB8
          clear hff8 hown8 hMF8 ht8 hS8 hB8 q1'
          have y0 : w8.cell? ⟨w6.heap.size + 1, 0, none⟩ = some (.string p) := cell_of_block q2' 0
          have y1 : w8.cell? ⟨w6.heap.size + 1, 1, none⟩ = some (.string y) := cell_of_block q2' 1
          have y2 : w8.cell? ⟨w6.heap.size + 1, 2, none⟩ = some (.int .i64 rd) := cell_of_block q2' 2
          have y3 : w8.cell? ⟨w6.heap.size + 1, 3, none⟩ = some (.int .i64 0) := cell_of_block q2' 3
          have y4 : w8.cell? ⟨w6.heap.size + 1, 4, none⟩ = some (.int .i64 0) := cell_of_block q2' 4
          have y5 : w8.cell? ⟨w6.heap.size + 1, 5, none⟩ = some (.int .i64 0) := cell_of_block q2' 5
          have y6 : w8.cell? ⟨w6.heap.size + 1, 6, none⟩ = some (.slice (some ⟨w6.heap.size, 0, none⟩) 1 1) := cell_of_block q2' 6
          have hsz := Hf8.out.size
          clear q2'
          go_wp2_with (at_builtin; refine wpList_append_own _ rfl _ _ 23 rfl w.heap.size 58 i0 (.agg #[.string ByteArray.empty, .string ByteArray.empty, .int .i64 0, .int .i64 0, .int .i64 0, .int .i64 0, .slice none 0 0]) 7 88 Tryz.underlying23 hi0 hz0 hz1 hz2 rfl (by decide) _ _ _ rfl (Hown8.out.alloc _) ⟨w8.heap.size, 0, none⟩ 1 1 (Mem.vals ⟨p, y, rd, 0, 0, 0, (some ⟨w6.heap.size, 0, none⟩), [z], 1⟩).toList rfl rfl (cells_new _ (Mem.vals ⟨p, y, rd, 0, 0, 0, (some ⟨w6.heap.size, 0, none⟩), [z], 1⟩) _ rfl) (mvals_one _) (by unfold maxLen; omega) (by omega) (by first | omega | (simp; done) | (simp; omega)) ?_; intro v' w9 hown9 hgrow9 _; obtain ⟨av', cv', rfl⟩ := ownsRow_slice hown9)
          have hal : Fr No w8 (w8.alloc (.cells #[.string p, .string y, .int .i64 rd, .int .i64 0, .int .i64 0, .int .i64 0, .slice (some ⟨w6.heap.size, 0, none⟩) 1 1] 58)) := (Fr.refl _ _).alloc _
          have howa := Hown8.out.alloc (.cells #[.string p, .string y, .int .i64 rd, .int .i64 0, .int .i64 0, .int .i64 0, .slice (some ⟨w6.heap.size, 0, none⟩) 1 1] 58)
          have hgf : Fr (fun b => (Value.slice av L.length cv).ownBlock = some b) (w8.alloc (.cells #[.string p, .string y, .int .i64 rd, .int .i64 0, .int .i64 0, .int .i64 0, .slice (some ⟨w6.heap.size, 0, none⟩) 1 1] 58)) w9 := Fr.of_grown hgrow9
          have hMF9 : MFresh w9 w.heap.size (L ++ [⟨p, y, rd, 0, 0, 0, (some ⟨w6.heap.size, 0, none⟩), [z], 1⟩]) :=
            MFresh.own (MFresh.snoc (HMF8.out.fr hal (fun _ _ _ => id)) (HS8.out.no hal (fun _ => id)) (HB8.out.fr hal (fun _ _ => id)) (fun ad e => by cases e; show w.heap.size ≤ w6.heap.size; omega)) howa hgf
          have hsm9 : ∀ m ∈ L ++ [(⟨p, y, rd, 0, 0, 0, (some ⟨w6.heap.size, 0, none⟩), [z], 1⟩ : Mem)], LayOk m := fun m hm => by
            rcases List.mem_append.1 hm with h | h
            · exact Hsm.out m h
            · obtain rfl : m = ⟨p, y, rd, 0, 0, 0, (some ⟨w6.heap.size, 0, none⟩), [z], 1⟩ := by simpa using h
              exact ⟨hp, hys, Nat.le_refl _, fun x hx => by obtain rfl : x = z := (by simpa using hx); exact hzs⟩
          have ht9 := (Ht8.out.fr hal (fun _ _ => id) id).fr hgf (fun b hb h => by have h2 := ownsRow_blk howa h; unfold From at h2; omega) (fun h => by have h2 := ownsRow_blk howa h; unfold From at h2; omega)
          have hf9 : Fr (TB tb w.heap.size) w w9 := (Hf8.out.step hal (fun _ _ h => h.elim)).step hgf (fun b _ h => .inr (ownsRow_blk howa h))
          have HF := Lib.hid (And.intro hown9 (And.intro hMF9 (And.intro hsm9 (And.intro ht9 hf9))))
          clear hown9 hMF9 hsm9 ht9 hf9 hgf howa hal hgrow9
          go_roundw
          case rel => exact ⟨L ++ [⟨p, y, rd, 0, 0, 0, (some ⟨w6.heap.size, 0, none⟩), [z], 1⟩], av', cv', j - 1, k2 + 1 + 1 + 1 + 1, by simp, by go_num, by simp; omega, by omega, by rw [List.length_append, mflat_snoc]; exact HF.out.1, HF.out.2.1, Lib.hid HF.out.2.2.1, HF.out.2.2.2.1, HF.out.2.2.2.2⟩
          case measure => simp [intOf]; omega
        · -- another path
          have hS9 := Strs.of_block (l := layPaths) (block_alloc w8 (.cells (layPaths.map Value.string).toArray 9)) (by unfold maxLen layPaths; simp)
          have hx9 : Fr No w8 (w8.alloc (.cells (layPaths.map Value.string).toArray 9)) := (Fr.refl _ _).alloc _
          have hone := tape_one B tb (k2 + 1 + 1 + 1 + 1) (some ⟨w8.heap.size, 0, none⟩) 4 layPaths _ (ht8.fr hx9 (fun _ _ => id) id) (by omega) hS9 (by decide) (by decide) (fun ad e => by cases e; show w8.heap.size ≠ tb; omega)
          have q3 := hx9.heap q2' id
          have q3' := hx9.heap q1' id
          have hfx : Fr (TB tb w2.heap.size) w2 (w8.alloc (.cells (layPaths.map Value.string).toArray 9)) := (Hf28.out.mono (fun b _ h => .inl h)).step hx9 (fun _ _ h => h.elim)
          have hxs : (w8.alloc (.cells (layPaths.map Value.string).toArray 9)).heap.size = w8.heap.size + 1 := by simp
          clear hx9 hS9 hff8 hown8 hMF8 q1' q2' ht8 hS8 hB8
          go_wp2_with fail
          refine hone.mono ?_
          rintro e wa ⟨⟨s, rfl, hs⟩, hta, hfa⟩
          have hss := layPaths_size s hs
          have q4 := hfa.heap q3 (fun e => by unfold Is at e; omega)
          have q4' := hfa.heap q3' (fun e => by unfold Is at e; omega)
          have hsa := hfa.size
          have q5 := block_setCell q4 0 (.string s)
          have z0 : wa.frozen? ⟨w6.heap.size + 1, 0, none⟩ = false := free_of_block q4 0
          have z1 : wa.cell? ⟨w6.heap.size + 1, 0, none⟩ = some (.string p) := cell_of_block q4 0
          have hfs : Fr (Is (w6.heap.size + 1)) wa (wa.setCell ⟨w6.heap.size + 1, 0, none⟩ (.string s)) := Fr.setCell (S := Is (w6.heap.size + 1)) (p := ⟨w6.heap.size + 1, 0, none⟩) (Fr.refl _ _) (fun _ => rfl) _
          have q5' := hfs.heap q4' (fun e => by unfold Is at e; omega)
          have htb := hta.fr hfs (fun b hb e => by unfold Is at e; omega) (fun e => by unfold Is at e; omega)
          have hf2b : Fr (TB tb w2.heap.size) w2 (wa.setCell ⟨w6.heap.size + 1, 0, none⟩ (.string s)) := (hfx.step hfa (fun b _ h => .inl h)).step hfs (fun b _ h => by unfold Is at h; exact .inr (by omega))
          clear hone q3 q3' q4 q4' hs hfx hfa hfs hta hxs
          go_upto_region 11 with (fail)
          generalize wa.setCell ⟨w6.heap.size + 1, 0, none⟩ (.string s) = Wb at *
          have Hown9 := Lib.hid (ownsRow_at Hown2.out hf2b (fun b h e => by have h1 := ownsRow_blk Hown2.out h; have h2 := ownsRow_lt Hown2.out h; unfold From at h1; unfold TB at e; omega))
          have HMF9 := Lib.hid (HMF2.out.fr hf2b (fun b h1 h2 e => by unfold TB at e; omega))
          have Hf9 := Lib.hid (Hff2.out.step hf2b (fun b _ h => by unfold TB at h ⊢; omega))
          have HB9 : Hid (BlkT Wb (some ⟨w6.heap.size, 0, none⟩) 9) := fun ad e => by cases e; exact ⟨_, q5'⟩
          have HS9 : Hid (Strs Wb (some ⟨w6.heap.size, 0, none⟩) 1 [z]) := Strs.of_block (l := [z]) q5' (by unfold maxLen; simp)
          have Ht9 := Lib.hid htb
          simp at q5
          clear z0 z1 hf2b q5' htb
          have y0 : Wb.cell? ⟨w6.heap.size + 1, 0, none⟩ = some (.string s) := cell_of_block q5 0
          have y1 : Wb.cell? ⟨w6.heap.size + 1, 1, none⟩ = some (.string y) := cell_of_block q5 1
          have y2 : Wb.cell? ⟨w6.heap.size + 1, 2, none⟩ = some (.int .i64 rd) := cell_of_block q5 2
          have y3 : Wb.cell? ⟨w6.heap.size + 1, 3, none⟩ = some (.int .i64 0) := cell_of_block q5 3
          have y4 : Wb.cell? ⟨w6.heap.size + 1, 4, none⟩ = some (.int .i64 0) := cell_of_block q5 4
          have y5 : Wb.cell? ⟨w6.heap.size + 1, 5, none⟩ = some (.int .i64 0) := cell_of_block q5 5
          have y6 : Wb.cell? ⟨w6.heap.size + 1, 6, none⟩ = some (.slice (some ⟨w6.heap.size, 0, none⟩) 1 1) := cell_of_block q5 6
          have hsz := Hf9.out.size
          clear q5
          go_wp2_with (at_builtin; refine wpList_append_own _ rfl _ _ 23 rfl w.heap.size 58 i0 (.agg #[.string ByteArray.empty, .string ByteArray.empty, .int .i64 0, .int .i64 0, .int .i64 0, .int .i64 0, .slice none 0 0]) 7 88 Tryz.underlying23 hi0 hz0 hz1 hz2 rfl (by decide) _ _ _ rfl (Hown9.out.alloc _) ⟨Wb.heap.size, 0, none⟩ 1 1 (Mem.vals ⟨s, y, rd, 0, 0, 0, (some ⟨w6.heap.size, 0, none⟩), [z], 1⟩).toList rfl rfl (cells_new _ (Mem.vals ⟨s, y, rd, 0, 0, 0, (some ⟨w6.heap.size, 0, none⟩), [z], 1⟩) _ rfl) (mvals_one _) (by unfold maxLen; omega) (by omega) (by first | omega | (simp; done) | (simp; omega)) ?_; intro v' w9 hown9 hgrow9 _; obtain ⟨av', cv', rfl⟩ := ownsRow_slice hown9)
          have hal : Fr No Wb (Wb.alloc (.cells #[.string s, .string y, .int .i64 rd, .int .i64 0, .int .i64 0, .int .i64 0, .slice (some ⟨w6.heap.size, 0, none⟩) 1 1] 58)) := (Fr.refl _ _).alloc _
          have howa := Hown9.out.alloc (.cells #[.string s, .string y, .int .i64 rd, .int .i64 0, .int .i64 0, .int .i64 0, .slice (some ⟨w6.heap.size, 0, none⟩) 1 1] 58)
          have hgf : Fr (fun b => (Value.slice av L.length cv).ownBlock = some b) (Wb.alloc (.cells #[.string s, .string y, .int .i64 rd, .int .i64 0, .int .i64 0, .int .i64 0, .slice (some ⟨w6.heap.size, 0, none⟩) 1 1] 58)) w9 := Fr.of_grown hgrow9
          have hMF9 : MFresh w9 w.heap.size (L ++ [⟨s, y, rd, 0, 0, 0, (some ⟨w6.heap.size, 0, none⟩), [z], 1⟩]) :=
            MFresh.own (MFresh.snoc (HMF9.out.fr hal (fun _ _ _ => id)) (HS9.out.no hal (fun _ => id)) (HB9.out.fr hal (fun _ _ => id)) (fun ad e => by cases e; show w.heap.size ≤ w6.heap.size; omega)) howa hgf
          have hsm9 : ∀ m ∈ L ++ [(⟨s, y, rd, 0, 0, 0, (some ⟨w6.heap.size, 0, none⟩), [z], 1⟩ : Mem)], LayOk m := fun m hm => by
            rcases List.mem_append.1 hm with h | h
            · exact Hsm.out m h
            · obtain rfl : m = ⟨s, y, rd, 0, 0, 0, (some ⟨w6.heap.size, 0, none⟩), [z], 1⟩ := by simpa using h
              exact ⟨by show s.size ≤ 100; omega, hys, Nat.le_refl _, fun x hx => by obtain rfl : x = z := (by simpa using hx); exact hzs⟩
          have ht9 := (Ht9.out.fr hal (fun _ _ => id) id).fr hgf (fun b hb h => by have h2 := ownsRow_blk howa h; unfold From at h2; omega) (fun h => by have h2 := ownsRow_blk howa h; unfold From at h2; omega)
          have hf9 : Fr (TB tb w.heap.size) w w9 := (Hf9.out.step hal (fun _ _ h => h.elim)).step hgf (fun b _ h => .inr (ownsRow_blk howa h))
          have HF := Lib.hid (And.intro hown9 (And.intro hMF9 (And.intro hsm9 (And.intro ht9 hf9))))
          clear hown9 hMF9 hsm9 ht9 hf9 hgf howa hal hgrow9
          go_roundw
          case rel => exact ⟨L ++ [⟨s, y, rd, 0, 0, 0, (some ⟨w6.heap.size, 0, none⟩), [z], 1⟩], av', cv', j - 1, k2 + 1 + 1 + 1 + 1 + 1, by simp, by go_num, by simp; omega, by omega, by rw [List.length_append, mflat_snoc]; exact HF.out.1, HF.out.2.1, Lib.hid HF.out.2.2.1, HF.out.2.2.2.1, HF.out.2.2.2.2⟩
          case measure => simp [intOf]; omega
      · -- no inner ones
          have q5 := block_setCell q2' 6 (.slice none 0 0)
          have z0 : w8.frozen? ⟨w6.heap.size + 1, 6, none⟩ = false := free_of_block q2' 6
          have z1 : w8.cell? ⟨w6.heap.size + 1, 6, none⟩ = some (.slice (some ⟨w6.heap.size, 0, none⟩) 1 1) := cell_of_block q2' 6
          have hfs : Fr (Is (w6.heap.size + 1)) w8 (w8.setCell ⟨w6.heap.size + 1, 6, none⟩ (.slice none 0 0)) := Fr.setCell (S := Is (w6.heap.size + 1)) (p := ⟨w6.heap.size + 1, 6, none⟩) (Fr.refl _ _) (fun _ => rfl) _
          have htb := ht8.fr hfs (fun b hb e => by unfold Is at e; omega) (fun e => by unfold Is at e; omega)
          have hf2b : Fr (TB tb w2.heap.size) w2 (w8.setCell ⟨w6.heap.size + 1, 6, none⟩ (.slice none 0 0)) := (Hf28.out.mono (fun b _ h => .inl h)).step hfs (fun b _ h => by unfold Is at h; exact .inr (by omega))
          clear hff8 hown8 hMF8 q1' q2' ht8 hS8 hB8 hfs
          go_upto_region 11 with (fail)
          generalize w8.setCell ⟨w6.heap.size + 1, 6, none⟩ (.slice none 0 0) = Wb at *
          have Hown7 := Lib.hid (ownsRow_at Hown2.out hf2b (fun b h e => by have h1 := ownsRow_blk Hown2.out h; have h2 := ownsRow_lt Hown2.out h; unfold From at h1; unfold TB at e; omega))
          have HMF7 := Lib.hid (HMF2.out.fr hf2b (fun b h1 h2 e => by unfold TB at e; omega))
          have Hf7 := Lib.hid (Hff2.out.step hf2b (fun b _ h => by unfold TB at h ⊢; omega))
          have Ht7 := Lib.hid htb
          simp at q5
          clear z0 z1 hf2b htb
          have y0 : Wb.cell? ⟨w6.heap.size + 1, 0, none⟩ = some (.string p) := cell_of_block q5 0
          have y1 : Wb.cell? ⟨w6.heap.size + 1, 1, none⟩ = some (.string y) := cell_of_block q5 1
          have y2 : Wb.cell? ⟨w6.heap.size + 1, 2, none⟩ = some (.int .i64 rd) := cell_of_block q5 2
          have y3 : Wb.cell? ⟨w6.heap.size + 1, 3, none⟩ = some (.int .i64 0) := cell_of_block q5 3
          have y4 : Wb.cell? ⟨w6.heap.size + 1, 4, none⟩ = some (.int .i64 0) := cell_of_block q5 4
          have y5 : Wb.cell? ⟨w6.heap.size + 1, 5, none⟩ = some (.int .i64 0) := cell_of_block q5 5
          have y6 : Wb.cell? ⟨w6.heap.size + 1, 6, none⟩ = some (.slice none 0 0) := cell_of_block q5 6
          have hsz := Hf7.out.size
          clear q5
          go_wp2_with (at_builtin; refine wpList_append_own _ rfl _ _ 23 rfl w.heap.size 58 i0 (.agg #[.string ByteArray.empty, .string ByteArray.empty, .int .i64 0, .int .i64 0, .int .i64 0, .int .i64 0, .slice none 0 0]) 7 88 Tryz.underlying23 hi0 hz0 hz1 hz2 rfl (by decide) _ _ _ rfl (Hown7.out.alloc _) ⟨Wb.heap.size, 0, none⟩ 1 1 (Mem.vals ⟨p, y, rd, 0, 0, 0, none, [], 0⟩).toList rfl rfl (cells_new _ (Mem.vals ⟨p, y, rd, 0, 0, 0, none, [], 0⟩) _ rfl) (mvals_one _) (by unfold maxLen; omega) (by omega) (by first | omega | (simp; done) | (simp; omega)) ?_; intro v' w9 hown9 hgrow9 _; obtain ⟨av', cv', rfl⟩ := ownsRow_slice hown9)
          have hal : Fr No Wb (Wb.alloc (.cells #[.string p, .string y, .int .i64 rd, .int .i64 0, .int .i64 0, .int .i64 0, .slice none 0 0] 58)) := (Fr.refl _ _).alloc _
          have howa := Hown7.out.alloc (.cells #[.string p, .string y, .int .i64 rd, .int .i64 0, .int .i64 0, .int .i64 0, .slice none 0 0] 58)
          have hgf : Fr (fun b => (Value.slice av L.length cv).ownBlock = some b) (Wb.alloc (.cells #[.string p, .string y, .int .i64 rd, .int .i64 0, .int .i64 0, .int .i64 0, .slice none 0 0] 58)) w9 := Fr.of_grown hgrow9
          have hMF9 : MFresh w9 w.heap.size (L ++ [⟨p, y, rd, 0, 0, 0, none, [], 0⟩]) :=
            MFresh.own (MFresh.snoc (HMF7.out.fr hal (fun _ _ _ => id)) (Strs.nil _) (BlkT.none _ _) (fun ad e => by cases e)) howa hgf
          have hsm9 : ∀ m ∈ L ++ [(⟨p, y, rd, 0, 0, 0, none, [], 0⟩ : Mem)], LayOk m := fun m hm => by
            rcases List.mem_append.1 hm with h | h
            · exact Hsm.out m h
            · obtain rfl : m = ⟨p, y, rd, 0, 0, 0, none, [], 0⟩ := by simpa using h
              exact ⟨hp, hys, Nat.zero_le _, fun x hx => by simp at hx⟩
          have ht9 := (Ht7.out.fr hal (fun _ _ => id) id).fr hgf (fun b hb h => by have h2 := ownsRow_blk howa h; unfold From at h2; omega) (fun h => by have h2 := ownsRow_blk howa h; unfold From at h2; omega)
          have hf9 : Fr (TB tb w.heap.size) w w9 := (Hf7.out.step hal (fun _ _ h => h.elim)).step hgf (fun b _ h => .inr (ownsRow_blk howa h))
          have HF := Lib.hid (And.intro hown9 (And.intro hMF9 (And.intro hsm9 (And.intro ht9 hf9))))
          clear hown9 hMF9 hsm9 ht9 hf9 hgf howa hal hgrow9
          go_roundw
          case rel => exact ⟨L ++ [⟨p, y, rd, 0, 0, 0, none, [], 0⟩], av', cv', j - 1, k2 + 1 + 1 + 1 + 1, by simp, by go_num, by simp; omega, by omega, by rw [List.length_append, mflat_snoc]; exact HF.out.1, HF.out.2.1, Lib.hid HF.out.2.2.1, HF.out.2.2.2.1, HF.out.2.2.2.2⟩
          case measure => simp [intOf]; omega
    · obtain rfl : j = 0 := by omega
      obtain ⟨a', c', hv, hR, hfresh⟩ := Mems.of_own hown (fun m hm => (hMF m hm).1)
      cases hv
      have H := Lib.hid (And.intro hR (And.intro hfresh (And.intro hMF (And.intro (And.intro htr hown) (hf.mono (T := Is tb) (fun b hb h => by unfold TB at h; unfold Is; omega))))))
      clear hown hMF htr hf hR hfresh
      go_wp2_with fail
      go_ret
      exact ⟨⟨L, _, _, kk, rfl, H.out.1, H.out.2.1, H.out.2.2.1, Hsm.out, by omega, by omega, H.out.2.2.2.1.1, H.out.2.2.2.1.2⟩, H.out.2.2.2.2⟩
theorem made_layers (B tb k : Nat) (w : World) (ht : Tape w B tb k) (hk : k ≤ 100000) :
    Calls Tryz.prog 17 #[.pointer (some ⟨tb, 0, none⟩), .int .i64 8] w fun e w' => LayRes w B tb k e w' ∧ Fr (Is tb) w w' :=
  (made_layers2 B tb k w ht hk).mono fun e w' ⟨⟨L, a', c', k', h1, h2, h3, h4, h5, h6, h7, h8, _⟩, h⟩ => ⟨⟨L, a', c', k', h1, h2, h3, h4, h5, h6, h7, h8⟩, h⟩
end Go.Proofs.YtbblkknndaoefaaGreatDoor
namespace Go.Proofs.YtbblkknndaoefaaGreatDoor
open Go.RowKit Go.Maps
set_option linter.unusedVariables false

def keyAll : List ByteArray := [⟨#[97]⟩, ⟨#[98]⟩, ⟨#[99]⟩, ⟨#[99, 49]⟩, ⟨#[120]⟩]
theorem keyAll_size : ∀ s ∈ keyAll, s.size ≤ 2 := by decide
/-- What keys answers. -/
def KeyRes (w : World) (B tb k : Nat) (e : Ending) (w' : World) : Prop :=
  ∃ (K : List ByteArray) (a' : Option Addr) (c' k' : Nat), e = .returned (.slice a' K.length c') ∧ Strs w' a' c' K ∧ (∀ ad, a' = some ad → w.heap.size ≤ ad.block) ∧ (∀ x ∈ K, x.size ≤ 2) ∧ K.length ≤ 3 ∧ k' ≤ k + 4 ∧ Tape w' B tb k'
/-- As KeyRes; the row's own is told too. -/
def KeyRes2 (w : World) (B tb k : Nat) (e : Ending) (w' : World) : Prop :=
  ∃ (K : List ByteArray) (a' : Option Addr) (c' k' : Nat), e = .returned (.slice a' K.length c') ∧ Strs w' a' c' K ∧ (∀ ad, a' = some ad → w.heap.size ≤ ad.block) ∧ (∀ x ∈ K, x.size ≤ 2) ∧ K.length ≤ 3 ∧ k' ≤ k + 4 ∧ Tape w' B tb k' ∧ w'.ownsRow w.heap.size 9 1 (.slice a' K.length c') K.length (K.map Value.string)

set_option maxRecDepth 100000 in
set_option maxHeartbeats 4000000 in
theorem made_keys2 (B tb k : Nat) (w : World) (ht : Tape w B tb k) (hk : k ≤ 100000) :
    Calls Tryz.prog 21 #[.pointer (some ⟨tb, 0, none⟩)] w fun e w' => KeyRes2 w B tb k e w' ∧ Fr (Is tb) w w' := by
  obtain ⟨i0, hi0, hz0, hz1, hz2⟩ := info_parts infoS
  have htl := ht.lt
  have hBt := ht.le
  go_enter Tryz.func21, Tryz.ntmps21
  go_wp2_with fail
  refine (tape_next B tb k 4 _ ht (by omega) (by omega) (by omega)).mono ?_
  rintro e w1 ⟨r, rfl, hr1, hr2, ht1, hf1⟩
  obtain ⟨r, rfl⟩ := Int.eq_ofNat_of_zero_le hr1
  have hf1' : Fr (TB tb w.heap.size) w w1 := hf1.mono (fun b _ h => .inl h)
  go_wp2_with fail
  go_loopw [3, 4] (fun v i wr => ∃ (K : List ByteArray) (av : Option Addr) (cv j kk : Nat), v = .slice av K.length cv ∧ i = .int .i64 (j : Int) ∧ K.length + j ≤ 3 ∧ kk + j ≤ k + 4 ∧ wr.ownsRow w.heap.size 9 1 (.slice av K.length cv) K.length (K.map Value.string) ∧ Hid (∀ x ∈ K, x.size ≤ 2) ∧ Tape wr B tb kk ∧ Fr (TB tb w.heap.size) w wr) (fun _ i _ => (intOf i).toNat)
  case atStart => exact ⟨[], none, 0, r, k + 1, rfl, rfl, by simp; omega, by omega, World.ownsRow_nil _ _ _ _, fun m hm => by simp at hm, ht1, hf1'⟩
  case round =>
    obtain ⟨K, av, cv, j, kk, rfl, rfl, hLj, hkk, hown, Hsm, htr, hf⟩ := hrel
    by_cases hlt : 0 < j
    · have hlt' : (0 : Int) < j := by omega
      have hsr := hf.size
      have hS2 := Strs.of_block (l := keyAll) (block_alloc wr (.cells (keyAll.map Value.string).toArray 9)) (by unfold maxLen keyAll; simp)
      have hx2 : Fr No wr (wr.alloc (.cells (keyAll.map Value.string).toArray 9)) := (Fr.refl _ _).alloc _
      have htl2 := htr.lt
      have hone := tape_one B tb kk (some ⟨wr.heap.size, 0, none⟩) 5 keyAll _ (htr.fr hx2 (fun _ _ => id) id) (by omega) hS2 (by decide) (by decide) (fun ad e => by cases e; show wr.heap.size ≠ tb; omega)
      clear hS2 htr
      go_wp2_with fail
      refine hone.mono ?_
      rintro e w3 ⟨⟨y, rfl, hy⟩, ht3, hf3⟩
      have hys := keyAll_size y hy
      have hf23 : Fr (Is tb) wr w3 := (hx2.mono (fun _ _ h => h.elim)).step hf3 (fun _ _ h => h)
      have hown3 := ownsRow_at hown hf23 (fun b h e => by have h1 := ownsRow_blk hown h; unfold From at h1; unfold Is at e; omega)
      have Hf3 := Lib.hid (hf.step hf23 (fun b _ h => .inl h))
      have Ht3 := Lib.hid ht3
      have hs3 := Hf3.out.size
      clear hone hx2 hf3 hy hf23 hown hf ht3
      go_wp2_with (at_builtin; refine wpList_append_own _ rfl _ _ 33 rfl w.heap.size 9 i0 (.string ByteArray.empty) 1 16 Tryz.underlying33 hi0 hz0 hz1 hz2 rfl (by decide) _ _ _ rfl (hown3.alloc _) ⟨w3.heap.size, 0, none⟩ 1 1 [.string y] rfl rfl (cell_one_new _ _ _) (strs_one [y]) (by unfold maxLen; omega) (by omega) (by first | omega | (simp; done) | (simp; omega)) ?_; intro v' w9 hown9 hgrow9 _; obtain ⟨av', cv', rfl⟩ := ownsRow_slice hown9)
      have hal : Fr No w3 (w3.alloc (.cells #[.string y] 9)) := (Fr.refl _ _).alloc _
      have howa := hown3.alloc (.cells #[.string y] 9)
      have hgf : Fr (fun b => (Value.slice av K.length cv).ownBlock = some b) (w3.alloc (.cells #[.string y] 9)) w9 := Fr.of_grown hgrow9
      have hsm9 : ∀ x ∈ K ++ [y], x.size ≤ 2 := fun x hx => by
        rcases List.mem_append.1 hx with h | h
        · exact Hsm.out x h
        · obtain rfl : x = y := by simpa using h
          exact hys
      have ht9 := (Ht3.out.fr hal (fun _ _ => id) id).fr hgf (fun b hb h => by have h2 := ownsRow_blk howa h; unfold From at h2; omega) (fun h => by have h2 := ownsRow_blk howa h; unfold From at h2; omega)
      have hf9 : Fr (TB tb w.heap.size) w w9 := (Hf3.out.step hal (fun _ _ h => h.elim)).step hgf (fun b _ h => .inr (ownsRow_blk howa h))
      have HF := Lib.hid (And.intro hown9 (And.intro hsm9 (And.intro ht9 hf9)))
      clear hown9 hsm9 ht9 hf9 hgf howa hal hgrow9 hown3
      go_roundw
      case rel => exact ⟨K ++ [y], av', cv', j - 1, kk + 1, by simp, by go_num, by simp; omega, by omega, by rw [List.length_append, List.map_append]; exact HF.out.1, Lib.hid HF.out.2.1, HF.out.2.2.1, HF.out.2.2.2⟩
      case measure => simp [intOf]; omega
    · obtain rfl : j = 0 := by omega
      obtain ⟨a', c', hv, hR, hfresh⟩ := Strs.of_own hown
      cases hv
      have H := Lib.hid (And.intro hR (And.intro hfresh (And.intro (And.intro htr hown) (hf.mono (T := Is tb) (fun b hb h => by unfold TB at h; unfold Is; omega)))))
      clear hown htr hf hR hfresh
      go_wp2_with fail
      go_ret
      exact ⟨⟨K, _, _, kk, rfl, H.out.1, H.out.2.1, Hsm.out, by omega, by omega, H.out.2.2.1.1, H.out.2.2.1.2⟩, H.out.2.2.2⟩
theorem made_keys (B tb k : Nat) (w : World) (ht : Tape w B tb k) (hk : k ≤ 100000) :
    Calls Tryz.prog 21 #[.pointer (some ⟨tb, 0, none⟩)] w fun e w' => KeyRes w B tb k e w' ∧ Fr (Is tb) w w' :=
  (made_keys2 B tb k w ht hk).mono fun e w' ⟨⟨K, a', c', k', h1, h2, h3, h4, h5, h6, h7, _⟩, h⟩ => ⟨⟨K, a', c', k', h1, h2, h3, h4, h5, h6, h7⟩, h⟩
end Go.Proofs.YtbblkknndaoefaaGreatDoor
namespace Go.Proofs.YtbblkknndaoefaaGreatDoor
open Go.RowKit Go.Maps
set_option linter.unusedVariables false

theorem lay_small {L : List Mem} (h : ∀ m ∈ L, LayOk m) (hl : L.length ≤ 8) : MemSmall L :=
  ⟨by omega, fun m hm => by have := (h m hm).p; omega, fun m hm => by have := (h m hm).i; omega, fun m hm => by have := (h m hm).n; omega⟩

theorem ids_less {L O : List Mem} {ids : List ByteArray} (hids : IsIds L ids) (h : O.map Mem.k = own1 L ids) {q : Nat} {p m : Mem} (hp : O[q]? = some p) (hm : O[q + 1]? = some m) : Op.bytesLess p.i.toList m.i.toList = true := by
  obtain ⟨_, h1, _⟩ := own_at hids h hp
  obtain ⟨_, h2, _⟩ := own_at hids h hm
  have ha := List.pairwise_map.1 hids.asc
  obtain ⟨l1, e1⟩ := List.getElem?_eq_some_iff.1 h1
  obtain ⟨l2, e2⟩ := List.getElem?_eq_some_iff.1 h2
  have h3 := List.pairwise_iff_getElem.1 ha q (q + 1) l1 l2 (by omega)
  rw [e1, e2, leS_less] at h3
  rw [ByteArray.toList_eq, ByteArray.toList_eq]
  have h4 := h3.1
  simp only [h3.2, decide_false, Bool.or_false] at h4
  exact h4
theorem opened_one {ids : List ByteArray} (hn : ids.Nodup) {x : ByteArray} (hx : x ∈ ids) : opened ids [x] = [x] := by
  unfold opened
  have e : ∀ l : List ByteArray, l.filter (hasS [x]) = l.filter (fun y => decide (y = x)) := fun l => List.filter_congr (fun y _ => by
    unfold hasS
    simp only [List.any_cons, List.any_nil, Bool.or_false]
    rw [strEq, decide_eq_decide]
    exact eq_comm)
  rw [e]
  have h1 := filter_one hn hx
  rcases hf : ids.filter (fun y => decide (y = x)) with _ | ⟨y, _ | ⟨z, t⟩⟩
  · rw [hf] at h1; simp at h1
  · have : y ∈ ids.filter (fun y => decide (y = x)) := by rw [hf]; simp
    have := (List.mem_filter.1 this).2
    simp at this
    rw [this]
  · rw [hf] at h1; simp at h1
/-- What is opened with one key of an owner. -/
theorem open_one {L O : List Mem} {ids : List ByteArray} (hids : IsIds L ids) (h : O.map Mem.k = own1 L ids) {j : Nat} {p : Mem} (hp : O[j]? = some p) (r : Int) :
    ∃ c, p.l[0]? = some c ∧ (opened ids [p.i]).map (virOf L r) = [⟨⟨#[]⟩, openT ++ p.i, c, r⟩] := by
  obtain ⟨o, hid, hbo, _, hl, h1, _⟩ := own_at hids h hp
  rw [opened_one (AscS.nodup hids.asc) (List.mem_of_getElem? hid)]
  rcases hpl : p.l with _ | ⟨c, t⟩
  · rw [hpl] at h1; simp at h1
  · refine ⟨c, rfl, ?_⟩
    simp only [List.map_cons, List.map_nil, virOf, inner0, hbo, Option.getD_some, ← hl, hpl, List.headD_cons]
/-- The owner of a layer's ID is in no later round. -/
theorem own_round {L O : List Mem} {ids : List ByteArray} (hids : IsIds L ids) (h : O.map Mem.k = own1 L ids) {j : Nat} {p m : Mem} (hp : O[j]? = some p) (hm : m ∈ L) (h1 : m.l.length = 1) (he : p.i = m.i) : ¬ m.r < p.r := by
  obtain ⟨o, _, hbo, hk, _⟩ := own_at hids h hp
  rw [he] at hbo
  have h2 := best_round L m hm h1 o hbo
  have h3 := congrArg Mem.r hk
  have h4 : p.r = o.r := h3
  omega
theorem own_some {L O : List Mem} {ids : List ByteArray} (hids : IsIds L ids) (h : O.map Mem.k = own1 L ids) {m : Mem} (hm : m ∈ L) (h1 : m.l.length = 1) : ∃ (j : Nat) (p : Mem), O[j]? = some p ∧ p.i = m.i := by
  have h2 : m.i ∈ ids := (hids.mem m.i).2 ((best_some_iff L _).2 ⟨m, hm, h1, rfl⟩)
  obtain ⟨j, hj⟩ := List.getElem?_of_mem h2
  have hl := own_len h
  have hlt : j < O.length := by rw [hl]; exact (List.getElem?_eq_some_iff.1 hj).1
  obtain ⟨o, hid, _⟩ := own_at hids h (List.getElem?_eq_getElem hlt)
  rw [hj] at hid
  exact ⟨j, _, List.getElem?_eq_getElem hlt, (Option.some.inj hid).symm⟩
end Go.Proofs.YtbblkknndaoefaaGreatDoor
