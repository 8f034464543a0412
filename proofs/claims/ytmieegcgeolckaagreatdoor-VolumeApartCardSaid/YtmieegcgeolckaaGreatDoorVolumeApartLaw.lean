/- The law VolumeApart returns true at every input and leaves its arguments as they were. Conditions: none beyond the given statement's own. -/
import Derived.Test.YtmieegcgeolckaaGreatDoorZV12
import Derived.Test.YtmieegcgeolckaaGreatDoorZV7
import Derived.Test.YtmieegcgeolckaaGreatDoorZV8
import Derived.Test.YtmieegcgeolckaaGreatDoorZV6
import Derived.Test.YtmieegcgeolckaaGreatDoorZV15
import Derived.Test.YtmieegcgeolckaaGreatDoorZV14
import Derived.Test.YtmieegcgeolckaaGreatDoorZV21
import Derived.Test.YtmieegcgeolckaaGreatDoorZV11
import Derived.Test.YtmieegcgeolckaaGreatDoorZV2
import Derived.Test.YtmieegcgeolckaaGreatDoorCards
import Derived.Test.YtmieegcgeolckaaGreatDoorTie
import Derived.WalkKit
import Derived.ProofKit
import Derived.OpenShut
import Derived.ChangeOld
import Derived.Below
import Derived.LaidMore
import Derived.Lay
import Derived.SevenTiedAt
import Derived.Shelf.Vars
import Derived.Stop.LaidErr
import Derived.MakeChecks
namespace Go.Proofs.YtmieegcgeolckaaGreatDoor
open Go.RowKit Go.Maps
set_option linter.unusedVariables false

def pathNames : List ByteArray := [⟨#[97]⟩, ⟨#[98]⟩, ⟨#[115, 100]⟩, ⟨#[112, 49]⟩, ⟨#[97, 95, 98]⟩, ⟨#[120, 33, 121]⟩, ⟨#[65, 45, 49]⟩]
theorem pathNames_size : ∀ s ∈ pathNames, s.size ≤ 3 := by decide
set_option maxRecDepth 100000 in
set_option maxHeartbeats 1000000 in
theorem made_path (B tb k : Nat) (w : World) (ht : Tape w B tb k) (hk : k ≤ 1000000) :
    Calls Tryz.prog 48 #[.pointer (some ⟨tb, 0, none⟩)] w fun e w' => (∃ s k', e = .returned (.string s) ∧ s.size ≤ 100 ∧ k' ≤ k + 4 ∧ Tape w' B tb k') ∧ Fr (Is tb) w w' := by
  go_enter Tryz.func48, Tryz.ntmps48
  go_wp2_with fail
  refine (tape_next B tb k 3 _ ht (by omega) (by omega) (by omega)).mono ?_
  rintro e w1 ⟨r, rfl, hr1, hr2, ht1, hf1⟩
  obtain ⟨r, rfl⟩ := Int.eq_ofNat_of_zero_le hr1
  go_wp2_with fail
  go_loopw [3, 4] (fun v i wr => ∃ (x : ByteArray) (j kk : Nat), v = .string x ∧ i = .int .i64 (j : Int) ∧ j ≤ 3 ∧ x.size + 10 * j ≤ 30 ∧ kk + j ≤ k + 4 ∧ Tape wr B tb kk ∧ Fr (Is tb) w wr) (fun _ i _ => (intOf i).toNat)
  case atStart => exact ⟨⟨#[]⟩, 1 + r, k + 1, rfl, by go_num, by omega, by show 0 + 10 * (1 + r) ≤ 30; omega, by omega, ht1, hf1⟩
  case round =>
    obtain ⟨x, j, kk, rfl, rfl, hj, hx, hkk, htr, hf⟩ := hrel
    by_cases hlt : 0 < j
    · have hlt' : (0 : Int) < j := by omega
      have hs := Strs.of_block (l := pathNames) (block_alloc wr (.cells (pathNames.map Value.string).toArray 9)) (by unfold maxLen pathNames; simp)
      have hfx : Fr No wr (wr.alloc (.cells (pathNames.map Value.string).toArray 9)) := (Fr.refl _ _).alloc _
      have htl := htr.lt
      have hone := tape_one B tb kk (some ⟨wr.heap.size, 0, none⟩) 7 pathNames _ (htr.fr hfx (fun _ _ => id) id) (by omega) hs (by decide) (by decide) (fun ad e => by cases e; show wr.heap.size ≠ tb; omega)
      have Hf := Lib.hid (hf.step hfx (fun _ _ h => h.elim))
      clear hs htr hf hfx
      go_wp2_with fail
      refine hone.mono ?_
      rintro e w2 ⟨⟨y, rfl, hy⟩, ht2, hf2⟩
      have hys := pathNames_size y hy
      have hz1 : ¬ 9223372036854775807 < 1 + y.size := by omega
      have hz2 : ¬ 9223372036854775807 < x.size + (1 + y.size) := by omega
      have Hf2 := Lib.hid (Hf.out.step hf2 (fun _ _ h => h))
      clear hone hy hf2
      go_wp2_with fail
      go_roundw
      case rel => exact ⟨x ++ (⟨#[47]⟩ ++ y), j - 1, kk + 1, rfl, by go_num, by omega, by simp only [ByteArray.size_append]; show x.size + (1 + y.size) + _ ≤ _; omega, by omega, ht2, Hf2.out⟩
      case measure => simp [intOf]; omega
    · obtain rfl : j = 0 := by omega
      go_wp2_with fail
      go_ret
      exact ⟨⟨x, kk, rfl, by omega, by omega, htr⟩, hf⟩
end Go.Proofs.YtmieegcgeolckaaGreatDoor
namespace Go.Proofs.YtmieegcgeolckaaGreatDoor
open Go.RowKit Go.Maps
set_option linter.unusedVariables false

/-- A layer that layers makes. -/
structure LayOk (m : Mem) : Prop where
  p : m.p.size ≤ 100
  i : m.i.size ≤ 2
  n : m.l.length ≤ 1
  l : ∀ x ∈ m.l, x.size ≤ 5
def layIds : List ByteArray := [⟨#[97]⟩, ⟨#[98]⟩, ⟨#[99]⟩, ⟨#[99, 49]⟩]
def layIn : List ByteArray := [⟨#[]⟩, ⟨#[102, 115, 58, 120, 58]⟩, ⟨#[102, 115, 58, 121, 58]⟩]
def layPaths : List ByteArray := [⟨#[120]⟩, ⟨#[]⟩, ⟨#[47, 97, 47]⟩, ⟨#[47, 97, 32, 98]⟩]
theorem layIds_size : ∀ s ∈ layIds, s.size ≤ 2 := by decide
theorem layIn_size : ∀ s ∈ layIn, s.size ≤ 5 := by decide
theorem layPaths_size : ∀ s ∈ layPaths, s.size ≤ 4 := by decide
/-- What layers answers. -/
def LayRes (w : World) (B tb k : Nat) (e : Ending) (w' : World) : Prop :=
  ∃ (L : List Mem) (a' : Option Addr) (c' k' : Nat), e = .returned (.slice a' L.length c') ∧ Mems w' a' c' L ∧ (∀ ad, a' = some ad → w.heap.size ≤ ad.block) ∧ MFresh w' w.heap.size L ∧ (∀ m ∈ L, LayOk m) ∧ L.length ≤ 8 ∧ k' ≤ k + 100 ∧ Tape w' B tb k'

set_option maxRecDepth 100000 in
set_option maxHeartbeats 8000000 in
theorem made_layers (B tb k : Nat) (w : World) (ht : Tape w B tb k) (hk : k ≤ 100000) :
    Calls Tryz.prog 21 #[.pointer (some ⟨tb, 0, none⟩), .int .i64 8] w fun e w' => LayRes w B tb k e w' ∧ Fr (Is tb) w w' := by
  obtain ⟨i0, hi0, hz0, hz1, hz2⟩ := info_parts infoM
  have htl := ht.lt
  have hBt := ht.le
  go_enter Tryz.func21, Tryz.ntmps21
  go_wp2_with fail
  refine (tape_next B tb k 9 _ ht (by omega) (by omega) (by omega)).mono ?_
  rintro e w1 ⟨r, rfl, hr1, hr2, ht1, hf1⟩
  obtain ⟨r, rfl⟩ := Int.eq_ofNat_of_zero_le hr1
  have hf1' : Fr (TB tb w.heap.size) w w1 := hf1.mono (fun b _ h => .inl h)
  go_wp2_with fail
  go_loopw [5, 6] (fun v i wr => ∃ (L : List Mem) (av : Option Addr) (cv j kk : Nat), v = .slice av L.length cv ∧ i = .int .i64 (j : Int) ∧ L.length + j ≤ 8 ∧ kk + 10 * j ≤ k + 100 ∧ wr.ownsRow w.heap.size 31 7 (.slice av L.length cv) L.length (mflat L) ∧ MFresh wr w.heap.size L ∧ Hid (∀ m ∈ L, LayOk m) ∧ Tape wr B tb kk ∧ Fr (TB tb w.heap.size) w wr) (fun _ i _ => (intOf i).toNat)
  case atStart => exact ⟨[], none, 0, r, k + 1, rfl, rfl, by simp; omega, by omega, World.ownsRow_nil _ _ _ _, fun m hm => by simp at hm, fun m hm => by simp at hm, ht1, hf1'⟩
  case round =>
    obtain ⟨L, av, cv, j, kk, rfl, rfl, hLj, hkk, hown, hMF, Hsm, htr, hf⟩ := hrel
    by_cases hlt : 0 < j
    · have hlt' : (0 : Int) < j := by omega
      have hpath := made_path B tb kk wr htr (by omega)
      have hsr := hf.size
      clear htr
      go_wp2_with fail
      refine hpath.mono ?_
      rintro e w2 ⟨⟨p, k2, rfl, hp, hk2, ht2⟩, hf2⟩
      have hown2 := ownsRow_at hown hf2 (fun b h e => by have h1 := ownsRow_blk hown h; unfold From at h1; unfold Is at e; omega)
      have hMF2 := hMF.fr hf2 (fun b h1 h2 e => by unfold Is at e; omega)
      have hff2 : Fr (TB tb w.heap.size) w w2 := hf.step hf2 (fun b _ h => .inl h)
      have hs2 := hf2.size
      clear hpath hf2 hown hMF hf
      have hS2 := Strs.of_block (l := layIds) (block_alloc w2 (.cells (layIds.map Value.string).toArray 9)) (by unfold maxLen layIds; simp)
      have hx2 : Fr No w2 (w2.alloc (.cells (layIds.map Value.string).toArray 9)) := (Fr.refl _ _).alloc _
      have hone := tape_one B tb k2 (some ⟨w2.heap.size, 0, none⟩) 4 layIds _ (ht2.fr hx2 (fun _ _ => id) id) (by omega) hS2 (by decide) (by decide) (fun ad e => by cases e; show w2.heap.size ≠ tb; omega)
      go_wp2_with fail
      refine hone.mono ?_
      rintro e w3 ⟨⟨y, rfl, hy⟩, ht3, hf3⟩
      have hys := layIds_size y hy
      have hf23 : Fr (Is tb) w2 w3 := (hx2.mono (fun _ _ h => h.elim)).step hf3 (fun _ _ h => h)
      clear hone hS2 hx2 hf3 ht2 hy
      go_wp2_with fail
      refine (tape_next B tb (k2 + 1) 3 _ ht3 (by omega) (by omega) (by omega)).mono ?_
      rintro e w4 ⟨rd, rfl, hrd1, hrd2, ht4, hf4⟩
      have hf24 := hf23.step hf4 (fun _ _ h => h)
      have hs4 := hf24.size
      clear hf23 hf4 ht3
      have hS4 := Strs.of_block (l := layIn) (block_alloc w4 (.cells (layIn.map Value.string).toArray 9)) (by unfold maxLen layIn; simp)
      have hx4 : Fr No w4 (w4.alloc (.cells (layIn.map Value.string).toArray 9)) := (Fr.refl _ _).alloc _
      have hone := tape_one B tb (k2 + 1 + 1) (some ⟨w4.heap.size, 0, none⟩) 3 layIn _ (ht4.fr hx4 (fun _ _ => id) id) (by omega) hS4 (by decide) (by decide) (fun ad e => by cases e; show w4.heap.size ≠ tb; omega)
      go_wp2_with fail
      refine hone.mono ?_
      rintro e w6 ⟨⟨z, rfl, hz⟩, ht6, hf6⟩
      have hzs := layIn_size z hz
      have hf26 : Fr (Is tb) w2 w6 := (hf24.step hx4 (fun _ _ h => h.elim)).step hf6 (fun _ _ h => h)
      clear hone hS4 hx4 hf6 ht4 hz hf24
      have hs6 := hf26.size
      go_upto_region 6 with (fail)
      have hx7 : Fr No w6 ((w6.alloc (.cells #[.string z] 9)).alloc (.cells #[.string p, .string y, .int .i64 rd, .int .i64 0, .int .i64 0, .int .i64 0, .slice (some ⟨w6.heap.size, 0, none⟩) 1 1] 31)) := ((Fr.refl _ _).alloc _).alloc _
      have q1 := block_alloc1 w6 (.cells #[.string z] 9) (.cells #[.string p, .string y, .int .i64 rd, .int .i64 0, .int .i64 0, .int .i64 0, .slice (some ⟨w6.heap.size, 0, none⟩) 1 1] 31)
      have q2 := block_alloc2 w6 (.cells #[.string z] 9) (.cells #[.string p, .string y, .int .i64 rd, .int .i64 0, .int .i64 0, .int .i64 0, .slice (some ⟨w6.heap.size, 0, none⟩) 1 1] 31)
      have hs7 : ((w6.alloc (.cells #[.string z] 9)).alloc (.cells #[.string p, .string y, .int .i64 rd, .int .i64 0, .int .i64 0, .int .i64 0, .slice (some ⟨w6.heap.size, 0, none⟩) 1 1] 31)).heap.size = w6.heap.size + 2 := by simp
      generalize (w6.alloc (.cells #[.string z] 9)).alloc (.cells #[.string p, .string y, .int .i64 rd, .int .i64 0, .int .i64 0, .int .i64 0, .slice (some ⟨w6.heap.size, 0, none⟩) 1 1] 31) = W7 at *
      have hs7' : w6.heap.size + 2 ≤ W7.heap.size := by omega
      clear hs7
      have hf27 : Fr (Is tb) w2 W7 := hf26.step hx7 (fun _ _ h => h.elim)
      have ht7 := ht6.fr hx7 (fun _ _ => id) id
      clear ht6 hx7 hf26
      go_wp2_with fail
      refine (tape_next B tb (k2 + 1 + 1 + 1) 14 _ ht7 (by omega) (by omega) (by omega)).mono ?_
      rintro e w8 ⟨r8, rfl, hr81, hr82, ht8, hf8⟩
      have q1' := hf8.heap q1 (fun e => by unfold Is at e; omega)
      have q2' := hf8.heap q2 (fun e => by unfold Is at e; omega)
      have hf28 := hf27.step hf8 (fun _ _ h => h)
      have hs8 := hf8.size
      have hown8 := ownsRow_at hown2 hf28 (fun b h e => by have h1 := ownsRow_blk hown2 h; unfold From at h1; unfold Is at e; omega)
      have hMF8 := hMF2.fr hf28 (fun b h1 h2 e => by unfold Is at e; omega)
      have hff8 : Fr (TB tb w.heap.size) w w8 := hff2.step hf28 (fun b _ h => .inl h)
      have hnb : ∀ b, (Value.slice av L.length cv).ownBlock = some b → b < w2.heap.size := fun b h => ownsRow_lt hown2 h
      have Hnb := Lib.hid hnb
      have hB8 : BlkT w8 (some ⟨w6.heap.size, 0, none⟩) 9 := fun ad e => by cases e; exact ⟨_, q1'⟩
      have hS8 := Strs.of_block (l := [z]) q1' (by unfold maxLen; simp)
      have Hf28 := Lib.hid hf28
      have Hown2 := Lib.hid hown2
      have HMF2 := Lib.hid hMF2
      have Hff2 := Lib.hid hff2
      clear hf27 hf8 q1 q2 hown2 hMF2 hff2 hf28 ht7 hnb
      rcases hr0 : (r8 == 0) with _ | _
      · rcases hr1' : (r8 == 1) with _ | _
        · -- nothing more
          have Hf8 := Lib.hid hff8
          have Hown8 := Lib.hid hown8
          have HMF8 := Lib.hid hMF8
          have Ht8 := Lib.hid ht8
          have HS8 := Lib.hid hS8
          have HB8 := Lib.hid hB8
          clear hff8 hown8 hMF8 ht8 hS8 hB8 q1'
          have y0 : w8.cell? ⟨w6.heap.size + 1, 0, none⟩ = some (.string p) := cell_of_block q2' 0
          have y1 : w8.cell? ⟨w6.heap.size + 1, 1, none⟩ = some (.string y) := cell_of_block q2' 1
          have y2 : w8.cell? ⟨w6.heap.size + 1, 2, none⟩ = some (.int .i64 rd) := cell_of_block q2' 2
          have y3 : w8.cell? ⟨w6.heap.size + 1, 3, none⟩ = some (.int .i64 0) := cell_of_block q2' 3
          have y4 : w8.cell? ⟨w6.heap.size + 1, 4, none⟩ = some (.int .i64 0) := cell_of_block q2' 4
          have y5 : w8.cell? ⟨w6.heap.size + 1, 5, none⟩ = some (.int .i64 0) := cell_of_block q2' 5
          have y6 : w8.cell? ⟨w6.heap.size + 1, 6, none⟩ = some (.slice (some ⟨w6.heap.size, 0, none⟩) 1 1) := cell_of_block q2' 6
          have hsz := Hf8.out.size
          clear q2'
          go_wp2_with (at_builtin; refine wpList_append_own _ rfl _ _ 36 rfl w.heap.size 31 i0 (.agg #[.string ByteArray.empty, .string ByteArray.empty, .int .i64 0, .int .i64 0, .int .i64 0, .int .i64 0, .slice none 0 0]) 7 88 Tryz.underlying36 hi0 hz0 hz1 hz2 rfl (by decide) _ _ _ rfl (Hown8.out.alloc _) ⟨w8.heap.size, 0, none⟩ 1 1 (Mem.vals ⟨p, y, rd, 0, 0, 0, (some ⟨w6.heap.size, 0, none⟩), [z], 1⟩).toList rfl rfl (cells_new _ (Mem.vals ⟨p, y, rd, 0, 0, 0, (some ⟨w6.heap.size, 0, none⟩), [z], 1⟩) _ rfl) (mvals_one _) (by unfold maxLen; omega) (by omega) (by first | omega | (simp; done) | (simp; omega)) ?_; intro v' w9 hown9 hgrow9 _; obtain ⟨av', cv', rfl⟩ := ownsRow_slice hown9)
          have hal : Fr No w8 (w8.alloc (.cells #[.string p, .string y, .int .i64 rd, .int .i64 0, .int .i64 0, .int .i64 0, .slice (some ⟨w6.heap.size, 0, none⟩) 1 1] 31)) := (Fr.refl _ _).alloc _
          have howa := Hown8.out.alloc (.cells #[.string p, .string y, .int .i64 rd, .int .i64 0, .int .i64 0, .int .i64 0, .slice (some ⟨w6.heap.size, 0, none⟩) 1 1] 31)
          have hgf : Fr (fun b => (Value.slice av L.length cv).ownBlock = some b) (w8.alloc (.cells #[.string p, .string y, .int .i64 rd, .int .i64 0, .int .i64 0, .int .i64 0, .slice (some ⟨w6.heap.size, 0, none⟩) 1 1] 31)) w9 := Fr.of_grown hgrow9
          have hMF9 : MFresh w9 w.heap.size (L ++ [⟨p, y, rd, 0, 0, 0, (some ⟨w6.heap.size, 0, none⟩), [z], 1⟩]) :=
            MFresh.own (MFresh.snoc (HMF8.out.fr hal (fun _ _ _ => id)) (HS8.out.no hal (fun _ => id)) (HB8.out.fr hal (fun _ _ => id)) (fun ad e => by cases e; show w.heap.size ≤ w6.heap.size; omega)) howa hgf
          have hsm9 : ∀ m ∈ L ++ [(⟨p, y, rd, 0, 0, 0, (some ⟨w6.heap.size, 0, none⟩), [z], 1⟩ : Mem)], LayOk m := fun m hm => by
            rcases List.mem_append.1 hm with h | h
            · exact Hsm.out m h
            · obtain rfl : m = ⟨p, y, rd, 0, 0, 0, (some ⟨w6.heap.size, 0, none⟩), [z], 1⟩ := by simpa using h
              exact ⟨hp, hys, Nat.le_refl _, fun x hx => by obtain rfl : x = z := (by simpa using hx); exact hzs⟩
          have ht9 := (Ht8.out.fr hal (fun _ _ => id) id).fr hgf (fun b hb h => by have h2 := ownsRow_blk howa h; unfold From at h2; omega) (fun h => by have h2 := ownsRow_blk howa h; unfold From at h2; omega)
          have hf9 : Fr (TB tb w.heap.size) w w9 := (Hf8.out.step hal (fun _ _ h => h.elim)).step hgf (fun b _ h => .inr (ownsRow_blk howa h))
          have HF := Lib.hid (And.intro hown9 (And.intro hMF9 (And.intro hsm9 (And.intro ht9 hf9))))
          clear hown9 hMF9 hsm9 ht9 hf9 hgf howa hal hgrow9
          go_roundw
          case rel => exact ⟨L ++ [⟨p, y, rd, 0, 0, 0, (some ⟨w6.heap.size, 0, none⟩), [z], 1⟩], av', cv', j - 1, k2 + 1 + 1 + 1 + 1, by simp, by go_num, by simp; omega, by omega, by rw [List.length_append, mflat_snoc]; exact HF.out.1, HF.out.2.1, Lib.hid HF.out.2.2.1, HF.out.2.2.2.1, HF.out.2.2.2.2⟩
          case measure => simp [intOf]; omega
        · -- another path
          have hS9 := Strs.of_block (l := layPaths) (block_alloc w8 (.cells (layPaths.map Value.string).toArray 9)) (by unfold maxLen layPaths; simp)
          have hx9 : Fr No w8 (w8.alloc (.cells (layPaths.map Value.string).toArray 9)) := (Fr.refl _ _).alloc _
          have hone := tape_one B tb (k2 + 1 + 1 + 1 + 1) (some ⟨w8.heap.size, 0, none⟩) 4 layPaths _ (ht8.fr hx9 (fun _ _ => id) id) (by omega) hS9 (by decide) (by decide) (fun ad e => by cases e; show w8.heap.size ≠ tb; omega)
          have q3 := hx9.heap q2' id
          have q3' := hx9.heap q1' id
          have hfx : Fr (TB tb w2.heap.size) w2 (w8.alloc (.cells (layPaths.map Value.string).toArray 9)) := (Hf28.out.mono (fun b _ h => .inl h)).step hx9 (fun _ _ h => h.elim)
          have hxs : (w8.alloc (.cells (layPaths.map Value.string).toArray 9)).heap.size = w8.heap.size + 1 := by simp
          clear hx9 hS9 hff8 hown8 hMF8 q1' q2' ht8 hS8 hB8
          go_wp2_with fail
          refine hone.mono ?_
          rintro e wa ⟨⟨s, rfl, hs⟩, hta, hfa⟩
          have hss := layPaths_size s hs
          have q4 := hfa.heap q3 (fun e => by unfold Is at e; omega)
          have q4' := hfa.heap q3' (fun e => by unfold Is at e; omega)
          have hsa := hfa.size
          have q5 := block_setCell q4 0 (.string s)
          have z0 : wa.frozen? ⟨w6.heap.size + 1, 0, none⟩ = false := free_of_block q4 0
          have z1 : wa.cell? ⟨w6.heap.size + 1, 0, none⟩ = some (.string p) := cell_of_block q4 0
          have hfs : Fr (Is (w6.heap.size + 1)) wa (wa.setCell ⟨w6.heap.size + 1, 0, none⟩ (.string s)) := Fr.setCell (S := Is (w6.heap.size + 1)) (p := ⟨w6.heap.size + 1, 0, none⟩) (Fr.refl _ _) (fun _ => rfl) _
          have q5' := hfs.heap q4' (fun e => by unfold Is at e; omega)
          have htb := hta.fr hfs (fun b hb e => by unfold Is at e; omega) (fun e => by unfold Is at e; omega)
          have hf2b : Fr (TB tb w2.heap.size) w2 (wa.setCell ⟨w6.heap.size + 1, 0, none⟩ (.string s)) := (hfx.step hfa (fun b _ h => .inl h)).step hfs (fun b _ h => by unfold Is at h; exact .inr (by omega))
          clear hone q3 q3' q4 q4' hs hfx hfa hfs hta hxs
          go_upto_region 11 with (fail)
          generalize wa.setCell ⟨w6.heap.size + 1, 0, none⟩ (.string s) = Wb at *
          have Hown9 := Lib.hid (ownsRow_at Hown2.out hf2b (fun b h e => by have h1 := ownsRow_blk Hown2.out h; have h2 := ownsRow_lt Hown2.out h; unfold From at h1; unfold TB at e; omega))
          have HMF9 := Lib.hid (HMF2.out.fr hf2b (fun b h1 h2 e => by unfold TB at e; omega))
          have Hf9 := Lib.hid (Hff2.out.step hf2b (fun b _ h => by unfold TB at h ⊢; omega))
          have HB9 : Hid (BlkT Wb (some ⟨w6.heap.size, 0, none⟩) 9) := fun ad e => by cases e; exact ⟨_, q5'⟩
          have HS9 : Hid (Strs Wb (some ⟨w6.heap.size, 0, none⟩) 1 [z]) := Strs.of_block (l := [z]) q5' (by unfold maxLen; simp)
          have Ht9 := Lib.hid htb
          simp at q5
          clear z0 z1 hf2b q5' htb
          have y0 : Wb.cell? ⟨w6.heap.size + 1, 0, none⟩ = some (.string s) := cell_of_block q5 0
          have y1 : Wb.cell? ⟨w6.heap.size + 1, 1, none⟩ = some (.string y) := cell_of_block q5 1
          have y2 : Wb.cell? ⟨w6.heap.size + 1, 2, none⟩ = some (.int .i64 rd) := cell_of_block q5 2
          have y3 : Wb.cell? ⟨w6.heap.size + 1, 3, none⟩ = some (.int .i64 0) := cell_of_block q5 3
          have y4 : Wb.cell? ⟨w6.heap.size + 1, 4, none⟩ = some (.int .i64 0) := cell_of_block q5 4
          have y5 : Wb.cell? ⟨w6.heap.size + 1, 5, none⟩ = some (.int .i64 0) := cell_of_block q5 5
          have y6 : Wb.cell? ⟨w6.heap.size + 1, 6, none⟩ = some (.slice (some ⟨w6.heap.size, 0, none⟩) 1 1) := cell_of_block q5 6
          have hsz := Hf9.out.size
          clear q5
          go_wp2_with (at_builtin; refine wpList_append_own _ rfl _ _ 36 rfl w.heap.size 31 i0 (.agg #[.string ByteArray.empty, .string ByteArray.empty, .int .i64 0, .int .i64 0, .int .i64 0, .int .i64 0, .slice none 0 0]) 7 88 Tryz.underlying36 hi0 hz0 hz1 hz2 rfl (by decide) _ _ _ rfl (Hown9.out.alloc _) ⟨Wb.heap.size, 0, none⟩ 1 1 (Mem.vals ⟨s, y, rd, 0, 0, 0, (some ⟨w6.heap.size, 0, none⟩), [z], 1⟩).toList rfl rfl (cells_new _ (Mem.vals ⟨s, y, rd, 0, 0, 0, (some ⟨w6.heap.size, 0, none⟩), [z], 1⟩) _ rfl) (mvals_one _) (by unfold maxLen; omega) (by omega) (by first | omega | (simp; done) | (simp; omega)) ?_; intro v' w9 hown9 hgrow9 _; obtain ⟨av', cv', rfl⟩ := ownsRow_slice hown9)
          have hal : Fr No Wb (Wb.alloc (.cells #[.string s, .string y, .int .i64 rd, .int .i64 0, .int .i64 0, .int .i64 0, .slice (some ⟨w6.heap.size, 0, none⟩) 1 1] 31)) := (Fr.refl _ _).alloc _
          have howa := Hown9.out.alloc (.cells #[.string s, .string y, .int .i64 rd, .int .i64 0, .int .i64 0, .int .i64 0, .slice (some ⟨w6.heap.size, 0, none⟩) 1 1] 31)
          have hgf : Fr (fun b => (Value.slice av L.length cv).ownBlock = some b) (Wb.alloc (.cells #[.string s, .string y, .int .i64 rd, .int .i64 0, .int .i64 0, .int .i64 0, .slice (some ⟨w6.heap.size, 0, none⟩) 1 1] 31)) w9 := Fr.of_grown hgrow9
          have hMF9 : MFresh w9 w.heap.size (L ++ [⟨s, y, rd, 0, 0, 0, (some ⟨w6.heap.size, 0, none⟩), [z], 1⟩]) :=
            MFresh.own (MFresh.snoc (HMF9.out.fr hal (fun _ _ _ => id)) (HS9.out.no hal (fun _ => id)) (HB9.out.fr hal (fun _ _ => id)) (fun ad e => by cases e; show w.heap.size ≤ w6.heap.size; omega)) howa hgf
          have hsm9 : ∀ m ∈ L ++ [(⟨s, y, rd, 0, 0, 0, (some ⟨w6.heap.size, 0, none⟩), [z], 1⟩ : Mem)], LayOk m := fun m hm => by
            rcases List.mem_append.1 hm with h | h
            · exact Hsm.out m h
            · obtain rfl : m = ⟨s, y, rd, 0, 0, 0, (some ⟨w6.heap.size, 0, none⟩), [z], 1⟩ := by simpa using h
              exact ⟨by show s.size ≤ 100; omega, hys, Nat.le_refl _, fun x hx => by obtain rfl : x = z := (by simpa using hx); exact hzs⟩
          have ht9 := (Ht9.out.fr hal (fun _ _ => id) id).fr hgf (fun b hb h => by have h2 := ownsRow_blk howa h; unfold From at h2; omega) (fun h => by have h2 := ownsRow_blk howa h; unfold From at h2; omega)
          have hf9 : Fr (TB tb w.heap.size) w w9 := (Hf9.out.step hal (fun _ _ h => h.elim)).step hgf (fun b _ h => .inr (ownsRow_blk howa h))
          have HF := Lib.hid (And.intro hown9 (And.intro hMF9 (And.intro hsm9 (And.intro ht9 hf9))))
          clear hown9 hMF9 hsm9 ht9 hf9 hgf howa hal hgrow9
          go_roundw
          case rel => exact ⟨L ++ [⟨s, y, rd, 0, 0, 0, (some ⟨w6.heap.size, 0, none⟩), [z], 1⟩], av', cv', j - 1, k2 + 1 + 1 + 1 + 1 + 1, by simp, by go_num, by simp; omega, by omega, by rw [List.length_append, mflat_snoc]; exact HF.out.1, HF.out.2.1, Lib.hid HF.out.2.2.1, HF.out.2.2.2.1, HF.out.2.2.2.2⟩
          case measure => simp [intOf]; omega
      · -- no inner ones
          have q5 := block_setCell q2' 6 (.slice none 0 0)
          have z0 : w8.frozen? ⟨w6.heap.size + 1, 6, none⟩ = false := free_of_block q2' 6
          have z1 : w8.cell? ⟨w6.heap.size + 1, 6, none⟩ = some (.slice (some ⟨w6.heap.size, 0, none⟩) 1 1) := cell_of_block q2' 6
          have hfs : Fr (Is (w6.heap.size + 1)) w8 (w8.setCell ⟨w6.heap.size + 1, 6, none⟩ (.slice none 0 0)) := Fr.setCell (S := Is (w6.heap.size + 1)) (p := ⟨w6.heap.size + 1, 6, none⟩) (Fr.refl _ _) (fun _ => rfl) _
          have htb := ht8.fr hfs (fun b hb e => by unfold Is at e; omega) (fun e => by unfold Is at e; omega)
          have hf2b : Fr (TB tb w2.heap.size) w2 (w8.setCell ⟨w6.heap.size + 1, 6, none⟩ (.slice none 0 0)) := (Hf28.out.mono (fun b _ h => .inl h)).step hfs (fun b _ h => by unfold Is at h; exact .inr (by omega))
          clear hff8 hown8 hMF8 q1' q2' ht8 hS8 hB8 hfs
          go_upto_region 11 with (fail)
          generalize w8.setCell ⟨w6.heap.size + 1, 6, none⟩ (.slice none 0 0) = Wb at *
          have Hown7 := Lib.hid (ownsRow_at Hown2.out hf2b (fun b h e => by have h1 := ownsRow_blk Hown2.out h; have h2 := ownsRow_lt Hown2.out h; unfold From at h1; unfold TB at e; omega))
          have HMF7 := Lib.hid (HMF2.out.fr hf2b (fun b h1 h2 e => by unfold TB at e; omega))
          have Hf7 := Lib.hid (Hff2.out.step hf2b (fun b _ h => by unfold TB at h ⊢; omega))
          have Ht7 := Lib.hid htb
          simp at q5
          clear z0 z1 hf2b htb
          have y0 : Wb.cell? ⟨w6.heap.size + 1, 0, none⟩ = some (.string p) := cell_of_block q5 0
          have y1 : Wb.cell? ⟨w6.heap.size + 1, 1, none⟩ = some (.string y) := cell_of_block q5 1
          have y2 : Wb.cell? ⟨w6.heap.size + 1, 2, none⟩ = some (.int .i64 rd) := cell_of_block q5 2
          have y3 : Wb.cell? ⟨w6.heap.size + 1, 3, none⟩ = some (.int .i64 0) := cell_of_block q5 3
          have y4 : Wb.cell? ⟨w6.heap.size + 1, 4, none⟩ = some (.int .i64 0) := cell_of_block q5 4
          have y5 : Wb.cell? ⟨w6.heap.size + 1, 5, none⟩ = some (.int .i64 0) := cell_of_block q5 5
          have y6 : Wb.cell? ⟨w6.heap.size + 1, 6, none⟩ = some (.slice none 0 0) := cell_of_block q5 6
          have hsz := Hf7.out.size
          clear q5
          go_wp2_with (at_builtin; refine wpList_append_own _ rfl _ _ 36 rfl w.heap.size 31 i0 (.agg #[.string ByteArray.empty, .string ByteArray.empty, .int .i64 0, .int .i64 0, .int .i64 0, .int .i64 0, .slice none 0 0]) 7 88 Tryz.underlying36 hi0 hz0 hz1 hz2 rfl (by decide) _ _ _ rfl (Hown7.out.alloc _) ⟨Wb.heap.size, 0, none⟩ 1 1 (Mem.vals ⟨p, y, rd, 0, 0, 0, none, [], 0⟩).toList rfl rfl (cells_new _ (Mem.vals ⟨p, y, rd, 0, 0, 0, none, [], 0⟩) _ rfl) (mvals_one _) (by unfold maxLen; omega) (by omega) (by first | omega | (simp; done) | (simp; omega)) ?_; intro v' w9 hown9 hgrow9 _; obtain ⟨av', cv', rfl⟩ := ownsRow_slice hown9)
          have hal : Fr No Wb (Wb.alloc (.cells #[.string p, .string y, .int .i64 rd, .int .i64 0, .int .i64 0, .int .i64 0, .slice none 0 0] 31)) := (Fr.refl _ _).alloc _
          have howa := Hown7.out.alloc (.cells #[.string p, .string y, .int .i64 rd, .int .i64 0, .int .i64 0, .int .i64 0, .slice none 0 0] 31)
          have hgf : Fr (fun b => (Value.slice av L.length cv).ownBlock = some b) (Wb.alloc (.cells #[.string p, .string y, .int .i64 rd, .int .i64 0, .int .i64 0, .int .i64 0, .slice none 0 0] 31)) w9 := Fr.of_grown hgrow9
          have hMF9 : MFresh w9 w.heap.size (L ++ [⟨p, y, rd, 0, 0, 0, none, [], 0⟩]) :=
            MFresh.own (MFresh.snoc (HMF7.out.fr hal (fun _ _ _ => id)) (Strs.nil _) (BlkT.none _ _) (fun ad e => by cases e)) howa hgf
          have hsm9 : ∀ m ∈ L ++ [(⟨p, y, rd, 0, 0, 0, none, [], 0⟩ : Mem)], LayOk m := fun m hm => by
            rcases List.mem_append.1 hm with h | h
            · exact Hsm.out m h
            · obtain rfl : m = ⟨p, y, rd, 0, 0, 0, none, [], 0⟩ := by simpa using h
              exact ⟨hp, hys, Nat.zero_le _, fun x hx => by simp at hx⟩
          have ht9 := (Ht7.out.fr hal (fun _ _ => id) id).fr hgf (fun b hb h => by have h2 := ownsRow_blk howa h; unfold From at h2; omega) (fun h => by have h2 := ownsRow_blk howa h; unfold From at h2; omega)
          have hf9 : Fr (TB tb w.heap.size) w w9 := (Hf7.out.step hal (fun _ _ h => h.elim)).step hgf (fun b _ h => .inr (ownsRow_blk howa h))
          have HF := Lib.hid (And.intro hown9 (And.intro hMF9 (And.intro hsm9 (And.intro ht9 hf9))))
          clear hown9 hMF9 hsm9 ht9 hf9 hgf howa hal hgrow9
          go_roundw
          case rel => exact ⟨L ++ [⟨p, y, rd, 0, 0, 0, none, [], 0⟩], av', cv', j - 1, k2 + 1 + 1 + 1 + 1, by simp, by go_num, by simp; omega, by omega, by rw [List.length_append, mflat_snoc]; exact HF.out.1, HF.out.2.1, Lib.hid HF.out.2.2.1, HF.out.2.2.2.1, HF.out.2.2.2.2⟩
          case measure => simp [intOf]; omega
    · obtain rfl : j = 0 := by omega
      obtain ⟨a', c', hv, hR, hfresh⟩ := Mems.of_own hown (fun m hm => (hMF m hm).1)
      cases hv
      have H := Lib.hid (And.intro hR (And.intro hfresh (And.intro hMF (And.intro htr (hf.mono (T := Is tb) (fun b hb h => by unfold TB at h; unfold Is; omega))))))
      clear hown hMF htr hf hR hfresh
      go_wp2_with fail
      go_ret
      exact ⟨⟨L, _, _, kk, rfl, H.out.1, H.out.2.1, H.out.2.2.1, Hsm.out, by omega, by omega, H.out.2.2.2.1⟩, H.out.2.2.2.2⟩
end Go.Proofs.YtmieegcgeolckaaGreatDoor
namespace Go.Proofs.YtmieegcgeolckaaGreatDoor
open Go.RowKit Go.Maps
set_option linter.unusedVariables false

def pvIds : List ByteArray := [⟨#[118]⟩, ⟨#[119]⟩, ⟨#[118, 45, 49]⟩]
theorem pvIds_size : ∀ s ∈ pvIds, s.size ≤ 3 := by decide
structure PvOk (m : Mem) : Prop where
  p : m.p.size ≤ 100
  i : m.i ∈ pvIds
  s : -1 ≤ m.s ∧ m.s ≤ 19
  t : -1 ≤ m.t ∧ m.t ≤ 19
  n : m.l.length ≤ 2
  l : ∀ x ∈ m.l, x.size ≤ 5
/-- What pv answers. -/
def PvRes (w : World) (B tb k : Nat) (e : Ending) (w' : World) : Prop :=
  ∃ (m : Mem) (k' : Nat), e = .returned (.agg m.vals) ∧ (Strs w' m.a m.c m.l ∧ BlkT w' m.a 9) ∧ (∀ ad, m.a = some ad → w.heap.size ≤ ad.block) ∧ PvOk m ∧ k' ≤ k + 16 ∧ Tape w' B tb k'
def TM (mb tb B4 : Nat) : Nat → Prop := fun b => b = mb ∨ b = tb ∨ B4 ≤ b

set_option maxRecDepth 100000 in
set_option maxHeartbeats 8000000 in
theorem made_pv (B tb k : Nat) (w : World) (ht : Tape w B tb k) (hk : k ≤ 100000) :
    Calls Tryz.prog 67 #[.pointer (some ⟨tb, 0, none⟩)] w fun e w' => PvRes w B tb k e w' ∧ Fr (Is tb) w w' := by
  obtain ⟨i0, hi0, hz0, hz1, hz2⟩ := info_parts infoS
  have htl := ht.lt
  have hBt := ht.le
  have hx : Fr No w (w.alloc (.cells #[.string ⟨#[]⟩, .string ⟨#[]⟩, .int .i64 0, .int .i64 0, .int .i64 0, .int .i64 0, .slice none 0 0] 31)) := (Fr.refl _ _).alloc _
  have q0 := block_alloc w (.cells #[.string ⟨#[]⟩, .string ⟨#[]⟩, .int .i64 0, .int .i64 0, .int .i64 0, .int .i64 0, .slice none 0 0] 31)
  have hsx : (w.alloc (.cells #[.string ⟨#[]⟩, .string ⟨#[]⟩, .int .i64 0, .int .i64 0, .int .i64 0, .int .i64 0, .slice none 0 0] 31)).heap.size = w.heap.size + 1 := by simp
  have htx := ht.fr hx (fun _ _ => id) id
  obtain ⟨W0, hW0⟩ : ∃ W0, W0 = w.alloc (.cells #[.string ⟨#[]⟩, .string ⟨#[]⟩, .int .i64 0, .int .i64 0, .int .i64 0, .int .i64 0, .slice none 0 0] 31) := ⟨_, rfl⟩
  rw [← hW0] at hx q0 hsx htx
  have hsx' : w.heap.size + 1 ≤ W0.heap.size := by omega
  clear hsx
  go_enter Tryz.func67, Tryz.ntmps67
  go_upto_region 1 with (fail)
  rw [← hW0]
  clear hW0
  go_wp2_with fail
  refine (tape_next B tb k 3 _ htx (by omega) (by omega) (by omega)).mono ?_
  rintro e w1 ⟨r, rfl, hr1, hr2, ht1, hf1⟩
  obtain ⟨r, rfl⟩ := Int.eq_ofNat_of_zero_le hr1
  have q1 := hf1.heap q0 (fun e => by unfold Is at e; omega)
  have Hf1 := Lib.hid ((hx.mono (T := Is tb) (fun _ _ h => h.elim)).step hf1 (fun _ _ h => h))
  have hs1 := hf1.size
  clear hx q0 htx hf1 hr1
  have ht3 : 1 ≤ 1 + r ∧ 1 + r ≤ 3 := by omega
  have hpath := made_path B tb (k + 1) w1 ht1 (by omega)
  clear ht1 hr2
  go_upto_region 2 with (fail)
  rw [show (1 : Int) + (r : Int) = ((1 + r : Nat) : Int) from by omega]
  generalize 1 + r = t at *
  go_wp2_with fail
  refine hpath.mono ?_
  rintro e w2 ⟨⟨p, k2, rfl, hp, hk2, ht2⟩, hf2⟩
  have q2 := hf2.heap q1 (fun e => by unfold Is at e; omega)
  have Hf2 := Lib.hid (Hf1.out.step hf2 (fun _ _ h => h))
  have hs2 := hf2.size
  clear hpath q1 hf2 Hf1
  have hS2 := Strs.of_block (l := pvIds) (block_alloc w2 (.cells (pvIds.map Value.string).toArray 9)) (by unfold maxLen pvIds; simp)
  have hx2 : Fr No w2 (w2.alloc (.cells (pvIds.map Value.string).toArray 9)) := (Fr.refl _ _).alloc _
  have hone := tape_one B tb k2 (some ⟨w2.heap.size, 0, none⟩) 3 pvIds _ (ht2.fr hx2 (fun _ _ => id) id) (by omega) hS2 (by decide) (by decide) (fun ad e => by cases e; show w2.heap.size ≠ tb; omega)
  go_wp2_with fail
  refine hone.mono ?_
  rintro e w3 ⟨⟨y, rfl, hy⟩, ht3', hf3⟩
  have q3 := hf3.heap (hx2.heap q2 id) (fun e => by unfold Is at e; omega)
  have Hf3 := Lib.hid ((Hf2.out.step hx2 (fun _ _ h => h.elim)).step hf3 (fun _ _ h => h))
  have hs3 := (hx2.mono (T := Is tb) (fun _ _ h => h.elim) |>.step hf3 (fun _ _ h => h)).size
  have Hy : Hid (y ∈ pvIds) := hy
  clear hone hS2 hx2 ht2 hf3 hy q2 Hf2
  have hn4 := tape_next B tb (k2 + 1) 3 w3 ht3' (by omega) (by omega) (by omega)
  go_wp2_with fail
  refine hn4.mono ?_
  rintro e w4 ⟨rd, rfl, hrd1, hrd2, ht4, hf4⟩
  have q4 := hf4.heap q3 (fun e => by unfold Is at e; omega)
  have Hf4 := Lib.hid (Hf3.out.step hf4 (fun _ _ h => h))
  have hs4 := hf4.size
  clear hn4 q3 hf4 Hf3 ht3'
  have hn5 := tape_next B tb (k2 + 1 + 1) (t : Int) w4 ht4 (by omega) (by omega) (by omega)
  go_wp2_with fail
  refine hn5.mono ?_
  rintro e w5 ⟨s0, rfl, hs01, hs02, ht5, hf5⟩
  have q5 := hf5.heap q4 (fun e => by unfold Is at e; omega)
  have Hf5 := Lib.hid (Hf4.out.step hf5 (fun _ _ h => h))
  have hs5 := hf5.size
  clear hn5 q4 hf5 Hf4 ht4
  go_upto_region 3 with (fail)
  obtain ⟨s, hss⟩ : ∃ s : Int, s = 1 + s0 := ⟨_, rfl⟩
  rw [← hss]
  have hsr : 1 ≤ s ∧ s ≤ 3 := by omega
  clear hss
  have hx6 : Fr No w5 (w5.alloc (.cells #[.string p, .string y, .int .i64 rd, .int .i64 s, .int .i64 (t : Int), .int .i64 (t : Int), .slice none 0 0] 31)) := (Fr.refl _ _).alloc _
  have qm := block_alloc w5 (.cells #[.string p, .string y, .int .i64 rd, .int .i64 s, .int .i64 (t : Int), .int .i64 (t : Int), .slice none 0 0] 31)
  have ht6 := ht5.fr hx6 (fun _ _ => id) id
  generalize w5.alloc (.cells #[.string p, .string y, .int .i64 rd, .int .i64 s, .int .i64 (t : Int), .int .i64 (t : Int), .slice none 0 0] 31) = W6 at *
  have q6 := hx6.heap q5 id
  have Hf6 := Lib.hid (Hf5.out.step hx6 (fun _ _ h => h.elim))
  have hs6 := hx6.size
  have hlm := lt_of_block qm
  have hmt : w5.heap.size ≠ tb := by omega
  have hmB : B ≤ w5.heap.size := by omega
  have hm2 : w.heap.size < w5.heap.size := by omega
  generalize w5.heap.size = mb at *
  clear q5 hx6 Hf5 ht5 hs01 hs02
  have hn7 := tape_next B tb (k2 + 1 + 1 + 1) 3 W6 ht6 (by omega) (by omega) (by omega)
  go_wp2_with fail
  refine hn7.mono ?_
  rintro e w7 ⟨c7, rfl, hc71, hc72, ht7, hf7⟩
  obtain ⟨c7, rfl⟩ := Int.eq_ofNat_of_zero_le hc71
  have q7 := hf7.heap q6 (fun e => by unfold Is at e; omega)
  have qm7 := hf7.heap qm (fun e => by unfold Is at e; omega)
  have Hf7 := Lib.hid (Hf6.out.step hf7 (fun _ _ h => h))
  have hs7 := hf7.size
  clear hn7 q6 qm hf7 Hf6 ht6 hc71
  go_wp2_with fail
  have hlm7 := lt_of_block qm7
  obtain ⟨B4, hB4⟩ : ∃ B4, B4 = w7.heap.size := ⟨_, rfl⟩
  have HB4 := Lib.hid hB4
  have hlmB : mb < B4 := by omega
  have hwB : w.heap.size ≤ B4 := by omega
  clear hB4
  go_loopw [5] (fun i wr => ∃ (l : List ByteArray) (av : Option Addr) (cv j kk : Nat), i = .int .i64 (j : Int) ∧ l.length + j ≤ 2 ∧ kk + 1 * j ≤ k2 + 6 ∧ wr.heap[mb]? = some (.cells #[.string p, .string y, .int .i64 rd, .int .i64 s, .int .i64 (t : Int), .int .i64 (t : Int), .slice av l.length cv] 31) ∧ wr.ownsRow B4 9 1 (.slice av l.length cv) l.length (l.map Value.string) ∧ Hid (∀ x ∈ l, x.size ≤ 5) ∧ Tape wr B tb kk ∧ Fr (TM mb tb B4) w7 wr) (fun i _ => (intOf i).toNat)
  case atStart => exact ⟨[], none, 0, c7, k2 + 1 + 1 + 1 + 1, rfl, by simp; omega, by omega, qm7, World.ownsRow_nil _ _ _ _, fun x hx => by simp at hx, ht7, Fr.refl _ _⟩
  case round =>
    obtain ⟨l, av, cv, j, kk, rfl, hlj, hkk, hbox, hown, Hl, htr, hf⟩ := hrel
    have hll : l.length ≤ 2 := by omega
    have hsr7 : B4 ≤ wr.heap.size := by have := hf.size; have := HB4.out; omega
    by_cases hlt : 0 < j
    · have hlt' : (0 : Int) < j := by omega
      have Hf := Lib.hid hf
      clear hf qm7 q7
      go_upto_region 6 with (fail)
      refine region_tree (TM mb tb B4) (.q 0 (.q 2 (.m2 1 (.m1 3 (.m1 4 (.m1 5 (.m1 6 (.q 7 (.m1 8 .fin)))))) 3 (.m2 1 (.m1 4 (.m1 5 (.m1 6 (.q 7 (.m1 8 .fin))))) 4 (.m2 1 (.m1 5 (.m1 6 (.q 7 (.m1 8 .fin)))) 5 (.m1 1 (.m1 6 (.q 7 (.m1 8 .fin))))))))) _ (by kernel_rfl) (by kernel_rfl) (fun w0 hf0 => ?_) (fun _ _ h => h)
      have qb0 := hf0.heap hbox id
      have hown0 := ownsRow_at hown hf0 (fun _ _ h => h)
      have ht0 := htr.fr hf0 (fun _ _ => id) id
      have Hf0 := Lib.hid (Hf.out.step hf0 (fun _ _ h => h.elim))
      have hs0 := hf0.size
      clear hbox hown htr hf0
      repeat (apply tree_q; exact rfl; exact rfl; exact rfl; intro K hK; go_big_quiet_op; go_big_quiet_on)
      refine tree_m2 rfl rfl ?_ ?_
      · have z6 : w0.cell? ⟨mb, 6, none⟩ = some (.slice av l.length cv) := cell_of_block qb0 6
        go_wp2_with fail
        clear z6
        refine OnlyN.mk ⟨Fr.refl _ _, ?_⟩
        refine tree_m1 rfl ?_
        go_wp2_with fail
        have hX1 : Fr No w0 (w0.alloc (.cells (layIn.map Value.string).toArray 9)) := (Fr.refl _ _).alloc _
        have hS1 := Strs.of_block (l := layIn) (block_alloc w0 (.cells (layIn.map Value.string).toArray 9)) (by unfold maxLen layIn; simp)
        refine OnlyN.mk ⟨(Fr.refl _ _).alloc _, ?_⟩
        change wpSg _ _ _ _ _ _ (w0.alloc (.cells (layIn.map Value.string).toArray 9))
        generalize w0.alloc (.cells (layIn.map Value.string).toArray 9) = X1 at *
        have qb1 := hX1.heap qb0 id
        have hs1 := hX1.size
        refine tree_m1 rfl ?_
        have hone := tape_one B tb kk (some ⟨w0.heap.size, 0, none⟩) 3 layIn _ (ht0.fr hX1 (fun _ _ => id) id) (by omega) hS1 (by decide) (by decide) (fun ad e => by cases e; show w0.heap.size ≠ tb; omega)
        go_wp2_with fail
        refine hone.mono ?_
        rintro e X2 ⟨⟨z, rfl, hz⟩, ht2, hX2⟩
        have hzs := layIn_size z hz
        have qb2 := hX2.heap qb1 (fun e => by unfold Is at e; omega)
        have hs2 := hX2.size
        clear hone
        go_wp2_with fail
        refine OnlyN.mk ⟨hX2.mono (fun b _ h => .inr (.inl h)), ?_⟩
        refine tree_m1 rfl ?_
        go_wp2_with fail
        have hX3 : Fr No X2 (X2.alloc (.cells #[.string z] 9)) := (Fr.refl _ _).alloc _
        have hcz := cell_one_new X2 (.string z) 9
        refine OnlyN.mk ⟨(Fr.refl _ _).alloc _, ?_⟩
        generalize X2.alloc (.cells #[.string z] 9) = X3 at *
        have qb3 := hX3.heap qb2 id
        have hs3 := hX3.size
        refine tree_m1 rfl ?_
        have hX03 : Fr (Is tb) w0 X3 := ((hX1.mono (fun _ _ h => h.elim)).step hX2 (fun _ _ h => h)).step hX3 (fun _ _ h => h.elim)
        have hown3 := ownsRow_at hown0 hX03 (fun b h e => by have h1 := ownsRow_blk hown0 h; unfold From at h1; unfold Is at e; omega)
        have Hown3 := Lib.hid hown3
        go_wp2_with (at_builtin; refine wpList_append_own _ rfl _ _ 27 rfl B4 9 i0 (.string ByteArray.empty) 1 16 Tryz.underlying27 hi0 hz0 hz1 hz2 rfl (by decide) _ _ _ rfl hown3 ⟨X2.heap.size, 0, none⟩ 1 1 [.string z] rfl rfl hcz (strs_one [z]) (by unfold maxLen; omega) (by omega) (by first | omega | (simp; done) | (simp; omega)) ?_; intro v' w9 hown9 hgrow9 _; obtain ⟨av', cv', rfl⟩ := ownsRow_slice hown9)
        have hgf : Fr (fun b => (Value.slice av l.length cv).ownBlock = some b) X3 w9 := Fr.of_grown hgrow9
        refine OnlyN.mk ⟨hgf.mono (fun b _ e => .inr (.inr (ownsRow_blk Hown3.out e))), ?_⟩
        repeat (apply tree_q; exact rfl; exact rfl; exact rfl; intro K hK; go_big_quiet_op; go_big_quiet_on)
        refine tree_m1 rfl ?_
        have qb9 := hgf.heap qb3 (fun e => by have h1 := ownsRow_blk Hown3.out e; unfold From at h1; omega)
        have HX := Lib.hid (And.intro (hX03.mono (T := TM mb tb B4) (fun b _ h => .inr (.inl h)) |>.step hgf (fun b _ e => .inr (.inr (ownsRow_blk Hown3.out e)))) (And.intro hown9 (And.intro qb9 (And.intro (((ht2.fr hX3 (fun _ _ => id) id).fr hgf (fun b hb e => by have h1 := ownsRow_blk Hown3.out e; unfold From at h1; omega) (fun e => by have h1 := ownsRow_blk Hown3.out e; unfold From at h1; omega))) hzs))))
        have y6 : w9.cell? ⟨mb, 6, none⟩ = some (.slice av l.length cv) := cell_of_block qb9 6
        have y7 : w9.frozen? ⟨mb, 6, none⟩ = false := free_of_block qb9 6
        clear hown9 qb9 hgrow9 hgf hown3 hX03 hX1 hX2 hX3 hcz hS1 qb1 qb2 qb3 ht2 hz hzs
        go_wp2_with fail
        have hfs : Fr (Is mb) w9 (w9.setCell ⟨mb, 6, none⟩ (.slice av' (l.length + 1) cv')) := Fr.setCell (S := Is mb) (p := ⟨mb, 6, none⟩) (Fr.refl _ _) (fun _ => rfl) _
        refine OnlyN.mk ⟨hfs.mono (fun b _ h => .inl h), ?_⟩
        have q10 := block_setCell HX.out.2.2.1 6 (.slice av' (l.length + 1) cv')
        have hown10 := ownsRow_at HX.out.2.1 hfs (fun b h e => by have h1 := ownsRow_blk HX.out.2.1 h; unfold From at h1; unfold Is at e; omega)
        have ht10 := HX.out.2.2.2.1.fr hfs (fun b hb e => by unfold Is at e; omega) (fun e => by unfold Is at e; omega)
        have hf10 := (HX.out.1.step hfs (fun b _ h => .inl h))
        simp at q10
        have HY := Lib.hid (And.intro q10 (And.intro hown10 (And.intro ht10 (Hf0.out.step hf10 (fun b hb h => h)))))
        have Hz := Lib.hid HX.out.2.2.2.2
        clear q10 hown10 ht10 hf10 hfs HX y6 y7
        refine tree_end ?_
        go_wp2_with fail
        go_roundw
        case rel => exact ⟨l ++ [z], av', cv', j - 1, kk + 1, by go_num, by simp; omega, by omega, by rw [List.length_append]; exact HY.out.1, by rw [List.length_append, List.map_append]; exact HY.out.2.1, fun x hx => (List.mem_append.1 hx).elim (fun h => Hl.out x h) (fun h => by obtain rfl : x = z := (by simpa using h); exact Hz.out), HY.out.2.2.1, HY.out.2.2.2⟩
        case measure => simp [intOf]; omega
      · go_wp2_with fail
        have hX1 : Fr No w0 (w0.alloc (.cells (layIn.map Value.string).toArray 9)) := (Fr.refl _ _).alloc _
        have hS1 := Strs.of_block (l := layIn) (block_alloc w0 (.cells (layIn.map Value.string).toArray 9)) (by unfold maxLen layIn; simp)
        refine OnlyN.mk ⟨(Fr.refl _ _).alloc _, ?_⟩
        change wpSg _ _ _ _ _ _ (w0.alloc (.cells (layIn.map Value.string).toArray 9))
        generalize w0.alloc (.cells (layIn.map Value.string).toArray 9) = X1 at *
        have qb1 := hX1.heap qb0 id
        have hs1 := hX1.size
        refine tree_m2 rfl rfl ?_ ?_
        · have z6 : X1.cell? ⟨mb, 6, none⟩ = some (.slice av l.length cv) := cell_of_block qb1 6
          go_wp2_with fail
          clear z6
          refine OnlyN.mk ⟨Fr.refl _ _, ?_⟩
          refine tree_m1 rfl ?_
          have hone := tape_one B tb kk (some ⟨w0.heap.size, 0, none⟩) 3 layIn _ (ht0.fr hX1 (fun _ _ => id) id) (by omega) hS1 (by decide) (by decide) (fun ad e => by cases e; show w0.heap.size ≠ tb; omega)
          go_wp2_with fail
          refine hone.mono ?_
          rintro e X2 ⟨⟨z, rfl, hz⟩, ht2, hX2⟩
          have hzs := layIn_size z hz
          have qb2 := hX2.heap qb1 (fun e => by unfold Is at e; omega)
          have hs2 := hX2.size
          clear hone
          go_wp2_with fail
          refine OnlyN.mk ⟨hX2.mono (fun b _ h => .inr (.inl h)), ?_⟩
          refine tree_m1 rfl ?_
          go_wp2_with fail
          have hX3 : Fr No X2 (X2.alloc (.cells #[.string z] 9)) := (Fr.refl _ _).alloc _
          have hcz := cell_one_new X2 (.string z) 9
          refine OnlyN.mk ⟨(Fr.refl _ _).alloc _, ?_⟩
          generalize X2.alloc (.cells #[.string z] 9) = X3 at *
          have qb3 := hX3.heap qb2 id
          have hs3 := hX3.size
          refine tree_m1 rfl ?_
          have hX03 : Fr (Is tb) w0 X3 := ((hX1.mono (fun _ _ h => h.elim)).step hX2 (fun _ _ h => h)).step hX3 (fun _ _ h => h.elim)
          have hown3 := ownsRow_at hown0 hX03 (fun b h e => by have h1 := ownsRow_blk hown0 h; unfold From at h1; unfold Is at e; omega)
          have Hown3 := Lib.hid hown3
          go_wp2_with (at_builtin; refine wpList_append_own _ rfl _ _ 27 rfl B4 9 i0 (.string ByteArray.empty) 1 16 Tryz.underlying27 hi0 hz0 hz1 hz2 rfl (by decide) _ _ _ rfl hown3 ⟨X2.heap.size, 0, none⟩ 1 1 [.string z] rfl rfl hcz (strs_one [z]) (by unfold maxLen; omega) (by omega) (by first | omega | (simp; done) | (simp; omega)) ?_; intro v' w9 hown9 hgrow9 _; obtain ⟨av', cv', rfl⟩ := ownsRow_slice hown9)
          have hgf : Fr (fun b => (Value.slice av l.length cv).ownBlock = some b) X3 w9 := Fr.of_grown hgrow9
          refine OnlyN.mk ⟨hgf.mono (fun b _ e => .inr (.inr (ownsRow_blk Hown3.out e))), ?_⟩
          repeat (apply tree_q; exact rfl; exact rfl; exact rfl; intro K hK; go_big_quiet_op; go_big_quiet_on)
          refine tree_m1 rfl ?_
          have qb9 := hgf.heap qb3 (fun e => by have h1 := ownsRow_blk Hown3.out e; unfold From at h1; omega)
          have HX := Lib.hid (And.intro (hX03.mono (T := TM mb tb B4) (fun b _ h => .inr (.inl h)) |>.step hgf (fun b _ e => .inr (.inr (ownsRow_blk Hown3.out e)))) (And.intro hown9 (And.intro qb9 (And.intro (((ht2.fr hX3 (fun _ _ => id) id).fr hgf (fun b hb e => by have h1 := ownsRow_blk Hown3.out e; unfold From at h1; omega) (fun e => by have h1 := ownsRow_blk Hown3.out e; unfold From at h1; omega))) hzs))))
          have y6 : w9.cell? ⟨mb, 6, none⟩ = some (.slice av l.length cv) := cell_of_block qb9 6
          have y7 : w9.frozen? ⟨mb, 6, none⟩ = false := free_of_block qb9 6
          clear hown9 qb9 hgrow9 hgf hown3 hX03 hX1 hX2 hX3 hcz hS1 qb1 qb2 qb3 ht2 hz hzs
          go_wp2_with fail
          have hfs : Fr (Is mb) w9 (w9.setCell ⟨mb, 6, none⟩ (.slice av' (l.length + 1) cv')) := Fr.setCell (S := Is mb) (p := ⟨mb, 6, none⟩) (Fr.refl _ _) (fun _ => rfl) _
          refine OnlyN.mk ⟨hfs.mono (fun b _ h => .inl h), ?_⟩
          have q10 := block_setCell HX.out.2.2.1 6 (.slice av' (l.length + 1) cv')
          have hown10 := ownsRow_at HX.out.2.1 hfs (fun b h e => by have h1 := ownsRow_blk HX.out.2.1 h; unfold From at h1; unfold Is at e; omega)
          have ht10 := HX.out.2.2.2.1.fr hfs (fun b hb e => by unfold Is at e; omega) (fun e => by unfold Is at e; omega)
          have hf10 := (HX.out.1.step hfs (fun b _ h => .inl h))
          simp at q10
          have HY := Lib.hid (And.intro q10 (And.intro hown10 (And.intro ht10 (Hf0.out.step hf10 (fun b hb h => h)))))
          have Hz := Lib.hid HX.out.2.2.2.2
          clear q10 hown10 ht10 hf10 hfs HX y6 y7
          refine tree_end ?_
          go_wp2_with fail
          go_roundw
          case rel => exact ⟨l ++ [z], av', cv', j - 1, kk + 1, by go_num, by simp; omega, by omega, by rw [List.length_append]; exact HY.out.1, by rw [List.length_append, List.map_append]; exact HY.out.2.1, fun x hx => (List.mem_append.1 hx).elim (fun h => Hl.out x h) (fun h => by obtain rfl : x = z := (by simpa using h); exact Hz.out), HY.out.2.2.1, HY.out.2.2.2⟩
          case measure => simp [intOf]; omega
        · have hone := tape_one B tb kk (some ⟨w0.heap.size, 0, none⟩) 3 layIn _ (ht0.fr hX1 (fun _ _ => id) id) (by omega) hS1 (by decide) (by decide) (fun ad e => by cases e; show w0.heap.size ≠ tb; omega)
          go_wp2_with fail
          refine hone.mono ?_
          rintro e X2 ⟨⟨z, rfl, hz⟩, ht2, hX2⟩
          have hzs := layIn_size z hz
          have qb2 := hX2.heap qb1 (fun e => by unfold Is at e; omega)
          have hs2 := hX2.size
          clear hone
          go_wp2_with fail
          refine OnlyN.mk ⟨hX2.mono (fun b _ h => .inr (.inl h)), ?_⟩
          refine tree_m2 rfl rfl ?_ ?_
          · have z6 : X2.cell? ⟨mb, 6, none⟩ = some (.slice av l.length cv) := cell_of_block qb2 6
            go_wp2_with fail
            clear z6
            refine OnlyN.mk ⟨Fr.refl _ _, ?_⟩
            refine tree_m1 rfl ?_
            go_wp2_with fail
            have hX3 : Fr No X2 (X2.alloc (.cells #[.string z] 9)) := (Fr.refl _ _).alloc _
            have hcz := cell_one_new X2 (.string z) 9
            refine OnlyN.mk ⟨(Fr.refl _ _).alloc _, ?_⟩
            generalize X2.alloc (.cells #[.string z] 9) = X3 at *
            have qb3 := hX3.heap qb2 id
            have hs3 := hX3.size
            refine tree_m1 rfl ?_
            have hX03 : Fr (Is tb) w0 X3 := ((hX1.mono (fun _ _ h => h.elim)).step hX2 (fun _ _ h => h)).step hX3 (fun _ _ h => h.elim)
            have hown3 := ownsRow_at hown0 hX03 (fun b h e => by have h1 := ownsRow_blk hown0 h; unfold From at h1; unfold Is at e; omega)
            have Hown3 := Lib.hid hown3
            go_wp2_with (at_builtin; refine wpList_append_own _ rfl _ _ 27 rfl B4 9 i0 (.string ByteArray.empty) 1 16 Tryz.underlying27 hi0 hz0 hz1 hz2 rfl (by decide) _ _ _ rfl hown3 ⟨X2.heap.size, 0, none⟩ 1 1 [.string z] rfl rfl hcz (strs_one [z]) (by unfold maxLen; omega) (by omega) (by first | omega | (simp; done) | (simp; omega)) ?_; intro v' w9 hown9 hgrow9 _; obtain ⟨av', cv', rfl⟩ := ownsRow_slice hown9)
            have hgf : Fr (fun b => (Value.slice av l.length cv).ownBlock = some b) X3 w9 := Fr.of_grown hgrow9
            refine OnlyN.mk ⟨hgf.mono (fun b _ e => .inr (.inr (ownsRow_blk Hown3.out e))), ?_⟩
            repeat (apply tree_q; exact rfl; exact rfl; exact rfl; intro K hK; go_big_quiet_op; go_big_quiet_on)
            refine tree_m1 rfl ?_
            have qb9 := hgf.heap qb3 (fun e => by have h1 := ownsRow_blk Hown3.out e; unfold From at h1; omega)
            have HX := Lib.hid (And.intro (hX03.mono (T := TM mb tb B4) (fun b _ h => .inr (.inl h)) |>.step hgf (fun b _ e => .inr (.inr (ownsRow_blk Hown3.out e)))) (And.intro hown9 (And.intro qb9 (And.intro (((ht2.fr hX3 (fun _ _ => id) id).fr hgf (fun b hb e => by have h1 := ownsRow_blk Hown3.out e; unfold From at h1; omega) (fun e => by have h1 := ownsRow_blk Hown3.out e; unfold From at h1; omega))) hzs))))
            have y6 : w9.cell? ⟨mb, 6, none⟩ = some (.slice av l.length cv) := cell_of_block qb9 6
            have y7 : w9.frozen? ⟨mb, 6, none⟩ = false := free_of_block qb9 6
            clear hown9 qb9 hgrow9 hgf hown3 hX03 hX1 hX2 hX3 hcz hS1 qb1 qb2 qb3 ht2 hz hzs
            go_wp2_with fail
            have hfs : Fr (Is mb) w9 (w9.setCell ⟨mb, 6, none⟩ (.slice av' (l.length + 1) cv')) := Fr.setCell (S := Is mb) (p := ⟨mb, 6, none⟩) (Fr.refl _ _) (fun _ => rfl) _
            refine OnlyN.mk ⟨hfs.mono (fun b _ h => .inl h), ?_⟩
            have q10 := block_setCell HX.out.2.2.1 6 (.slice av' (l.length + 1) cv')
            have hown10 := ownsRow_at HX.out.2.1 hfs (fun b h e => by have h1 := ownsRow_blk HX.out.2.1 h; unfold From at h1; unfold Is at e; omega)
            have ht10 := HX.out.2.2.2.1.fr hfs (fun b hb e => by unfold Is at e; omega) (fun e => by unfold Is at e; omega)
            have hf10 := (HX.out.1.step hfs (fun b _ h => .inl h))
            simp at q10
            have HY := Lib.hid (And.intro q10 (And.intro hown10 (And.intro ht10 (Hf0.out.step hf10 (fun b hb h => h)))))
            have Hz := Lib.hid HX.out.2.2.2.2
            clear q10 hown10 ht10 hf10 hfs HX y6 y7
            refine tree_end ?_
            go_wp2_with fail
            go_roundw
            case rel => exact ⟨l ++ [z], av', cv', j - 1, kk + 1, by go_num, by simp; omega, by omega, by rw [List.length_append]; exact HY.out.1, by rw [List.length_append, List.map_append]; exact HY.out.2.1, fun x hx => (List.mem_append.1 hx).elim (fun h => Hl.out x h) (fun h => by obtain rfl : x = z := (by simpa using h); exact Hz.out), HY.out.2.2.1, HY.out.2.2.2⟩
            case measure => simp [intOf]; omega
          · go_wp2_with fail
            have hX3 : Fr No X2 (X2.alloc (.cells #[.string z] 9)) := (Fr.refl _ _).alloc _
            have hcz := cell_one_new X2 (.string z) 9
            refine OnlyN.mk ⟨(Fr.refl _ _).alloc _, ?_⟩
            generalize X2.alloc (.cells #[.string z] 9) = X3 at *
            have qb3 := hX3.heap qb2 id
            have hs3 := hX3.size
            refine tree_m1 rfl ?_
            have z6 : X3.cell? ⟨mb, 6, none⟩ = some (.slice av l.length cv) := cell_of_block qb3 6
            go_wp2_with fail
            clear z6
            refine OnlyN.mk ⟨Fr.refl _ _, ?_⟩
            refine tree_m1 rfl ?_
            have hX03 : Fr (Is tb) w0 X3 := ((hX1.mono (fun _ _ h => h.elim)).step hX2 (fun _ _ h => h)).step hX3 (fun _ _ h => h.elim)
            have hown3 := ownsRow_at hown0 hX03 (fun b h e => by have h1 := ownsRow_blk hown0 h; unfold From at h1; unfold Is at e; omega)
            have Hown3 := Lib.hid hown3
            go_wp2_with (at_builtin; refine wpList_append_own _ rfl _ _ 27 rfl B4 9 i0 (.string ByteArray.empty) 1 16 Tryz.underlying27 hi0 hz0 hz1 hz2 rfl (by decide) _ _ _ rfl hown3 ⟨X2.heap.size, 0, none⟩ 1 1 [.string z] rfl rfl hcz (strs_one [z]) (by unfold maxLen; omega) (by omega) (by first | omega | (simp; done) | (simp; omega)) ?_; intro v' w9 hown9 hgrow9 _; obtain ⟨av', cv', rfl⟩ := ownsRow_slice hown9)
            have hgf : Fr (fun b => (Value.slice av l.length cv).ownBlock = some b) X3 w9 := Fr.of_grown hgrow9
            refine OnlyN.mk ⟨hgf.mono (fun b _ e => .inr (.inr (ownsRow_blk Hown3.out e))), ?_⟩
            repeat (apply tree_q; exact rfl; exact rfl; exact rfl; intro K hK; go_big_quiet_op; go_big_quiet_on)
            refine tree_m1 rfl ?_
            have qb9 := hgf.heap qb3 (fun e => by have h1 := ownsRow_blk Hown3.out e; unfold From at h1; omega)
            have HX := Lib.hid (And.intro (hX03.mono (T := TM mb tb B4) (fun b _ h => .inr (.inl h)) |>.step hgf (fun b _ e => .inr (.inr (ownsRow_blk Hown3.out e)))) (And.intro hown9 (And.intro qb9 (And.intro (((ht2.fr hX3 (fun _ _ => id) id).fr hgf (fun b hb e => by have h1 := ownsRow_blk Hown3.out e; unfold From at h1; omega) (fun e => by have h1 := ownsRow_blk Hown3.out e; unfold From at h1; omega))) hzs))))
            have y6 : w9.cell? ⟨mb, 6, none⟩ = some (.slice av l.length cv) := cell_of_block qb9 6
            have y7 : w9.frozen? ⟨mb, 6, none⟩ = false := free_of_block qb9 6
            clear hown9 qb9 hgrow9 hgf hown3 hX03 hX1 hX2 hX3 hcz hS1 qb1 qb2 qb3 ht2 hz hzs
            go_wp2_with fail
            have hfs : Fr (Is mb) w9 (w9.setCell ⟨mb, 6, none⟩ (.slice av' (l.length + 1) cv')) := Fr.setCell (S := Is mb) (p := ⟨mb, 6, none⟩) (Fr.refl _ _) (fun _ => rfl) _
            refine OnlyN.mk ⟨hfs.mono (fun b _ h => .inl h), ?_⟩
            have q10 := block_setCell HX.out.2.2.1 6 (.slice av' (l.length + 1) cv')
            have hown10 := ownsRow_at HX.out.2.1 hfs (fun b h e => by have h1 := ownsRow_blk HX.out.2.1 h; unfold From at h1; unfold Is at e; omega)
            have ht10 := HX.out.2.2.2.1.fr hfs (fun b hb e => by unfold Is at e; omega) (fun e => by unfold Is at e; omega)
            have hf10 := (HX.out.1.step hfs (fun b _ h => .inl h))
            simp at q10
            have HY := Lib.hid (And.intro q10 (And.intro hown10 (And.intro ht10 (Hf0.out.step hf10 (fun b hb h => h)))))
            have Hz := Lib.hid HX.out.2.2.2.2
            clear q10 hown10 ht10 hf10 hfs HX y6 y7
            refine tree_end ?_
            go_wp2_with fail
            go_roundw
            case rel => exact ⟨l ++ [z], av', cv', j - 1, kk + 1, by go_num, by simp; omega, by omega, by rw [List.length_append]; exact HY.out.1, by rw [List.length_append, List.map_append]; exact HY.out.2.1, fun x hx => (List.mem_append.1 hx).elim (fun h => Hl.out x h) (fun h => by obtain rfl : x = z := (by simpa using h); exact Hz.out), HY.out.2.2.1, HY.out.2.2.2⟩
            case measure => simp [intOf]; omega
    · obtain rfl : j = 0 := by omega
      have hb7 := (hf.heap q7 (fun e => by unfold TM at e; omega))
      have Hfw : Hid (Fr (TB tb (w.heap.size + 1)) w wr) := (Hf7.out.mono (T := TB tb (w.heap.size + 1)) (fun b _ h => .inl h)).step hf (fun b hb h => by unfold TM at h; unfold TB; omega)
      clear hf qm7 q7
      go_wp2_with fail
      refine (tape_next B tb kk 14 _ htr (by omega) (by omega) (by omega)).mono ?_
      rintro e w8 ⟨r8, rfl, hr81, hr82, ht8, hf8⟩
      have qb := hf8.heap hbox (fun e => by unfold Is at e; omega)
      have q8 := hf8.heap hb7 (fun e => by unfold Is at e; omega)
      have hown8 := ownsRow_at hown hf8 (fun b h e => by have h1 := ownsRow_blk hown h; unfold From at h1; unfold Is at e; omega)
      have Hf8 := Lib.hid (Hfw.out.step hf8 (fun b hb h => .inl h))
      have hs8 := hf8.size
      obtain ⟨a', c', hv, hS8, hF8⟩ := Strs.of_own hown8
      have hB8 := own_typ hown8
      cases hv
      have HS8 := Lib.hid (And.intro hS8 (And.intro hB8 hF8))
      clear hbox hb7 hown hf8 htr Hfw hS8 hB8 hF8 hown8
      rcases hr0 : (r8 == 0) with _ | _
      · rcases hr1' : (r8 == 1) with _ | _
        · rcases hr2' : (r8 == 2) with _ | _
          · have HfW : Hid (Fr (fun b => b = tb ∨ b = mb) w8 w8) := Fr.refl _ _
            have HtW := Lib.hid ht8
            clear ht8
            have u0 : w8.cell? ⟨mb, 0, none⟩ = some (.string p) := cell_of_block qb 0
            have u1 : w8.cell? ⟨mb, 1, none⟩ = some (.string y) := cell_of_block qb 1
            have u2 : w8.cell? ⟨mb, 2, none⟩ = some (.int .i64 rd) := cell_of_block qb 2
            have u3 : w8.cell? ⟨mb, 3, none⟩ = some (.int .i64 s) := cell_of_block qb 3
            have u4 : w8.cell? ⟨mb, 4, none⟩ = some (.int .i64 (t : Int)) := cell_of_block qb 4
            have u5 : w8.cell? ⟨mb, 5, none⟩ = some (.int .i64 (t : Int)) := cell_of_block qb 5
            have u6 : w8.cell? ⟨mb, 6, none⟩ = some (.slice av l.length cv) := cell_of_block qb 6
            have b0 : w8.cell? ⟨w.heap.size, 0, none⟩ = some (.string ⟨#[]⟩) := cell_of_block q8 0
            have b1 : w8.cell? ⟨w.heap.size, 1, none⟩ = some (.string ⟨#[]⟩) := cell_of_block q8 1
            have b2 : w8.cell? ⟨w.heap.size, 2, none⟩ = some (.int .i64 0) := cell_of_block q8 2
            have b3 : w8.cell? ⟨w.heap.size, 3, none⟩ = some (.int .i64 0) := cell_of_block q8 3
            have b4 : w8.cell? ⟨w.heap.size, 4, none⟩ = some (.int .i64 0) := cell_of_block q8 4
            have b5 : w8.cell? ⟨w.heap.size, 5, none⟩ = some (.int .i64 0) := cell_of_block q8 5
            have b6 : w8.cell? ⟨w.heap.size, 6, none⟩ = some (.slice none 0 0) := cell_of_block q8 6
            have f0 : w8.frozen? ⟨w.heap.size, 0, none⟩ = false := free_of_block q8 0
            have f1 : w8.frozen? ⟨w.heap.size, 1, none⟩ = false := free_of_block q8 1
            have f2 : w8.frozen? ⟨w.heap.size, 2, none⟩ = false := free_of_block q8 2
            have f3 : w8.frozen? ⟨w.heap.size, 3, none⟩ = false := free_of_block q8 3
            have f4 : w8.frozen? ⟨w.heap.size, 4, none⟩ = false := free_of_block q8 4
            have f5 : w8.frozen? ⟨w.heap.size, 5, none⟩ = false := free_of_block q8 5
            have f6 : w8.frozen? ⟨w.heap.size, 6, none⟩ = false := free_of_block q8 6
            have h7 := set7 q8 rfl (.string p) (.string y) (.int .i64 rd) (.int .i64 s) (.int .i64 (t : Int)) (.int .i64 (t : Int)) (.slice av l.length cv)
            have hE : Fr (fun b => b = tb ∨ b = mb ∨ b = w.heap.size) w8 _ := (HfW.out.mono (T := fun b => b = tb ∨ b = mb ∨ b = w.heap.size) (fun b _ h => h.elim .inl (fun h => .inr (.inl h)))).step h7.2 (fun b _ h => .inr (.inr h))
            have HR := Lib.hid (And.intro (HS8.out.1.fr hE (fun ad e _ h => by have := HS8.out.2.2 ad e; omega)) (And.intro (HS8.out.2.1.fr hE (fun ad e h => by have := HS8.out.2.2 ad e; omega)) (And.intro (HtW.out.fr h7.2 (fun b hb e => by unfold Is at e; omega) (fun e => by unfold Is at e; omega)) (((Hf8.out.step hE (fun b hb h => by unfold TB; omega)).mono (T := Is tb) (fun b hb h => by unfold TB at h; unfold Is; omega))))))
            have Hq := Lib.hid h7.1
            clear h7 hE qb q8
            go_wp2_with fail
            have y0 := cell_of_block Hq.out 0
            have y1 := cell_of_block Hq.out 1
            have y2 := cell_of_block Hq.out 2
            have y3 := cell_of_block Hq.out 3
            have y4 := cell_of_block Hq.out 4
            have y5 := cell_of_block Hq.out 5
            have y6 := cell_of_block Hq.out 6
            refine bodyPost_ret (v := .agg #[.string p, .string y, .int .i64 rd, .int .i64 s, .int .i64 (t : Int), .int .i64 (t : Int), .slice av l.length cv]) (by simp [results, Tryz.results67, go_sem, y0, y1, y2, y3, y4, y5, y6]) rfl ?_
            exact ⟨⟨⟨p, y, rd, s, (t : Int), (t : Int), av, l, cv⟩, kk + 1, rfl, ⟨HR.out.1, HR.out.2.1⟩, fun ad e => by have := HS8.out.2.2 ad e; omega, ⟨hp, Hy.out, by constructor <;> (try dsimp only) <;> omega, by constructor <;> (try dsimp only) <;> omega, hll, Hl.out⟩, by omega, HR.out.2.2.1⟩, HR.out.2.2.2⟩
          · have hS9 := Strs.of_block (l := layPaths) (block_alloc w8 (.cells (layPaths.map Value.string).toArray 9)) (by unfold maxLen layPaths; simp)
            have hx9 : Fr No w8 (w8.alloc (.cells (layPaths.map Value.string).toArray 9)) := (Fr.refl _ _).alloc _
            have hone := tape_one B tb (kk + 1) (some ⟨w8.heap.size, 0, none⟩) 4 layPaths _ (ht8.fr hx9 (fun _ _ => id) id) (by omega) hS9 (by decide) (by decide) (fun ad e => by cases e; show w8.heap.size ≠ tb; omega)
            have qx := hx9.heap qb id
            have qx2 := hx9.heap q8 id
            clear hS9 ht8 qb q8
            go_wp2_with fail
            refine hone.mono ?_
            rintro e wa ⟨⟨sp, rfl, hsp⟩, hta, hfa⟩
            have hss := layPaths_size sp hsp
            have q4 := hfa.heap qx (fun e => by unfold Is at e; omega)
            have q4' := hfa.heap qx2 (fun e => by unfold Is at e; omega)
            have q5 := block_setCell q4 0 (.string sp)
            have z0 : wa.frozen? ⟨mb, 0, none⟩ = false := free_of_block q4 0
            have z1 : wa.cell? ⟨mb, 0, none⟩ = some (.string p) := cell_of_block q4 0
            have hfs : Fr (Is mb) wa (wa.setCell ⟨mb, 0, none⟩ (.string sp)) := Fr.setCell (S := Is mb) (p := ⟨mb, 0, none⟩) (Fr.refl _ _) (fun _ => rfl) _
            have q5' := hfs.heap q4' (fun e => by unfold Is at e; omega)
            have HtW := Lib.hid (hta.fr hfs (fun b hb e => by unfold Is at e; omega) (fun e => by unfold Is at e; omega))
            have HfW : Hid (Fr (fun b => b = tb ∨ b = mb) w8 (wa.setCell ⟨mb, 0, none⟩ (.string sp))) := (((hx9.mono (T := fun b => b = tb ∨ b = mb) (fun _ _ h => h.elim)).step hfa (fun b _ h => .inl h)).step hfs (fun b _ h => .inr h))
            clear hone qx qx2 q4 q4' hsp hfa hfs hta hx9
            go_upto_region 14 with (fail)
            generalize wa.setCell ⟨mb, 0, none⟩ (.string sp) = Wb at *
            simp at q5
            clear z0 z1
            have u0 : Wb.cell? ⟨mb, 0, none⟩ = some (.string sp) := cell_of_block q5 0
            have u1 : Wb.cell? ⟨mb, 1, none⟩ = some (.string y) := cell_of_block q5 1
            have u2 : Wb.cell? ⟨mb, 2, none⟩ = some (.int .i64 rd) := cell_of_block q5 2
            have u3 : Wb.cell? ⟨mb, 3, none⟩ = some (.int .i64 s) := cell_of_block q5 3
            have u4 : Wb.cell? ⟨mb, 4, none⟩ = some (.int .i64 (t : Int)) := cell_of_block q5 4
            have u5 : Wb.cell? ⟨mb, 5, none⟩ = some (.int .i64 (t : Int)) := cell_of_block q5 5
            have u6 : Wb.cell? ⟨mb, 6, none⟩ = some (.slice av l.length cv) := cell_of_block q5 6
            have b0 : Wb.cell? ⟨w.heap.size, 0, none⟩ = some (.string ⟨#[]⟩) := cell_of_block q5' 0
            have b1 : Wb.cell? ⟨w.heap.size, 1, none⟩ = some (.string ⟨#[]⟩) := cell_of_block q5' 1
            have b2 : Wb.cell? ⟨w.heap.size, 2, none⟩ = some (.int .i64 0) := cell_of_block q5' 2
            have b3 : Wb.cell? ⟨w.heap.size, 3, none⟩ = some (.int .i64 0) := cell_of_block q5' 3
            have b4 : Wb.cell? ⟨w.heap.size, 4, none⟩ = some (.int .i64 0) := cell_of_block q5' 4
            have b5 : Wb.cell? ⟨w.heap.size, 5, none⟩ = some (.int .i64 0) := cell_of_block q5' 5
            have b6 : Wb.cell? ⟨w.heap.size, 6, none⟩ = some (.slice none 0 0) := cell_of_block q5' 6
            have f0 : Wb.frozen? ⟨w.heap.size, 0, none⟩ = false := free_of_block q5' 0
            have f1 : Wb.frozen? ⟨w.heap.size, 1, none⟩ = false := free_of_block q5' 1
            have f2 : Wb.frozen? ⟨w.heap.size, 2, none⟩ = false := free_of_block q5' 2
            have f3 : Wb.frozen? ⟨w.heap.size, 3, none⟩ = false := free_of_block q5' 3
            have f4 : Wb.frozen? ⟨w.heap.size, 4, none⟩ = false := free_of_block q5' 4
            have f5 : Wb.frozen? ⟨w.heap.size, 5, none⟩ = false := free_of_block q5' 5
            have f6 : Wb.frozen? ⟨w.heap.size, 6, none⟩ = false := free_of_block q5' 6
            have h7 := set7 q5' rfl (.string sp) (.string y) (.int .i64 rd) (.int .i64 s) (.int .i64 (t : Int)) (.int .i64 (t : Int)) (.slice av l.length cv)
            have hE : Fr (fun b => b = tb ∨ b = mb ∨ b = w.heap.size) w8 _ := (HfW.out.mono (T := fun b => b = tb ∨ b = mb ∨ b = w.heap.size) (fun b _ h => h.elim .inl (fun h => .inr (.inl h)))).step h7.2 (fun b _ h => .inr (.inr h))
            have HR := Lib.hid (And.intro (HS8.out.1.fr hE (fun ad e _ h => by have := HS8.out.2.2 ad e; omega)) (And.intro (HS8.out.2.1.fr hE (fun ad e h => by have := HS8.out.2.2 ad e; omega)) (And.intro (HtW.out.fr h7.2 (fun b hb e => by unfold Is at e; omega) (fun e => by unfold Is at e; omega)) (((Hf8.out.step hE (fun b hb h => by unfold TB; omega)).mono (T := Is tb) (fun b hb h => by unfold TB at h; unfold Is; omega))))))
            have Hq := Lib.hid h7.1
            clear h7 hE q5 q5'
            go_wp2_with fail
            have y0 := cell_of_block Hq.out 0
            have y1 := cell_of_block Hq.out 1
            have y2 := cell_of_block Hq.out 2
            have y3 := cell_of_block Hq.out 3
            have y4 := cell_of_block Hq.out 4
            have y5 := cell_of_block Hq.out 5
            have y6 := cell_of_block Hq.out 6
            refine bodyPost_ret (v := .agg #[.string sp, .string y, .int .i64 rd, .int .i64 s, .int .i64 (t : Int), .int .i64 (t : Int), .slice av l.length cv]) (by simp [results, Tryz.results67, go_sem, y0, y1, y2, y3, y4, y5, y6]) rfl ?_
            exact ⟨⟨⟨sp, y, rd, s, (t : Int), (t : Int), av, l, cv⟩, kk + 1 + 1, rfl, ⟨HR.out.1, HR.out.2.1⟩, fun ad e => by have := HS8.out.2.2 ad e; omega, ⟨by show sp.size ≤ 100; omega, Hy.out, by constructor <;> (try dsimp only) <;> omega, by constructor <;> (try dsimp only) <;> omega, hll, Hl.out⟩, by omega, HR.out.2.2.1⟩, HR.out.2.2.2⟩
        · have hn9 := tape_next B tb (kk + 1) 20 w8 ht8 (by omega) (by omega) (by omega)
          clear ht8
          go_wp2_with fail
          refine hn9.mono ?_
          rintro e wa ⟨r9, rfl, hr91, hr92, hta, hfa⟩
          have q4 := hfa.heap qb (fun e => by unfold Is at e; omega)
          have q4' := hfa.heap q8 (fun e => by unfold Is at e; omega)
          have q5 := block_setCell q4 4 (.int .i64 (r9 - 1))
          have z0 : wa.frozen? ⟨mb, 4, none⟩ = false := free_of_block q4 4
          have z1 : wa.cell? ⟨mb, 4, none⟩ = some (.int .i64 (t : Int)) := cell_of_block q4 4
          have hfs : Fr (Is mb) wa (wa.setCell ⟨mb, 4, none⟩ (.int .i64 (r9 - 1))) := Fr.setCell (S := Is mb) (p := ⟨mb, 4, none⟩) (Fr.refl _ _) (fun _ => rfl) _
          have q5' := hfs.heap q4' (fun e => by unfold Is at e; omega)
          have HtW := Lib.hid (hta.fr hfs (fun b hb e => by unfold Is at e; omega) (fun e => by unfold Is at e; omega))
          have HfW : Hid (Fr (fun b => b = tb ∨ b = mb) w8 (wa.setCell ⟨mb, 4, none⟩ (.int .i64 (r9 - 1)))) := ((hfa.mono (T := fun b => b = tb ∨ b = mb) (fun b _ h => .inl h)).step hfs (fun b _ h => .inr h))
          clear hn9 q4 q4' qb q8 hfa hfs hta
          go_upto_region 14 with (fail)
          generalize wa.setCell ⟨mb, 4, none⟩ (.int .i64 (r9 - 1)) = Wb at *
          simp at q5
          clear z0 z1
          have u0 : Wb.cell? ⟨mb, 0, none⟩ = some (.string p) := cell_of_block q5 0
          have u1 : Wb.cell? ⟨mb, 1, none⟩ = some (.string y) := cell_of_block q5 1
          have u2 : Wb.cell? ⟨mb, 2, none⟩ = some (.int .i64 rd) := cell_of_block q5 2
          have u3 : Wb.cell? ⟨mb, 3, none⟩ = some (.int .i64 s) := cell_of_block q5 3
          have u4 : Wb.cell? ⟨mb, 4, none⟩ = some (.int .i64 (r9 - 1)) := cell_of_block q5 4
          have u5 : Wb.cell? ⟨mb, 5, none⟩ = some (.int .i64 (t : Int)) := cell_of_block q5 5
          have u6 : Wb.cell? ⟨mb, 6, none⟩ = some (.slice av l.length cv) := cell_of_block q5 6
          have b0 : Wb.cell? ⟨w.heap.size, 0, none⟩ = some (.string ⟨#[]⟩) := cell_of_block q5' 0
          have b1 : Wb.cell? ⟨w.heap.size, 1, none⟩ = some (.string ⟨#[]⟩) := cell_of_block q5' 1
          have b2 : Wb.cell? ⟨w.heap.size, 2, none⟩ = some (.int .i64 0) := cell_of_block q5' 2
          have b3 : Wb.cell? ⟨w.heap.size, 3, none⟩ = some (.int .i64 0) := cell_of_block q5' 3
          have b4 : Wb.cell? ⟨w.heap.size, 4, none⟩ = some (.int .i64 0) := cell_of_block q5' 4
          have b5 : Wb.cell? ⟨w.heap.size, 5, none⟩ = some (.int .i64 0) := cell_of_block q5' 5
          have b6 : Wb.cell? ⟨w.heap.size, 6, none⟩ = some (.slice none 0 0) := cell_of_block q5' 6
          have f0 : Wb.frozen? ⟨w.heap.size, 0, none⟩ = false := free_of_block q5' 0
          have f1 : Wb.frozen? ⟨w.heap.size, 1, none⟩ = false := free_of_block q5' 1
          have f2 : Wb.frozen? ⟨w.heap.size, 2, none⟩ = false := free_of_block q5' 2
          have f3 : Wb.frozen? ⟨w.heap.size, 3, none⟩ = false := free_of_block q5' 3
          have f4 : Wb.frozen? ⟨w.heap.size, 4, none⟩ = false := free_of_block q5' 4
          have f5 : Wb.frozen? ⟨w.heap.size, 5, none⟩ = false := free_of_block q5' 5
          have f6 : Wb.frozen? ⟨w.heap.size, 6, none⟩ = false := free_of_block q5' 6
          have h7 := set7 q5' rfl (.string p) (.string y) (.int .i64 rd) (.int .i64 s) (.int .i64 (r9 - 1)) (.int .i64 (t : Int)) (.slice av l.length cv)
          have hE : Fr (fun b => b = tb ∨ b = mb ∨ b = w.heap.size) w8 _ := (HfW.out.mono (T := fun b => b = tb ∨ b = mb ∨ b = w.heap.size) (fun b _ h => h.elim .inl (fun h => .inr (.inl h)))).step h7.2 (fun b _ h => .inr (.inr h))
          have HR := Lib.hid (And.intro (HS8.out.1.fr hE (fun ad e _ h => by have := HS8.out.2.2 ad e; omega)) (And.intro (HS8.out.2.1.fr hE (fun ad e h => by have := HS8.out.2.2 ad e; omega)) (And.intro (HtW.out.fr h7.2 (fun b hb e => by unfold Is at e; omega) (fun e => by unfold Is at e; omega)) (((Hf8.out.step hE (fun b hb h => by unfold TB; omega)).mono (T := Is tb) (fun b hb h => by unfold TB at h; unfold Is; omega))))))
          have Hq := Lib.hid h7.1
          clear h7 hE q5 q5'
          go_wp2_with fail
          have y0 := cell_of_block Hq.out 0
          have y1 := cell_of_block Hq.out 1
          have y2 := cell_of_block Hq.out 2
          have y3 := cell_of_block Hq.out 3
          have y4 := cell_of_block Hq.out 4
          have y5 := cell_of_block Hq.out 5
          have y6 := cell_of_block Hq.out 6
          refine bodyPost_ret (v := .agg #[.string p, .string y, .int .i64 rd, .int .i64 s, .int .i64 (r9 - 1), .int .i64 (t : Int), .slice av l.length cv]) (by simp [results, Tryz.results67, go_sem, y0, y1, y2, y3, y4, y5, y6]) rfl ?_
          exact ⟨⟨⟨p, y, rd, s, (r9 - 1), (t : Int), av, l, cv⟩, kk + 1 + 1, rfl, ⟨HR.out.1, HR.out.2.1⟩, fun ad e => by have := HS8.out.2.2 ad e; omega, ⟨hp, Hy.out, by constructor <;> (try dsimp only) <;> omega, by constructor <;> (try dsimp only) <;> omega, hll, Hl.out⟩, by omega, HR.out.2.2.1⟩, HR.out.2.2.2⟩
      · have hn9 := tape_next B tb (kk + 1) 20 w8 ht8 (by omega) (by omega) (by omega)
        clear ht8
        go_wp2_with fail
        refine hn9.mono ?_
        rintro e wa ⟨r9, rfl, hr91, hr92, hta, hfa⟩
        have q4 := hfa.heap qb (fun e => by unfold Is at e; omega)
        have q4' := hfa.heap q8 (fun e => by unfold Is at e; omega)
        have q5 := block_setCell q4 3 (.int .i64 (r9 - 1))
        have z0 : wa.frozen? ⟨mb, 3, none⟩ = false := free_of_block q4 3
        have z1 : wa.cell? ⟨mb, 3, none⟩ = some (.int .i64 s) := cell_of_block q4 3
        have hfs : Fr (Is mb) wa (wa.setCell ⟨mb, 3, none⟩ (.int .i64 (r9 - 1))) := Fr.setCell (S := Is mb) (p := ⟨mb, 3, none⟩) (Fr.refl _ _) (fun _ => rfl) _
        have q5' := hfs.heap q4' (fun e => by unfold Is at e; omega)
        have HtW := Lib.hid (hta.fr hfs (fun b hb e => by unfold Is at e; omega) (fun e => by unfold Is at e; omega))
        have HfW : Hid (Fr (fun b => b = tb ∨ b = mb) w8 (wa.setCell ⟨mb, 3, none⟩ (.int .i64 (r9 - 1)))) := ((hfa.mono (T := fun b => b = tb ∨ b = mb) (fun b _ h => .inl h)).step hfs (fun b _ h => .inr h))
        clear hn9 q4 q4' qb q8 hfa hfs hta
        go_upto_region 14 with (fail)
        generalize wa.setCell ⟨mb, 3, none⟩ (.int .i64 (r9 - 1)) = Wb at *
        simp at q5
        clear z0 z1
        have u0 : Wb.cell? ⟨mb, 0, none⟩ = some (.string p) := cell_of_block q5 0
        have u1 : Wb.cell? ⟨mb, 1, none⟩ = some (.string y) := cell_of_block q5 1
        have u2 : Wb.cell? ⟨mb, 2, none⟩ = some (.int .i64 rd) := cell_of_block q5 2
        have u3 : Wb.cell? ⟨mb, 3, none⟩ = some (.int .i64 (r9 - 1)) := cell_of_block q5 3
        have u4 : Wb.cell? ⟨mb, 4, none⟩ = some (.int .i64 (t : Int)) := cell_of_block q5 4
        have u5 : Wb.cell? ⟨mb, 5, none⟩ = some (.int .i64 (t : Int)) := cell_of_block q5 5
        have u6 : Wb.cell? ⟨mb, 6, none⟩ = some (.slice av l.length cv) := cell_of_block q5 6
        have b0 : Wb.cell? ⟨w.heap.size, 0, none⟩ = some (.string ⟨#[]⟩) := cell_of_block q5' 0
        have b1 : Wb.cell? ⟨w.heap.size, 1, none⟩ = some (.string ⟨#[]⟩) := cell_of_block q5' 1
        have b2 : Wb.cell? ⟨w.heap.size, 2, none⟩ = some (.int .i64 0) := cell_of_block q5' 2
        have b3 : Wb.cell? ⟨w.heap.size, 3, none⟩ = some (.int .i64 0) := cell_of_block q5' 3
        have b4 : Wb.cell? ⟨w.heap.size, 4, none⟩ = some (.int .i64 0) := cell_of_block q5' 4
        have b5 : Wb.cell? ⟨w.heap.size, 5, none⟩ = some (.int .i64 0) := cell_of_block q5' 5
        have b6 : Wb.cell? ⟨w.heap.size, 6, none⟩ = some (.slice none 0 0) := cell_of_block q5' 6
        have f0 : Wb.frozen? ⟨w.heap.size, 0, none⟩ = false := free_of_block q5' 0
        have f1 : Wb.frozen? ⟨w.heap.size, 1, none⟩ = false := free_of_block q5' 1
        have f2 : Wb.frozen? ⟨w.heap.size, 2, none⟩ = false := free_of_block q5' 2
        have f3 : Wb.frozen? ⟨w.heap.size, 3, none⟩ = false := free_of_block q5' 3
        have f4 : Wb.frozen? ⟨w.heap.size, 4, none⟩ = false := free_of_block q5' 4
        have f5 : Wb.frozen? ⟨w.heap.size, 5, none⟩ = false := free_of_block q5' 5
        have f6 : Wb.frozen? ⟨w.heap.size, 6, none⟩ = false := free_of_block q5' 6
        have h7 := set7 q5' rfl (.string p) (.string y) (.int .i64 rd) (.int .i64 (r9 - 1)) (.int .i64 (t : Int)) (.int .i64 (t : Int)) (.slice av l.length cv)
        have hE : Fr (fun b => b = tb ∨ b = mb ∨ b = w.heap.size) w8 _ := (HfW.out.mono (T := fun b => b = tb ∨ b = mb ∨ b = w.heap.size) (fun b _ h => h.elim .inl (fun h => .inr (.inl h)))).step h7.2 (fun b _ h => .inr (.inr h))
        have HR := Lib.hid (And.intro (HS8.out.1.fr hE (fun ad e _ h => by have := HS8.out.2.2 ad e; omega)) (And.intro (HS8.out.2.1.fr hE (fun ad e h => by have := HS8.out.2.2 ad e; omega)) (And.intro (HtW.out.fr h7.2 (fun b hb e => by unfold Is at e; omega) (fun e => by unfold Is at e; omega)) (((Hf8.out.step hE (fun b hb h => by unfold TB; omega)).mono (T := Is tb) (fun b hb h => by unfold TB at h; unfold Is; omega))))))
        have Hq := Lib.hid h7.1
        clear h7 hE q5 q5'
        go_wp2_with fail
        have y0 := cell_of_block Hq.out 0
        have y1 := cell_of_block Hq.out 1
        have y2 := cell_of_block Hq.out 2
        have y3 := cell_of_block Hq.out 3
        have y4 := cell_of_block Hq.out 4
        have y5 := cell_of_block Hq.out 5
        have y6 := cell_of_block Hq.out 6
        refine bodyPost_ret (v := .agg #[.string p, .string y, .int .i64 rd, .int .i64 (r9 - 1), .int .i64 (t : Int), .int .i64 (t : Int), .slice av l.length cv]) (by simp [results, Tryz.results67, go_sem, y0, y1, y2, y3, y4, y5, y6]) rfl ?_
        exact ⟨⟨⟨p, y, rd, (r9 - 1), (t : Int), (t : Int), av, l, cv⟩, kk + 1 + 1, rfl, ⟨HR.out.1, HR.out.2.1⟩, fun ad e => by have := HS8.out.2.2 ad e; omega, ⟨hp, Hy.out, by constructor <;> (try dsimp only) <;> omega, by constructor <;> (try dsimp only) <;> omega, hll, Hl.out⟩, by omega, HR.out.2.2.1⟩, HR.out.2.2.2⟩
end Go.Proofs.YtmieegcgeolckaaGreatDoor
namespace Go.Proofs.YtmieegcgeolckaaGreatDoor
open Go.RowKit Go.Maps
set_option linter.unusedVariables false

/-- What pvs answers. -/
def PvsRes (w : World) (B tb k n : Nat) (e : Ending) (w' : World) : Prop :=
  ∃ (L : List Mem) (a' : Option Addr) (c' k' : Nat), e = .returned (.slice a' L.length c') ∧ Mems w' a' c' L ∧ (∀ ad, a' = some ad → w.heap.size ≤ ad.block) ∧ MFresh w' w.heap.size L ∧ (∀ m ∈ L, PvOk m) ∧ L.length ≤ n ∧ k' ≤ k + 200 ∧ Tape w' B tb k' ∧ w'.ownsRow w.heap.size 31 7 (.slice a' L.length c') L.length (mflat L)

set_option maxRecDepth 100000 in
set_option maxHeartbeats 8000000 in
theorem made_pvs (B tb k n : Nat) (w : World) (ht : Tape w B tb k) (hk : k ≤ 50000) (hn : n ≤ 8) :
    Calls Tryz.prog 41 #[.pointer (some ⟨tb, 0, none⟩), .int .i64 (n : Int)] w fun e w' => PvsRes w B tb k n e w' ∧ Fr (Is tb) w w' := by
  obtain ⟨i0, hi0, hz0, hz1, hz2⟩ := info_parts infoM
  have htl := ht.lt
  have hBt := ht.le
  have hn1 := tape_next B tb k ((n : Int) + 1) w ht (by omega) (by omega) (by omega)
  go_enter Tryz.func41, Tryz.ntmps41
  go_wp2_with fail
  refine hn1.mono ?_
  rintro e w1 ⟨r, rfl, hr1, hr2, ht1, hf1⟩
  obtain ⟨r, rfl⟩ := Int.eq_ofNat_of_zero_le hr1
  have hf1' : Fr (TB tb w.heap.size) w w1 := hf1.mono (fun b _ h => .inl h)
  have hrn : r ≤ n := by omega
  clear hn1 hr1 hr2 hf1
  go_wp2_with fail
  go_loopw [5, 6] (fun v i wr => ∃ (L : List Mem) (av : Option Addr) (cv j kk : Nat), v = .slice av L.length cv ∧ i = .int .i64 (j : Int) ∧ L.length + j ≤ n ∧ kk + 20 * j ≤ k + 170 ∧ wr.ownsRow w.heap.size 31 7 (.slice av L.length cv) L.length (mflat L) ∧ MFresh wr w.heap.size L ∧ Hid (∀ m ∈ L, PvOk m) ∧ Tape wr B tb kk ∧ Fr (TB tb w.heap.size) w wr) (fun _ i _ => (intOf i).toNat)
  case atStart => exact ⟨[], none, 0, r, k + 1, rfl, rfl, by simp; omega, by omega, World.ownsRow_nil _ _ _ _, fun m hm => by simp at hm, fun m hm => by simp at hm, ht1, hf1'⟩
  case round =>
    obtain ⟨L, av, cv, j, kk, rfl, rfl, hLj, hkk, hown, hMF, Hsm, htr, hf⟩ := hrel
    by_cases hlt : 0 < j
    · have hlt' : (0 : Int) < j := by omega
      have hLl : L.length ≤ 8 := by omega
      have hj8 : j ≤ 8 := by omega
      have hpv := made_pv B tb kk wr htr (by omega)
      have hsr := hf.size
      clear htr
      go_wp2_with fail
      refine hpv.mono ?_
      rintro e w2 ⟨⟨m, k2, rfl, ⟨hS, hB⟩, hF, hok, hk2, ht2⟩, hf2⟩
      have hown2 := ownsRow_at hown hf2 (fun b h e => by have h1 := ownsRow_blk hown h; unfold From at h1; unfold Is at e; omega)
      have hMF2 := hMF.fr hf2 (fun b h1 h2 e => by unfold Is at e; omega)
      have hff2 : Fr (TB tb w.heap.size) w w2 := hf.step hf2 (fun b _ h => .inl h)
      have hs2 := hf2.size
      obtain ⟨mp, mi, mr, ms, mt, me, ma, ml, mc⟩ := m
      simp only at hS hB hF
      unfold Mem.vals
      have Hown := Lib.hid hown2
      have HR := Lib.hid (And.intro hMF2 (And.intro hff2 (And.intro hS (And.intro hB (And.intro hok ht2)))))
      have HF : Hid (∀ ad, ma = some ad → w.heap.size ≤ ad.block) := fun ad e => by have := hF ad e; omega
      have hsw : w.heap.size ≤ w2.heap.size := by omega
      clear hpv hf2 hown hMF hf hMF2 hff2 hS hB hF hok ht2
      go_wp2_with (at_builtin; refine wpList_append_own _ rfl _ _ 36 rfl w.heap.size 31 i0 (.agg #[.string ByteArray.empty, .string ByteArray.empty, .int .i64 0, .int .i64 0, .int .i64 0, .int .i64 0, .slice none 0 0]) 7 88 Tryz.underlying36 hi0 hz0 hz1 hz2 rfl (by decide) _ _ _ rfl (hown2.alloc _) ⟨w2.heap.size, 0, none⟩ 1 1 (Mem.vals ⟨mp, mi, mr, ms, mt, me, ma, ml, mc⟩).toList rfl rfl (cells_new _ (Mem.vals ⟨mp, mi, mr, ms, mt, me, ma, ml, mc⟩) _ rfl) (mvals_one _) (by unfold maxLen; omega) (by omega) (by first | omega | (simp; done) | (simp; omega)) ?_; intro v' w9 hown9 hgrow9 _; obtain ⟨av', cv', rfl⟩ := ownsRow_slice hown9)
      have hal : Fr No w2 (w2.alloc (.cells #[.string mp, .string mi, .int .i64 mr, .int .i64 ms, .int .i64 mt, .int .i64 me, .slice ma ml.length mc] 31)) := (Fr.refl _ _).alloc _
      have howa := Hown.out.alloc (.cells #[.string mp, .string mi, .int .i64 mr, .int .i64 ms, .int .i64 mt, .int .i64 me, .slice ma ml.length mc] 31)
      have hgf : Fr (fun b => (Value.slice av L.length cv).ownBlock = some b) (w2.alloc (.cells #[.string mp, .string mi, .int .i64 mr, .int .i64 ms, .int .i64 mt, .int .i64 me, .slice ma ml.length mc] 31)) w9 := Fr.of_grown hgrow9
      obtain ⟨hMF2, hff2, hS, hB, hok, ht2⟩ := HR.out
      have hMF9 : MFresh w9 w.heap.size (L ++ [⟨mp, mi, mr, ms, mt, me, ma, ml, mc⟩]) := MFresh.own (MFresh.snoc (hMF2.fr hal (fun _ _ _ => id)) (hS.no hal (fun _ => id)) (hB.fr hal (fun _ _ => id)) HF.out) howa hgf
      have hsm9 : ∀ m ∈ L ++ [(⟨mp, mi, mr, ms, mt, me, ma, ml, mc⟩ : Mem)], PvOk m := fun m hm => by
        rcases List.mem_append.1 hm with h | h
        · exact Hsm.out m h
        · obtain rfl : m = ⟨mp, mi, mr, ms, mt, me, ma, ml, mc⟩ := by simpa using h
          exact hok
      have ht9 := (ht2.fr hal (fun _ _ => id) id).fr hgf (fun b hb h => by have h2 := ownsRow_blk howa h; unfold From at h2; omega) (fun h => by have h2 := ownsRow_blk howa h; unfold From at h2; omega)
      have hf9 : Fr (TB tb w.heap.size) w w9 := (hff2.step hal (fun _ _ h => h.elim)).step hgf (fun b _ h => .inr (ownsRow_blk howa h))
      have HF9 := Lib.hid (And.intro hown9 (And.intro hMF9 (And.intro hsm9 (And.intro ht9 hf9))))
      clear hown9 hMF9 hsm9 ht9 hf9 hgf howa hal hgrow9 hown2 hMF2 hff2 hS hB hok ht2
      go_roundw
      case rel => exact ⟨L ++ [⟨mp, mi, mr, ms, mt, me, ma, ml, mc⟩], av', cv', j - 1, k2, by simp, by go_num, by simp; omega, by omega, by rw [List.length_append, mflat_snoc]; exact HF9.out.1, HF9.out.2.1, Lib.hid HF9.out.2.2.1, HF9.out.2.2.2.1, HF9.out.2.2.2.2⟩
      case measure => simp [intOf]; omega
    · obtain rfl : j = 0 := by omega
      obtain ⟨a', c', hv, hR, hfresh⟩ := Mems.of_own hown (fun m hm => (hMF m hm).1)
      cases hv
      have H := Lib.hid (And.intro hR (And.intro hfresh (And.intro hMF (And.intro (And.intro htr hown) (hf.mono (T := Is tb) (fun b hb h => by unfold TB at h; unfold Is; omega))))))
      clear hown hMF htr hf hR hfresh
      go_wp2_with fail
      go_ret
      exact ⟨⟨L, _, _, kk, rfl, H.out.1, H.out.2.1, H.out.2.2.1, Hsm.out, by omega, by omega, H.out.2.2.2.1.1, H.out.2.2.2.1.2⟩, H.out.2.2.2.2⟩
end Go.Proofs.YtmieegcgeolckaaGreatDoor
namespace Go.Proofs.YtmieegcgeolckaaGreatDoor
open Go.RowKit
set_option linter.unusedVariables false

theorem first_some {b : ByteArray × Int → Option Mem} {id : ByteArray} {s : Int} (h : (b (id, s)).isSome = true) (h1 : 1 ≤ s ∧ s ≤ 16) : ∃ m, b (id, leastSlot b id) = some m ∧ firstOf b id = m := by
  have hf : ∃ k, (List.range 16).find? (fun (k : Nat) => (b (id, (k : Int) + 1)).isSome) = some k := by
    rcases hh : (List.range 16).find? (fun (k : Nat) => (b (id, (k : Int) + 1)).isSome) with _ | k
    · have := List.find?_eq_none.1 hh (s - 1).toNat (List.mem_range.2 (by omega))
      rw [show (((s - 1).toNat : Nat) : Int) + 1 = s by omega] at this
      exact absurd h this
    · exact ⟨k, rfl⟩
  obtain ⟨k, hk⟩ := hf
  have hs := List.find?_some hk
  have hl : leastSlot b id = (k : Int) + 1 := by unfold leastSlot; rw [hk]; rfl
  obtain ⟨m, hm⟩ := Option.isSome_iff_exists.1 hs
  refine ⟨m, by rw [hl]; exact hm, ?_⟩
  unfold firstOf
  rw [hl, hm]; rfl
theorem filter_split (p : Nat → Bool) (l : List Nat) : (l.filter p).length + (l.filter fun k => !p k).length = l.length := by
  induction l with
  | nil => rfl
  | cons x t ih => cases h : p x <;> simp [h] <;> omega
/-- The laws of an array that stems from sound members. -/
structure ArrOk (A : Arr) : Prop where
  t : 1 ≤ A.t ∧ A.t ≤ 16
  ps : (A.ps.length : Int) = A.t
  n : A.n + ((lacksF A.ps A.ps.length).length : Int) = A.t
  nr : 0 ≤ A.n
  i : A.i ∈ pvIds
  l : A.l.length ≤ 2
  psz : ∀ x ∈ A.ps, x.size ≤ 100
theorem arr_ok {L : List Mem} (hL : ∀ m ∈ L, PvOk m) {id : ByteArray} {s : Int} (h : (best2 soundB L (id, s)).isSome = true) : ArrOk (buildA (best2 soundB L) id) := by
  obtain ⟨b, hb⟩ : ∃ b, b = best2 soundB L := ⟨_, rfl⟩
  have hm : ∀ x s m, b (x, s) = some m → m ∈ L ∧ soundB m = true ∧ m.i = x ∧ m.s = s := fun x s m e => by
    rw [hb] at e
    obtain ⟨h1, h2, h3⟩ := best2_mem L (x, s) m e
    simp only [Prod.mk.injEq] at h3
    exact ⟨h1, h2, h3.1, h3.2⟩
  rw [← hb] at h ⊢
  obtain ⟨m0, hm0⟩ := Option.isSome_iff_exists.1 h
  have hs : ∀ x s m, b (x, s) = some m → m.p.toList.isEmpty = false ∧ (1 ≤ m.s ∧ m.s ≤ 16) ∧ (1 ≤ m.t ∧ m.t ≤ 16) := fun x s m e => by
    have h2 := (hm x s m e).2.1
    unfold soundB at h2
    simp only [Bool.and_eq_true, decide_eq_true_eq, Bool.not_eq_true'] at h2
    exact ⟨h2.1.1, h2.1.2, h2.2⟩
  have h16 : 1 ≤ s ∧ s ≤ 16 := by
    have h1 := (hs id s m0 hm0).2.1
    have h2 := (hm id s m0 hm0).2.2.2
    omega
  obtain ⟨m, hlm, hfm⟩ := first_some h h16
  obtain ⟨hmL, _, hmi, _⟩ := hm _ _ m hlm
  have hmt := (hs _ _ m hlm).2.2
  have hok := hL m hmL
  obtain ⟨T, hT⟩ : ∃ T : Nat, m.t = (T : Int) := ⟨m.t.toNat, by omega⟩
  have hTn : m.t.toNat = T := by omega
  have hlk : ∀ k, k < T → lackAt ((List.range T).map (pathAt b id)) k = !(b (id, (k : Int) + 1)).isSome := fun k hk => by
    unfold lackAt
    rw [List.getElem?_map, List.getElem?_range hk]
    simp only [Option.map_some]
    unfold pathAt
    rcases he : b (id, (k : Int) + 1) with _ | x
    · simp [ByteArray.toList_eq]
    · simp only [Option.isSome_some, Bool.not_true]
      exact (hs _ _ x he).1
  have hfl : (List.range T).filter (lackAt ((List.range T).map (pathAt b id))) = (List.range T).filter fun (k : Nat) => !(b (id, (k : Int) + 1)).isSome :=
    List.filter_congr (fun k hk => hlk k (List.mem_range.1 hk))
  unfold buildA
  rw [hfm, hT]
  refine ⟨by dsimp only; omega, by dsimp only; simp, ?_, by dsimp only; omega, by dsimp only; rw [← hmi]; exact hok.i, hok.n, ?_⟩
  · dsimp only
    have e1 : ((List.range ((T : Nat) : Int).toNat).map (pathAt b id)).length = T := by simp
    rw [e1]
    unfold lacksF
    rw [List.length_map, show ((T : Nat) : Int).toNat = T from by omega, hfl]
    have := filter_split (fun (k : Nat) => (b (id, (k : Int) + 1)).isSome) (List.range T)
    rw [List.length_range] at this
    omega
  · dsimp only
    intro x hx
    obtain ⟨k, _, rfl⟩ := List.mem_map.1 hx
    unfold pathAt
    rcases he : b (id, (k : Int) + 1) with _ | y
    · exact (by decide : (⟨#[]⟩ : ByteArray).size ≤ 100)
    · exact (hL y (hm _ _ y he).1).p
theorem lv_all : ∀ i ∈ pvIds, lvOk i 1 = true ∧ lvOk i 2 = true := by
  have h : ∀ i ∈ pvIds, ∀ s ∈ [(⟨#[49]⟩ : ByteArray), ⟨#[50]⟩], isName ((⟨#[108, 118, 45]⟩ : ByteArray) ++ i ++ (⟨#[45]⟩ : ByteArray) ++ s) = true := by
    intro i hi s hs
    simp only [pvIds, List.mem_cons, List.not_mem_nil, or_false] at hi hs
    rcases hi with rfl | rfl | rfl <;> rcases hs with rfl | rfl <;> · simp [isName, ByteArray.toList_eq, inSet, nameBA]; decide
  intro i hi
  refine ⟨?_, ?_⟩
  · unfold lvOk lvT; rw [v_it1, h i hi _ (by simp)]; decide
  · unfold lvOk lvT; rw [v_it2, h i hi _ (by simp)]; decide
theorem wantL_len {A : Arr} (h : ArrOk A) : (wantL A.i A.t A.n A.l 1).length = if A.n = A.t then A.l.length else 0 := by
  unfold wantL
  split
  · rename_i e
    have h2 := h.l
    obtain ⟨h3, h4⟩ := lv_all A.i h.i
    unfold wantF
    rw [List.length_map]
    rcases hl : A.l.length with _ | _ | _ | n
    · rfl
    · simp [List.range_succ_eq_map, h3]
    · simp [List.range_succ_eq_map, h3, h4]
    · omega
  · rfl
end Go.Proofs.YtmieegcgeolckaaGreatDoor
namespace Go.Proofs.YtmieegcgeolckaaGreatDoor
open Go.RowKit
set_option linter.unusedVariables false

section
variable {good : Mem → Bool}
theorem best2S_at {g g' : ByteArray × Int → Option Mem} {m : Mem} {x : ByteArray × Int} (h : g x = g' x) : best2S good g m x = best2S good g' m x := by unfold best2S; rw [h]
theorem best2S_other {g : ByteArray × Int → Option Mem} {m : Mem} {x : ByteArray × Int} (h : m.i ≠ x.1) : best2S good g m x = g x := by
  unfold best2S
  have : x ≠ (m.i, m.s) := fun e => h (by rw [e])
  simp [this]
theorem best2_left (L M : List Mem) (x : ByteArray × Int) : (∀ m ∈ M, m.i ≠ x.1) → best2 good (L ++ M) x = best2 good L x := by
  refine rev_ind (P := fun M => (∀ m ∈ M, m.i ≠ x.1) → best2 good (L ++ M) x = best2 good L x) ?_ ?_ M
  · intro _; rw [List.append_nil]
  · intro l y ih h
    rw [← List.append_assoc, best2_snoc, best2S_other (h y (by simp)), ih (fun m hm => h m (by simp [hm]))]
theorem best2_right (L M : List Mem) (x : ByteArray × Int) (hL : ∀ m ∈ L, m.i ≠ x.1) : best2 good (L ++ M) x = best2 good M x := by
  have h0 : best2 good L x = none := by
    rcases h : best2 good L x with _ | m
    · rfl
    · obtain ⟨h1, _, h3⟩ := best2_mem L x m h
      exact absurd (by rw [← h3]) (hL m h1)
  refine rev_ind (P := fun M => best2 good (L ++ M) x = best2 good M x) ?_ ?_ M
  · rw [List.append_nil, h0]; rfl
  · intro l y ih
    rw [← List.append_assoc, best2_snoc, best2_snoc]
    exact best2S_at ih
end
theorem buildA_congr {b b' : ByteArray × Int → Option Mem} {id : ByteArray} (h : ∀ s, b (id, s) = b' (id, s)) : buildA b id = buildA b' id := by
  have h1 : leastSlot b id = leastSlot b' id := by unfold leastSlot; simp only [h]
  have h2 : firstOf b id = firstOf b' id := by unfold firstOf; rw [h1, h]
  have h3 : pathAt b id = pathAt b' id := by funext k; unfold pathAt; rw [h]
  unfold buildA
  rw [h2, h3]
  simp only [h]
def zed (m : Mem) : Mem := { m with i := (⟨#[122]⟩ : ByteArray) ++ m.i }
def zIds : List ByteArray := pvIds.map fun i => (⟨#[122]⟩ : ByteArray) ++ i
theorem ids_apart : ∀ a ∈ pvIds, ∀ b ∈ zIds, (leS (kb a) (kb b) = true ∧ kb a ≠ kb b) := by decide
theorem ids_ne : ∀ a ∈ pvIds, ∀ b ∈ zIds, a ≠ b := by decide
/-- The groups of both lists are those of the first, then those of the second. -/
theorem apart_groups {A B : List Mem} (hA : ∀ m ∈ A, m.i ∈ pvIds) (hB : ∀ m ∈ B, m.i ∈ zIds) {ia ib ic : List ByteArray} (h1 : IsIds2 (best2 soundB A) ia) (h2 : IsIds2 (best2 soundB B) ib) (h3 : IsIds2 (best2 soundB (B ++ A)) ic) :
    ic.map (buildA (best2 soundB (B ++ A))) = ia.map (buildA (best2 soundB A)) ++ ib.map (buildA (best2 soundB B)) := by
  have hia : ∀ x ∈ ia, x ∈ pvIds := fun x hx => by
    obtain ⟨s, hs⟩ := (h1.mem x).1 hx
    obtain ⟨m, hm⟩ := Option.isSome_iff_exists.1 hs
    obtain ⟨h4, _, h5⟩ := best2_mem A (x, s) m hm
    simp only [Prod.mk.injEq] at h5
    rw [← h5.1]; exact hA m h4
  have hib : ∀ x ∈ ib, x ∈ zIds := fun x hx => by
    obtain ⟨s, hs⟩ := (h2.mem x).1 hx
    obtain ⟨m, hm⟩ := Option.isSome_iff_exists.1 hs
    obtain ⟨h4, _, h5⟩ := best2_mem B (x, s) m hm
    simp only [Prod.mk.injEq] at h5
    rw [← h5.1]; exact hB m h4
  have ea : ∀ x ∈ pvIds, ∀ s, best2 soundB (B ++ A) (x, s) = best2 soundB A (x, s) := fun x hx s => best2_right B A (x, s) (fun m hm e => ids_ne x hx m.i (hB m hm) e.symm)
  have eb : ∀ x ∈ zIds, ∀ s, best2 soundB (B ++ A) (x, s) = best2 soundB B (x, s) := fun x hx s => best2_left B A (x, s) (fun m hm e => ids_ne m.i (hA m hm) x hx e)
  have hic : ic = ia ++ ib := by
    refine h3.unique ⟨?_, fun x => ?_⟩
    · unfold AscS
      rw [List.map_append, List.pairwise_append]
      refine ⟨h1.asc, h2.asc, fun a ha b hb => ?_⟩
      obtain ⟨a', ha', rfl⟩ := List.mem_map.1 ha
      obtain ⟨b', hb', rfl⟩ := List.mem_map.1 hb
      exact ids_apart a' (hia a' ha') b' (hib b' hb')
    · rw [List.mem_append, h1.mem, h2.mem]
      constructor
      · rintro (⟨s, hs⟩ | ⟨s, hs⟩)
        · exact ⟨s, by rw [ea x (hia x ((h1.mem x).2 ⟨s, hs⟩)) s]; exact hs⟩
        · exact ⟨s, by rw [eb x (hib x ((h2.mem x).2 ⟨s, hs⟩)) s]; exact hs⟩
      · rintro ⟨s, hs⟩
        obtain ⟨m, hm⟩ := Option.isSome_iff_exists.1 hs
        obtain ⟨h4, _, h5⟩ := best2_mem (B ++ A) (x, s) m hm
        simp only [Prod.mk.injEq] at h5
        rcases List.mem_append.1 h4 with h | h
        · exact .inr ⟨s, by rw [← eb x (by rw [← h5.1]; exact hB m h) s]; exact hs⟩
        · exact .inl ⟨s, by rw [← ea x (by rw [← h5.1]; exact hA m h) s]; exact hs⟩
  rw [hic, List.map_append]
  congr 1
  · exact List.map_congr_left (fun x hx => buildA_congr (ea x (hia x hx)))
  · exact List.map_congr_left (fun x hx => buildA_congr (eb x (hib x hx)))
end Go.Proofs.YtmieegcgeolckaaGreatDoor
namespace Go.Proofs.YtmieegcgeolckaaGreatDoor
open Go.RowKit Go.Maps
set_option linter.unusedVariables false

theorem pv_small {L : List Mem} (h : ∀ m ∈ L, PvOk m) (hl : L.length ≤ 100) : MemSmall2 L := by
  refine ⟨by omega, fun m hm => by have := (h m hm).p; omega, fun m hm => by have := pvIds_size _ (h m hm).i; omega, fun m hm => by have := (h m hm).n; omega, fun m hm => WalkArith.wf_i64 (by have := (h m hm).s; omega)⟩
set_option maxRecDepth 100000 in
set_option maxHeartbeats 8000000 in
theorem all_walk (la : Option Addr) (lc : Nat) (l : List Int) (w : World) (hl : Ints w la lc l) (hE : Env w) :
    Calls Tryz.prog 12 #[.slice la l.length lc] w fun e w' => e = .returned (.bool true) ∧ Fr No w w' := by
  have hx : Fr No w (w.alloc (.cells #[.slice la l.length lc, .int .i64 0] 26)) := (Fr.refl _ _).alloc _
  have ht := Tape.make hl 26
  have hE0 := hE.no hx
  have hs0 : (w.alloc (.cells #[.slice la l.length lc, .int .i64 0] 26)).heap.size = w.heap.size + 1 := by simp
  have hsz := hE.sz
  obtain ⟨W0, hW0⟩ : ∃ W0, W0 = w.alloc (.cells #[.slice la l.length lc, .int .i64 0] 26) := ⟨_, rfl⟩
  rw [← hW0] at hx ht hE0 hs0
  have hs0' : w.heap.size + 1 ≤ W0.heap.size := by omega
  clear hs0
  have hpv := made_pvs w.heap.size w.heap.size 0 8 W0 ht (by omega) (by omega)
  have Hx := Lib.hid hx
  clear hx hE
  go_enter Tryz.func12, Tryz.ntmps12
  go_wp2_with fail
  rw [← hW0]
  clear hW0
  refine hpv.mono ?_
  rintro e w1 ⟨⟨L, a1, c1, k1, rfl, hL, hLf, hLm, hLo, hLl, hk1, ht1, _⟩, hf1⟩
  have hE1 := hE0.fr hf1 (fun b hb h => by unfold Is at h; omega)
  have hfw1 : Fr No w w1 := (Hx.out.mono (fun _ _ h => h)).trans hf1 (fun _ _ h => h) (fun b hb h => by unfold Is at h; omega)
  obtain ⟨m0, hm1⟩ := hE1.len
  have hs1 := hf1.size
  have hg := v_group a1 c1 L m0 w1 hL (pv_small hLo (by omega)) hm1 (by omega)
  have HLo := Lib.hid hLo
  clear hpv ht1 hf1 hE0 ht hLf hLm hL hm1 hLo
  go_wp2_with fail
  refine hg.mono ?_
  rintro e w2 ⟨⟨ga, gc, O, ids, rfl, hO, _, _, hids, hOe, hil, _⟩, hf2⟩
  have HO : Hid (∀ A ∈ O, ArrOk A.toArr) := fun A hA => by
    have h1 : A.toArr ∈ O.map ArrM.toArr := List.mem_map.2 ⟨A, hA, rfl⟩
    rw [hOe] at h1
    obtain ⟨id, hid, he⟩ := List.mem_map.1 h1
    obtain ⟨s, hs⟩ := (hids.mem id).1 hid
    rw [← he]
    exact arr_ok HLo.out hs
  have hOl : O.length ≤ 1000 := by
    have := congrArg List.length hOe
    simp only [List.length_map] at this
    omega
  have hE2 := hE1.no hf2
  have hfw2 := hfw1.step hf2 (fun _ _ h => h)
  have Hfw2 := Lib.hid hfw2
  have hm := hO.lenmax
  clear hg hids hOe hf2 hE1 hfw1 hfw2
  go_wp2_with fail
  go_loopw [4] (fun i wr => ∃ j : Nat, j ≤ O.length ∧ i = .int .i64 (j : Int) ∧ Fr No w2 wr) (fun i _ => O.length - (intOf i).toNat)
  case atStart => exact ⟨0, by omega, rfl, Fr.refl _ _⟩
  case round =>
    obtain ⟨j, hj, rfl, hf⟩ := hrel
    by_cases hlt : j < O.length
    · have hlt' : (j : Int) < O.length := by omega
      obtain ⟨b, off, A, rfl, hxj, ⟨hP, hI⟩, hat, _⟩ := (hO.no hf (fun _ => id)).elem hlt
      have hok := HO.out A (List.mem_of_getElem? hxj)
      obtain ⟨⟨ai, ps, at_, ae, an, al⟩, pa, pc, ia, ic⟩ := A
      obtain ⟨c0, c1, c2, c3, c4, c5⟩ := hat
      simp only at c0 c1 c2 c3 c4 c5 hP hI hok
      have hwl := wantL_len hok
      simp only at hwl
      obtain ⟨hot, hop, hon, honr, hoi, hol, hopz⟩ := hok
      simp only at hot hop hon honr hoi hol hopz
      have his := pvIds_size _ hoi
      subst hop
      have Hwl := Lib.hid hwl
      obtain ⟨nl, hnl⟩ : ∃ nl, nl = (lacksF ps ps.length).length := ⟨_, rfl⟩
      rw [← hnl] at hon
      have Hnl := Lib.hid hnl
      have Hf := Lib.hid hf
      clear hxj hwl hnl hoi hopz hf
      have hx3 : Fr No wr (wr.alloc (.cells #[.string ai, .slice pa ps.length pc, .int .i64 (ps.length : Int), .int .i64 ae, .int .i64 an, .slice ia al.length ic] 70)) := (Fr.refl _ _).alloc _
      have q3 := block_alloc wr (.cells #[.string ai, .slice pa ps.length pc, .int .i64 (ps.length : Int), .int .i64 ae, .int .i64 an, .slice ia al.length ic] 70)
      have hE3 := (hE2.no Hf.out).no hx3
      have hP3 := hP.no hx3 (fun _ => id)
      have hI3 := hI.no hx3 (fun _ => id)
      have Hf3 := Lib.hid (Hf.out.step hx3 (fun _ _ h => h))
      go_upto_region 6 with (fail)
      generalize wr.alloc (.cells #[.string ai, .slice pa ps.length pc, .int .i64 (ps.length : Int), .int .i64 ae, .int .i64 an, .slice ia al.length ic] 70) = W3 at *
      clear hx3 hP hI c0 c1 c2 c3 c4 c5
      have hpl : ps.length ≤ 1000000 := by omega
      refine region_sig No [(0, false), (2, false), (1, true), (3, true), (4, false), (5, false)] (by kernel_rfl) (by kernel_rfl) (fun w0 hf0 => ?_)
      have q0 := hf0.heap q3 id
      have d0 : ∀ g : Gr No w0, g.W.cell? ⟨wr.heap.size, 0, none⟩ = some (.string ai) := fun g => g.fr.cell (cell_of_block q0 0) id
      have d1 : ∀ g : Gr No w0, g.W.cell? ⟨wr.heap.size, 1, none⟩ = some (.slice pa ps.length pc) := fun g => g.fr.cell (cell_of_block q0 1) id
      have d2 : ∀ g : Gr No w0, g.W.cell? ⟨wr.heap.size, 2, none⟩ = some (.int .i64 (ps.length : Int)) := fun g => g.fr.cell (cell_of_block q0 2) id
      have d3 : ∀ g : Gr No w0, g.W.cell? ⟨wr.heap.size, 3, none⟩ = some (.int .i64 ae) := fun g => g.fr.cell (cell_of_block q0 3) id
      have d4 : ∀ g : Gr No w0, g.W.cell? ⟨wr.heap.size, 4, none⟩ = some (.int .i64 an) := fun g => g.fr.cell (cell_of_block q0 4) id
      have d5 : ∀ g : Gr No w0, g.W.cell? ⟨wr.heap.size, 5, none⟩ = some (.slice ia al.length ic) := fun g => g.fr.cell (cell_of_block q0 5) id
      have hwa := v_want ai (ps.length : Int) ae an 1 pa ps.length pc ia ic al w0 (hE3.no hf0) (by omega) (hI3.no hf0 (fun _ => id)) (by omega)
      have hP0 := hP3.no hf0 (fun _ => id)
      have Hf0 := Lib.hid (Hf3.out.step hf0 (fun _ _ h => h))
      clear q3 hf0 hE3 hI3 hP3
      repeat (apply sig_q; exact rfl; exact rfl; exact rfl; intro K hK; go_big_quiet_op; go_big_quiet_on)
      clear d0 d1 d2 d3 d4 d5
      apply sig_m
      exact rfl
      go_wp2_with fail
      refine hwa.mono ?_
      rintro e w5 ⟨⟨va, vc, V, rfl, hV, hVe⟩, hf5⟩
      have hVl : V.length = if an = (ps.length : Int) then al.length else 0 := by rw [hVe]; exact Hwl.out
      have HVl := Lib.hid hVl
      have hP5 := hP0.no hf5 (fun _ => id)
      have q5 := hf5.heap q0 id
      have Hf5 := Lib.hid (Hf0.out.step hf5 (fun _ _ h => h))
      have hla := v_lacks ai (ps.length : Int) ae an (.slice ia al.length ic) pa pc ps w5 hP5 hpl
      rw [← Hnl.out] at hla
      have hf5' := hf5
      clear hwa hV hVe hVl q0 hP0 hf5
      go_wp2_with fail
      refine OnlyN.mk ⟨hf5', ?_⟩
      clear hf5'
      apply sig_m
      exact rfl
      go_wp2_with fail
      refine hla.mono ?_
      rintro e w6 ⟨⟨ya, yc, rfl, hY⟩, hf6⟩
      have q6 := hf6.heap q5 id
      have Hf6 := Lib.hid (Hf5.out.step hf6 (fun _ _ h => h))
      have hf6' := hf6
      clear hla hY q5 hP5 hf6
      go_wp2_with fail
      refine OnlyN.mk ⟨hf6', ?_⟩
      clear hf6'
      repeat (apply sig_q; exact rfl; exact rfl; exact rfl; intro K hK; go_big_quiet_op; go_big_quiet_on)
      refine sig_end ?_
      have u1 : w6.cell? ⟨wr.heap.size, 1, none⟩ = some (.slice pa ps.length pc) := cell_of_block q6 1
      have u2 : w6.cell? ⟨wr.heap.size, 2, none⟩ = some (.int .i64 (ps.length : Int)) := cell_of_block q6 2
      have u4 : w6.cell? ⟨wr.heap.size, 4, none⟩ = some (.int .i64 an) := cell_of_block q6 4
      have u5 : w6.cell? ⟨wr.heap.size, 5, none⟩ = some (.slice ia al.length ic) := cell_of_block q6 5
      clear q6
      by_cases han : an = (ps.length : Int)
      · have e1 : V.length = al.length := by rw [HVl.out, if_pos han]
        have e2 : nl = 0 := by omega
        rw [e1]
        subst e2
        subst han
        clear e1
        go_wp2_with fail
        go_roundw
        case rel => exact ⟨j + 1, by omega, by go_num, Hf6.out⟩
        case measure => simp [intOf]; omega
      · have e1 : V.length = 0 := by rw [HVl.out, if_neg han]
        have e2 : 0 < nl := by omega
        have e3 : (0 : Int) < (nl : Int) := by omega
        have e4 : nl ≤ 1000 := by omega
        rw [e1]
        clear e1
        go_wp2_with fail
        go_roundw
        case rel => exact ⟨j + 1, by omega, by go_num, Hf6.out⟩
        case measure => simp [intOf]; omega
    · have hkn := known34 wr (hE2.no hf)
      have Hf := Lib.hid hf
      clear hf
      go_wp2_with fail
      refine hkn.mono ?_
      rintro e w9 ⟨rfl, hf9⟩
      have H := Lib.hid ((Hfw2.out.step Hf.out (fun _ _ h => h)).step hf9 (fun _ _ h => h))
      clear hf9 hkn
      go_wp2_with fail
      go_ret
      exact ⟨rfl, H.out⟩
end Go.Proofs.YtmieegcgeolckaaGreatDoor
namespace Go.Proofs.YtmieegcgeolckaaGreatDoor
open Go.RowKit Go.Maps
set_option linter.unusedVariables false

theorem mflat_get : ∀ (L : List Mem) (j : Nat) (u : Value), (mflat L)[j]? = some u → ∃ m, L[j / 7]? = some m ∧ m.vals[j % 7]? = some u
  | [], j, u, h => by simp [mflat] at h
  | x :: t, j, u, h => by
    have e : mflat (x :: t) = x.vals.toList ++ mflat t := by simp [mflat]
    have hl : x.vals.toList.length = 7 := by simp [Mem.vals]
    rw [e] at h
    by_cases hj : j < 7
    · rw [List.getElem?_append_left (by omega)] at h
      refine ⟨x, by rw [show j / 7 = 0 by omega]; rfl, ?_⟩
      rw [show j % 7 = j by omega, ← Array.getElem?_toList]; exact h
    · rw [List.getElem?_append_right (by omega), hl] at h
      obtain ⟨m, h1, h2⟩ := mflat_get t (j - 7) u h
      refine ⟨m, ?_, ?_⟩
      · rw [show j / 7 = (j - 7) / 7 + 1 by omega]; simpa using h1
      · rw [show j % 7 = (j - 7) % 7 by omega]; exact h2
theorem mflat_append (L M : List Mem) : mflat (L ++ M) = mflat L ++ mflat M := by simp [mflat]
theorem mflat_one (L : List Mem) : ∀ u ∈ mflat L, u.oneCell' = true := by
  intro u hu
  obtain ⟨m, _, h⟩ := List.mem_flatMap.1 hu
  exact mvals_one m u h
/-- The cells of a slice of members, from the n-th on. -/
theorem Mems.src {w : World} {a : Option Addr} {cap : Nat} {L : List Mem} (h : Mems w a cap L) (n : Nat) : ∀ ad, a = some ad → ∀ j u, (mflat (L.drop n))[j]? = some u → w.cell? ⟨ad.block, ad.off + n * 7 + j, none⟩ = some u := by
  intro ad e j u hu
  obtain ⟨m, h1, h2⟩ := mflat_get _ _ _ hu
  rw [List.getElem?_drop] at h1
  obtain ⟨_, _, h3⟩ := h.cell ad e (by intro e; subst e; simp at h1)
  have h4 := h3 (n + j / 7) m h1 (j % 7) (by omega)
  rw [← h2, ← h4]
  congr 2
  omega
theorem Mems.srcT {w : World} {a : Option Addr} {cap : Nat} {L : List Mem} (h : Mems w a cap L) (n : Nat) : ∀ ad, a = some ad → ∀ j u, (mflat (L.take n))[j]? = some u → w.cell? ⟨ad.block, ad.off + j, none⟩ = some u := by
  intro ad e j u hu
  obtain ⟨m, h1, h2⟩ := mflat_get _ _ _ hu
  have h1' : L[j / 7]? = some m := by
    rw [List.getElem?_take] at h1
    split at h1
    · exact h1
    · cases h1
  obtain ⟨_, _, h3⟩ := h.cell ad e (by intro e; subst e; simp at h1')
  have h4 := h3 (j / 7) m h1' (j % 7) (by omega)
  rw [← h2, ← h4]
  congr 2
  omega

theorem Mems.from_if {w : World} {a : Option Addr} {cap : Nat} {L : List Mem} (h : Mems w a cap L) (n : Nat) (hn : n ≤ L.length) :
    (∀ ad, (if cap = n then a else Option.map (fun x => x.add (n * 7)) a) = some ad → ∀ j u, (mflat (L.drop n))[j]? = some u → w.cell? (ad.add j) = some u) ∧
    ((if cap = n then a else Option.map (fun x => x.add (n * 7)) a) = none → L.length - n = 0 ∧ cap - n = 0) := by
  have hl := h.len
  constructor
  · intro ad e j u hu
    have hne : L ≠ [] := by intro e; subst e; simp [mflat] at hu
    split at e
    · rename_i hc
      have : L.drop n = [] := List.drop_eq_nil_of_le (by omega)
      rw [this] at hu
      simp [mflat] at hu
    · obtain ⟨ad', e', rfl⟩ := Option.map_eq_some_iff.1 e
      have hsp := (h.cell ad' e' hne).1
      have h1 := h.src n ad' e' j u hu
      obtain ⟨b, o, sp⟩ := ad'
      simp only at hsp h1
      subst hsp
      rw [Addr.add_lit, Addr.add_lit]
      exact h1
  · intro e
    split at e
    · rename_i hc
      obtain ⟨h1, h2⟩ := h.isNil e
      rw [h1]; simp; omega
    · obtain ⟨h1, h2⟩ := h.isNil (Option.map_eq_none_iff.1 e)
      rw [h1]; simp; omega
theorem Mems.upto {w : World} {a : Option Addr} {cap : Nat} {L : List Mem} (h : Mems w a cap L) (n : Nat) (hn : n ≤ L.length) :
    (∀ ad, a = some ad → ∀ j u, (mflat (L.take n))[j]? = some u → w.cell? (ad.add j) = some u) ∧ (a = none → n = 0 ∧ cap = 0) := by
  constructor
  · intro ad e j u hu
    have hne : L ≠ [] := by intro e; subst e; simp [mflat] at hu
    have hsp := (h.cell ad e hne).1
    have h1 := h.srcT n ad e j u hu
    obtain ⟨b, o, sp⟩ := ad
    simp only at hsp h1
    subst hsp
    rw [Addr.add_lit]
    exact h1
  · intro e
    obtain ⟨h1, h2⟩ := h.isNil e
    rw [h1] at hn
    exact ⟨by simpa using hn, h2⟩

/-- Different paths. -/
def Diff (L : List Mem) : Prop := L.Pairwise (fun m o => m.p ≠ o.p)
theorem diff_turn {L : List Mem} (h : Diff L) (n : Nat) : Diff (L.drop n ++ L.take n) := by
  have hp : (L.take n ++ L.drop n).Perm (L.drop n ++ L.take n) := List.perm_append_comm
  rw [List.take_append_drop] at hp
  exact hp.pairwise h (fun h => Ne.symm h)
theorem turn_mem (L : List Mem) (n : Nat) (m : Mem) : m ∈ L ↔ m ∈ L.drop n ++ L.take n := by
  have hp : (L.take n ++ L.drop n).Perm (L.drop n ++ L.take n) := List.perm_append_comm
  rw [List.take_append_drop] at hp
  exact hp.mem_iff
theorem diff_of {L : List Mem} (h : ∀ (i j : Nat) (m o : Mem), j < i → L[i]? = some m → L[j]? = some o → m.p ≠ o.p) : Diff L := by
  unfold Diff
  rw [List.pairwise_iff_getElem]
  intro i j hi hj hij
  exact Ne.symm (h j i _ _ hij (List.getElem?_eq_getElem hj) (List.getElem?_eq_getElem hi))
end Go.Proofs.YtmieegcgeolckaaGreatDoor
namespace Go.Proofs.YtmieegcgeolckaaGreatDoor
open Go.RowKit Go.Maps
set_option linter.unusedVariables false

theorem sameT_id (l : List ByteArray) : sameT l l = true := by unfold sameT; simp
set_option maxRecDepth 100000 in
set_option maxHeartbeats 4000000 in
theorem same_arrays_eq (a a' : Option Addr) (cap cap' : Nat) (O O' : List ArrM) (w : World) (hO : Arrs w a cap O) (hO' : Arrs w a' cap' O') (he : O.map ArrM.toArr = O'.map ArrM.toArr) :
    Calls Tryz.prog 44 #[.slice a O.length cap, .slice a' O'.length cap'] w fun e w' => e = .returned (.bool true) ∧ Fr No w w' := by
  have hm := hO.lenmax
  have hlen : O'.length = O.length := by have := congrArg List.length he; simp at this; exact this.symm
  rw [hlen]
  have Hlen := Lib.hid hlen
  clear hlen
  have He := Lib.hid he
  clear he
  go_enter Tryz.func44, Tryz.ntmps44
  go_wp2_with fail
  go_loopw [5] (fun i wr => ∃ k : Nat, k ≤ O.length ∧ i = .int .i64 (k : Int) ∧ Fr No w wr) (fun i _ => O.length - (intOf i).toNat)
  case atStart => exact ⟨0, by omega, rfl, Fr.refl _ _⟩
  case round =>
    obtain ⟨k, hk, rfl, hf⟩ := hrel
    by_cases hlt : k < O.length
    · have hlt1 : (k : Int) < O.length := by omega
      obtain ⟨ub, uo, u, e1, hu, ⟨hPu, hLu⟩, ⟨u0, u1, u2, u3, u4, u5⟩, hubl⟩ := (hO.no hf (fun _ => id)).elem hlt
      obtain ⟨vb, vo, v, e2, hv, ⟨hPv, hLv⟩, ⟨v0, v1, v2, v3, v4, v5⟩, hvbl⟩ := (hO'.no hf (fun _ => id)).elem (show k < O'.length by have := Hlen.out; omega)
      have huv : u.toArr = v.toArr := by
        have h1 : (O.map ArrM.toArr)[k]? = some u.toArr := by rw [List.getElem?_map, hu]; rfl
        rw [He.out, List.getElem?_map, hv] at h1
        exact (Option.some.inj h1).symm
      obtain ⟨⟨ia, ps, ta, ea, na, ls⟩, pa, pc, la, lc⟩ := u
      obtain ⟨Av, va, vc, wa, wk⟩ := v
      simp only at huv
      subst huv
      subst e1 e2
      simp only at u0 u1 u2 u3 u4 u5 v0 v1 v2 v3 v4 v5 hPu hLu hPv hLv
      have Hu := Lib.hid (And.intro hPu (And.intro hLu (And.intro hPv hLv)))
      have Hf := Lib.hid hf
      clear hu hv hPu hLu hPv hLv hf
      go_upto_region 6 with (fail)
      go_cut [6, 7] (fun x y wx => ∃ p q : Nat, x = .pointer (some ⟨p, 0, none⟩) ∧ y = .pointer (some ⟨q, 0, none⟩) ∧ wx.heap[p]? = some (.cells #[.string ia, .slice pa ps.length pc, .int .i64 ta, .int .i64 ea, .int .i64 na, .slice la ls.length lc] 70) ∧ wx.heap[q]? = some (.cells #[.string ia, .slice va ps.length vc, .int .i64 ta, .int .i64 ea, .int .i64 na, .slice wa ls.length wk] 70) ∧ Fr No wr wx)
      case first =>
        refine region_tree (From wr.heap.size) (.q 0 (.q 1 (.q 2 (.q 3 (.q 4 (.q 5 (.q 6 (.q 7 (.m2 8 (.m1 9 (.m1 10 (.m1 11 .fin))) 9 (.m1 8 (.m1 10 (.m1 11 .fin)))))))))))) _ (by kernel_rfl) (by kernel_rfl) (fun w0 hf0 => ?_) (fun _ _ h => h)
        have n1 : ¬ From wr.heap.size ub := by unfold From; omega
        have n2 : ¬ From wr.heap.size vb := by unfold From; omega
        have hs0 := hf0.size
        have g0 : ∀ g : Gr (From wr.heap.size) w0, g.W.cell? ⟨ub, uo + k * 6, none⟩ = some (.string ia) := fun g => g.fr.cell (hf0.cell u0 id) n1
        have g1 : ∀ g : Gr (From wr.heap.size) w0, g.W.cell? ⟨ub, uo + k * 6 + 1, none⟩ = some (.slice pa ps.length pc) := fun g => g.fr.cell (hf0.cell u1 id) n1
        have g2 : ∀ g : Gr (From wr.heap.size) w0, g.W.cell? ⟨ub, uo + k * 6 + 2, none⟩ = some (.int .i64 ta) := fun g => g.fr.cell (hf0.cell u2 id) n1
        have g3 : ∀ g : Gr (From wr.heap.size) w0, g.W.cell? ⟨ub, uo + k * 6 + 3, none⟩ = some (.int .i64 ea) := fun g => g.fr.cell (hf0.cell u3 id) n1
        have g4 : ∀ g : Gr (From wr.heap.size) w0, g.W.cell? ⟨ub, uo + k * 6 + 4, none⟩ = some (.int .i64 na) := fun g => g.fr.cell (hf0.cell u4 id) n1
        have g5 : ∀ g : Gr (From wr.heap.size) w0, g.W.cell? ⟨ub, uo + k * 6 + 5, none⟩ = some (.slice la ls.length lc) := fun g => g.fr.cell (hf0.cell u5 id) n1
        have h0 : ∀ g : Gr (From wr.heap.size) w0, g.W.cell? ⟨vb, vo + k * 6, none⟩ = some (.string ia) := fun g => g.fr.cell (hf0.cell v0 id) n2
        have h1 : ∀ g : Gr (From wr.heap.size) w0, g.W.cell? ⟨vb, vo + k * 6 + 1, none⟩ = some (.slice va ps.length vc) := fun g => g.fr.cell (hf0.cell v1 id) n2
        have h2 : ∀ g : Gr (From wr.heap.size) w0, g.W.cell? ⟨vb, vo + k * 6 + 2, none⟩ = some (.int .i64 ta) := fun g => g.fr.cell (hf0.cell v2 id) n2
        have h3 : ∀ g : Gr (From wr.heap.size) w0, g.W.cell? ⟨vb, vo + k * 6 + 3, none⟩ = some (.int .i64 ea) := fun g => g.fr.cell (hf0.cell v3 id) n2
        have h4 : ∀ g : Gr (From wr.heap.size) w0, g.W.cell? ⟨vb, vo + k * 6 + 4, none⟩ = some (.int .i64 na) := fun g => g.fr.cell (hf0.cell v4 id) n2
        have h5 : ∀ g : Gr (From wr.heap.size) w0, g.W.cell? ⟨vb, vo + k * 6 + 5, none⟩ = some (.slice wa ls.length wk) := fun g => g.fr.cell (hf0.cell v5 id) n2
        have Hf0 := Lib.hid hf0
        clear u0 u1 u2 u3 u4 u5 v0 v1 v2 v3 v4 v5 hf0
        repeat (apply tree_q; exact rfl; exact rfl; exact rfl; intro K hK; go_big_quiet_op; go_big_quiet_on)
        clear g0 g1 g2 g3 g4 g5 h0 h1 h2 h3 h4 h5
        refine tree_m2 rfl rfl ?_ ?_
        · skip
          go_wp2_with fail
          have hX1 : Fr No w0 (w0.alloc (.cells #[.string ⟨#[]⟩, .slice none 0 0, .int .i64 0, .int .i64 0, .int .i64 0, .slice none 0 0] 70)) := (Fr.refl _ _).alloc _
          have qu1 := block_alloc w0 (.cells #[.string ⟨#[]⟩, .slice none 0 0, .int .i64 0, .int .i64 0, .int .i64 0, .slice none 0 0] 70)
          refine OnlyN.mk ⟨(Fr.refl _ _).alloc _, ?_⟩
          generalize w0.alloc (.cells #[.string ⟨#[]⟩, .slice none 0 0, .int .i64 0, .int .i64 0, .int .i64 0, .slice none 0 0] 70) = X1 at *
          have hs1 := lt_of_block qu1
          refine tree_m1 rfl ?_
          go_wp2_with fail
          have hX2 : Fr No X1 (X1.alloc (.cells #[.string ⟨#[]⟩, .slice none 0 0, .int .i64 0, .int .i64 0, .int .i64 0, .slice none 0 0] 70)) := (Fr.refl _ _).alloc _
          have qv2 := block_alloc X1 (.cells #[.string ⟨#[]⟩, .slice none 0 0, .int .i64 0, .int .i64 0, .int .i64 0, .slice none 0 0] 70)
          have qu2 := hX2.heap qu1 id
          refine OnlyN.mk ⟨(Fr.refl _ _).alloc _, ?_⟩
          generalize X1.alloc (.cells #[.string ⟨#[]⟩, .slice none 0 0, .int .i64 0, .int .i64 0, .int .i64 0, .slice none 0 0] 70) = X2 at *
          refine tree_m1 rfl ?_
          have z0 : X2.cell? ⟨w0.heap.size, 0, none⟩ = some (.string ⟨#[]⟩) := cell_of_block qu2 0
          have y0 : X2.frozen? ⟨w0.heap.size, 0, none⟩ = false := free_of_block qu2 0
          have z1 : X2.cell? ⟨w0.heap.size, 1, none⟩ = some (.slice none 0 0) := cell_of_block qu2 1
          have y1 : X2.frozen? ⟨w0.heap.size, 1, none⟩ = false := free_of_block qu2 1
          have z2 : X2.cell? ⟨w0.heap.size, 2, none⟩ = some (.int .i64 0) := cell_of_block qu2 2
          have y2 : X2.frozen? ⟨w0.heap.size, 2, none⟩ = false := free_of_block qu2 2
          have z3 : X2.cell? ⟨w0.heap.size, 3, none⟩ = some (.int .i64 0) := cell_of_block qu2 3
          have y3 : X2.frozen? ⟨w0.heap.size, 3, none⟩ = false := free_of_block qu2 3
          have z4 : X2.cell? ⟨w0.heap.size, 4, none⟩ = some (.int .i64 0) := cell_of_block qu2 4
          have y4 : X2.frozen? ⟨w0.heap.size, 4, none⟩ = false := free_of_block qu2 4
          have z5 : X2.cell? ⟨w0.heap.size, 5, none⟩ = some (.slice none 0 0) := cell_of_block qu2 5
          have y5 : X2.frozen? ⟨w0.heap.size, 5, none⟩ = false := free_of_block qu2 5
          have h6 := set6 qu2 rfl (.string ia) (.slice pa ps.length pc) (.int .i64 ta) (.int .i64 ea) (.int .i64 na) (.slice la ls.length lc)
          have H6 := Lib.hid h6
          have Hq := Lib.hid qv2
          clear h6 qu2 qv2
          go_wp2_with fail
          refine OnlyN.mk ⟨H6.out.2.mono (fun b _ h => by unfold Is at h; unfold From; omega), ?_⟩
          clear z0 z1 z2 z3 z4 z5 y0 y1 y2 y3 y4 y5
          have qu3 := H6.out.1
          have qv3 := H6.out.2.heap Hq.out (by show ¬ (X1.heap.size = w0.heap.size); omega)
          have hX3 := H6.out.2
          clear H6 Hq
          generalize ((((((X2.setCell ⟨w0.heap.size, 0, none⟩ (.string ia)).setCell ⟨w0.heap.size, 1, none⟩ (.slice pa ps.length pc)).setCell ⟨w0.heap.size, 2, none⟩ (.int .i64 ta)).setCell ⟨w0.heap.size, 3, none⟩ (.int .i64 ea)).setCell ⟨w0.heap.size, 4, none⟩ (.int .i64 na)).setCell ⟨w0.heap.size, 5, none⟩ (.slice la ls.length lc)) = X3 at *
          refine tree_m1 rfl ?_
          have z0 : X3.cell? ⟨X1.heap.size, 0, none⟩ = some (.string ⟨#[]⟩) := cell_of_block qv3 0
          have y0 : X3.frozen? ⟨X1.heap.size, 0, none⟩ = false := free_of_block qv3 0
          have z1 : X3.cell? ⟨X1.heap.size, 1, none⟩ = some (.slice none 0 0) := cell_of_block qv3 1
          have y1 : X3.frozen? ⟨X1.heap.size, 1, none⟩ = false := free_of_block qv3 1
          have z2 : X3.cell? ⟨X1.heap.size, 2, none⟩ = some (.int .i64 0) := cell_of_block qv3 2
          have y2 : X3.frozen? ⟨X1.heap.size, 2, none⟩ = false := free_of_block qv3 2
          have z3 : X3.cell? ⟨X1.heap.size, 3, none⟩ = some (.int .i64 0) := cell_of_block qv3 3
          have y3 : X3.frozen? ⟨X1.heap.size, 3, none⟩ = false := free_of_block qv3 3
          have z4 : X3.cell? ⟨X1.heap.size, 4, none⟩ = some (.int .i64 0) := cell_of_block qv3 4
          have y4 : X3.frozen? ⟨X1.heap.size, 4, none⟩ = false := free_of_block qv3 4
          have z5 : X3.cell? ⟨X1.heap.size, 5, none⟩ = some (.slice none 0 0) := cell_of_block qv3 5
          have y5 : X3.frozen? ⟨X1.heap.size, 5, none⟩ = false := free_of_block qv3 5
          have h6 := set6 qv3 rfl (.string ia) (.slice va ps.length vc) (.int .i64 ta) (.int .i64 ea) (.int .i64 na) (.slice wa ls.length wk)
          have H6 := Lib.hid h6
          have Hq := Lib.hid qu3
          clear h6 qv3 qu3
          go_wp2_with fail
          refine OnlyN.mk ⟨H6.out.2.mono (fun b _ h => by unfold Is at h; unfold From; omega), ?_⟩
          clear z0 z1 z2 z3 z4 z5 y0 y1 y2 y3 y4 y5
          refine tree_end ?_
          go_wp2_with fail
          go_meet
          exact ⟨w0.heap.size, X1.heap.size, rfl, rfl, H6.out.2.heap Hq.out (by show ¬ (w0.heap.size = X1.heap.size); omega), H6.out.1, Hf0.out.step (((hX1.step hX2 (fun _ _ h => h)).step hX3 (fun b hb h => by unfold Is at h; have := hX1.size; omega)).step H6.out.2 (fun b hb h => by unfold Is at h; have := hX1.size; omega)) (fun _ _ h => h)⟩
        · skip
          go_wp2_with fail
          have hX1 : Fr No w0 (w0.alloc (.cells #[.string ⟨#[]⟩, .slice none 0 0, .int .i64 0, .int .i64 0, .int .i64 0, .slice none 0 0] 70)) := (Fr.refl _ _).alloc _
          have qv1 := block_alloc w0 (.cells #[.string ⟨#[]⟩, .slice none 0 0, .int .i64 0, .int .i64 0, .int .i64 0, .slice none 0 0] 70)
          refine OnlyN.mk ⟨(Fr.refl _ _).alloc _, ?_⟩
          generalize w0.alloc (.cells #[.string ⟨#[]⟩, .slice none 0 0, .int .i64 0, .int .i64 0, .int .i64 0, .slice none 0 0] 70) = X1 at *
          have hs1 := lt_of_block qv1
          refine tree_m1 rfl ?_
          go_wp2_with fail
          have hX2 : Fr No X1 (X1.alloc (.cells #[.string ⟨#[]⟩, .slice none 0 0, .int .i64 0, .int .i64 0, .int .i64 0, .slice none 0 0] 70)) := (Fr.refl _ _).alloc _
          have qu2 := block_alloc X1 (.cells #[.string ⟨#[]⟩, .slice none 0 0, .int .i64 0, .int .i64 0, .int .i64 0, .slice none 0 0] 70)
          have qv2 := hX2.heap qv1 id
          refine OnlyN.mk ⟨(Fr.refl _ _).alloc _, ?_⟩
          generalize X1.alloc (.cells #[.string ⟨#[]⟩, .slice none 0 0, .int .i64 0, .int .i64 0, .int .i64 0, .slice none 0 0] 70) = X2 at *
          refine tree_m1 rfl ?_
          have z0 : X2.cell? ⟨X1.heap.size, 0, none⟩ = some (.string ⟨#[]⟩) := cell_of_block qu2 0
          have y0 : X2.frozen? ⟨X1.heap.size, 0, none⟩ = false := free_of_block qu2 0
          have z1 : X2.cell? ⟨X1.heap.size, 1, none⟩ = some (.slice none 0 0) := cell_of_block qu2 1
          have y1 : X2.frozen? ⟨X1.heap.size, 1, none⟩ = false := free_of_block qu2 1
          have z2 : X2.cell? ⟨X1.heap.size, 2, none⟩ = some (.int .i64 0) := cell_of_block qu2 2
          have y2 : X2.frozen? ⟨X1.heap.size, 2, none⟩ = false := free_of_block qu2 2
          have z3 : X2.cell? ⟨X1.heap.size, 3, none⟩ = some (.int .i64 0) := cell_of_block qu2 3
          have y3 : X2.frozen? ⟨X1.heap.size, 3, none⟩ = false := free_of_block qu2 3
          have z4 : X2.cell? ⟨X1.heap.size, 4, none⟩ = some (.int .i64 0) := cell_of_block qu2 4
          have y4 : X2.frozen? ⟨X1.heap.size, 4, none⟩ = false := free_of_block qu2 4
          have z5 : X2.cell? ⟨X1.heap.size, 5, none⟩ = some (.slice none 0 0) := cell_of_block qu2 5
          have y5 : X2.frozen? ⟨X1.heap.size, 5, none⟩ = false := free_of_block qu2 5
          have h6 := set6 qu2 rfl (.string ia) (.slice pa ps.length pc) (.int .i64 ta) (.int .i64 ea) (.int .i64 na) (.slice la ls.length lc)
          have H6 := Lib.hid h6
          have Hq := Lib.hid qv2
          clear h6 qu2 qv2
          go_wp2_with fail
          refine OnlyN.mk ⟨H6.out.2.mono (fun b _ h => by unfold Is at h; unfold From; omega), ?_⟩
          clear z0 z1 z2 z3 z4 z5 y0 y1 y2 y3 y4 y5
          have qu3 := H6.out.1
          have qv3 := H6.out.2.heap Hq.out (by show ¬ (w0.heap.size = X1.heap.size); omega)
          have hX3 := H6.out.2
          clear H6 Hq
          generalize ((((((X2.setCell ⟨X1.heap.size, 0, none⟩ (.string ia)).setCell ⟨X1.heap.size, 1, none⟩ (.slice pa ps.length pc)).setCell ⟨X1.heap.size, 2, none⟩ (.int .i64 ta)).setCell ⟨X1.heap.size, 3, none⟩ (.int .i64 ea)).setCell ⟨X1.heap.size, 4, none⟩ (.int .i64 na)).setCell ⟨X1.heap.size, 5, none⟩ (.slice la ls.length lc)) = X3 at *
          refine tree_m1 rfl ?_
          have z0 : X3.cell? ⟨w0.heap.size, 0, none⟩ = some (.string ⟨#[]⟩) := cell_of_block qv3 0
          have y0 : X3.frozen? ⟨w0.heap.size, 0, none⟩ = false := free_of_block qv3 0
          have z1 : X3.cell? ⟨w0.heap.size, 1, none⟩ = some (.slice none 0 0) := cell_of_block qv3 1
          have y1 : X3.frozen? ⟨w0.heap.size, 1, none⟩ = false := free_of_block qv3 1
          have z2 : X3.cell? ⟨w0.heap.size, 2, none⟩ = some (.int .i64 0) := cell_of_block qv3 2
          have y2 : X3.frozen? ⟨w0.heap.size, 2, none⟩ = false := free_of_block qv3 2
          have z3 : X3.cell? ⟨w0.heap.size, 3, none⟩ = some (.int .i64 0) := cell_of_block qv3 3
          have y3 : X3.frozen? ⟨w0.heap.size, 3, none⟩ = false := free_of_block qv3 3
          have z4 : X3.cell? ⟨w0.heap.size, 4, none⟩ = some (.int .i64 0) := cell_of_block qv3 4
          have y4 : X3.frozen? ⟨w0.heap.size, 4, none⟩ = false := free_of_block qv3 4
          have z5 : X3.cell? ⟨w0.heap.size, 5, none⟩ = some (.slice none 0 0) := cell_of_block qv3 5
          have y5 : X3.frozen? ⟨w0.heap.size, 5, none⟩ = false := free_of_block qv3 5
          have h6 := set6 qv3 rfl (.string ia) (.slice va ps.length vc) (.int .i64 ta) (.int .i64 ea) (.int .i64 na) (.slice wa ls.length wk)
          have H6 := Lib.hid h6
          have Hq := Lib.hid qu3
          clear h6 qv3 qu3
          go_wp2_with fail
          refine OnlyN.mk ⟨H6.out.2.mono (fun b _ h => by unfold Is at h; unfold From; omega), ?_⟩
          clear z0 z1 z2 z3 z4 z5 y0 y1 y2 y3 y4 y5
          refine tree_end ?_
          go_wp2_with fail
          go_meet
          exact ⟨X1.heap.size, w0.heap.size, rfl, rfl, H6.out.2.heap Hq.out (by show ¬ (X1.heap.size = w0.heap.size); omega), H6.out.1, Hf0.out.step (((hX1.step hX2 (fun _ _ h => h)).step hX3 (fun b hb h => by unfold Is at h; have := hX1.size; omega)).step H6.out.2 (fun b hb h => by unfold Is at h; have := hX1.size; omega)) (fun _ _ h => h)⟩
      case rest =>
        obtain ⟨p, q, rfl, rfl, qp, qq, hfx⟩ := hcut
        have x0 : wc.cell? ⟨p, 0, none⟩ = some (.string ia) := cell_of_block qp 0
        have x1 : wc.cell? ⟨p, 1, none⟩ = some (.slice pa ps.length pc) := cell_of_block qp 1
        have y0 : wc.cell? ⟨q, 0, none⟩ = some (.string ia) := cell_of_block qq 0
        have y1 : wc.cell? ⟨q, 1, none⟩ = some (.slice va ps.length vc) := cell_of_block qq 1
        have Hfx := Lib.hid (Hf.out.step hfx (fun _ _ h => h))
        have h1 := same_texts pa va pc vc ps ps wc (Hu.out.1.no hfx (fun _ => id)) (Hu.out.2.2.1.no hfx (fun _ => id))
        rw [sameT_id] at h1
        have hLu' := Hu.out.2.1.no hfx (fun _ => id)
        have hLv' := Hu.out.2.2.2.no hfx (fun _ => id)
        clear hfx u0 u1 u2 u3 u4 u5 v0 v1 v2 v3 v4 v5
        go_wp2_with fail
        refine h1.mono ?_
        rintro en w5 ⟨rfl, hf5⟩
        have qp5 := hf5.heap qp id
        have qq5 := hf5.heap qq id
        clear x0 x1 y0 y1
        have x2 : w5.cell? ⟨p, 2, none⟩ = some (.int .i64 ta) := cell_of_block qp5 2
        have x3 : w5.cell? ⟨p, 3, none⟩ = some (.int .i64 ea) := cell_of_block qp5 3
        have x4 : w5.cell? ⟨p, 4, none⟩ = some (.int .i64 na) := cell_of_block qp5 4
        have x5 : w5.cell? ⟨p, 5, none⟩ = some (.slice la ls.length lc) := cell_of_block qp5 5
        have y2 : w5.cell? ⟨q, 2, none⟩ = some (.int .i64 ta) := cell_of_block qq5 2
        have y3 : w5.cell? ⟨q, 3, none⟩ = some (.int .i64 ea) := cell_of_block qq5 3
        have y4 : w5.cell? ⟨q, 4, none⟩ = some (.int .i64 na) := cell_of_block qq5 4
        have y5 : w5.cell? ⟨q, 5, none⟩ = some (.slice wa ls.length wk) := cell_of_block qq5 5
        have h2 := same_texts la wa lc wk ls ls w5 (hLu'.no hf5 (fun _ => id)) (hLv'.no hf5 (fun _ => id))
        rw [sameT_id] at h2
        have Hf5 := Lib.hid (Hfx.out.step hf5 (fun _ _ h => h))
        clear h1 hf5 hLu' hLv' qp qq qp5 qq5
        go_wp2_with fail
        refine h2.mono ?_
        rintro en w6 ⟨rfl, hf6⟩
        have Hf6 := Lib.hid (Hf5.out.step hf6 (fun _ _ h => h))
        clear h2 hf6 x2 x3 x4 x5 y2 y3 y4 y5
        go_wp2_with fail
        go_roundw
        case rel => exact ⟨k + 1, by omega, by go_num, Hf6.out⟩
        case measure => simp [intOf]; omega
    · obtain rfl : k = O.length := by omega
      go_wp2_with fail
      go_ret
      exact ⟨rfl, hf⟩
end Go.Proofs.YtmieegcgeolckaaGreatDoor
namespace Go.Proofs.YtmieegcgeolckaaGreatDoor
open Go.RowKit Go.Maps
set_option linter.unusedVariables false

theorem ownsRow_set {w : World} {base size n c j g : Nat} {e : TypeId} {xs : List Value} (h : w.ownsRow base e size (.slice (some ⟨g, 0, none⟩) n c) n xs) (hj : j < xs.length) (u : Value) :
    (w.setCell ⟨g, j, none⟩ u).ownsRow base e size (.slice (some ⟨g, 0, none⟩) n c) n (xs.set j u) := by
  obtain ⟨h0, ⟨h1, _⟩ | ⟨g', cap, cur, h1, hg, hb, h2, h3, h4, h5⟩⟩ := h
  · cases h1
  · cases h1
    refine ⟨by rw [List.length_set]; exact h0, .inr ⟨g, c, cur.setIfInBounds j u, rfl, hg, block_setCell hb j u, h2, h3, by simp [h4], ?_⟩⟩
    rw [Array.toList_setIfInBounds, List.take_set, h5]
theorem ownsRow_cell {w : World} {base size n c j g : Nat} {e : TypeId} {xs : List Value} (h : w.ownsRow base e size (.slice (some ⟨g, 0, none⟩) n c) n xs) {u : Value} (hj : xs[j]? = some u) :
    w.cell? ⟨g, j, none⟩ = some u ∧ w.frozen? ⟨g, j, none⟩ = false := by
  obtain ⟨h0, ⟨h1, _⟩ | ⟨g', cap, cur, h1, hg, hb, h2, h3, h4, h5⟩⟩ := h
  · cases h1
  · cases h1
    refine ⟨?_, free_of_block hb j⟩
    rw [cell_of_block hb, ← Array.getElem?_toList]
    rw [← h5] at hj
    rw [List.getElem?_take] at hj
    split at hj
    · exact hj
    · cases hj
/-- The first i members renamed. -/
def zedTo (i : Nat) (L : List Mem) : List Mem := (L.take i).map zed ++ L.drop i
theorem zedTo_zero (L : List Mem) : zedTo 0 L = L := by simp [zedTo]
theorem zedTo_all (L : List Mem) : zedTo L.length L = L.map zed := by simp [zedTo]
theorem zedTo_len (i : Nat) (L : List Mem) : (zedTo i L).length = L.length := by simp [zedTo]; omega
theorem zedTo_get {i : Nat} {L : List Mem} {m : Mem} (h : L[i]? = some m) : (zedTo i L)[i]? = some m := by
  have hl : i < L.length := (List.getElem?_eq_some_iff.1 h).1
  unfold zedTo
  have h1 : ((L.take i).map zed).length = i := by simp; omega
  rw [List.getElem?_append_right (by omega), h1, Nat.sub_self, List.getElem?_drop]
  simpa using h
theorem zedTo_succ {i : Nat} {L : List Mem} {m : Mem} (h : L[i]? = some m) : zedTo (i + 1) L = (zedTo i L).set i (zed m) := by
  have hl : i < L.length := (List.getElem?_eq_some_iff.1 h).1
  have h1 : ((L.take i).map zed).length = i := by simp; omega
  unfold zedTo
  rw [List.take_add_one, h]
  obtain ⟨_, h2⟩ := List.getElem?_eq_some_iff.1 h
  rw [List.drop_eq_getElem_cons hl, h2, List.set_append_right _ _ (by omega), h1, Nat.sub_self]
  simp
theorem mflat_set : ∀ (L : List Mem) (i : Nat) (m : Mem), L[i]? = some m → mflat (L.set i (zed m)) = (mflat L).set (i * 7 + 1) (.string (zed m).i)
  | [], i, m, h => by simp at h
  | x :: t, 0, m, h => by
    simp at h; subst h
    simp [mflat, Mem.vals, zed]
  | x :: t, i + 1, m, h => by
    have e : ∀ (y : Mem) (r : List Mem), mflat (y :: r) = y.vals.toList ++ mflat r := fun y r => by simp [mflat]
    rw [List.set_cons_succ, e, e, mflat_set t i m (by simpa using h), List.set_append_right _ _ (by simp [Mem.vals]; omega)]
    congr 2
    simp [Mem.vals]; omega
end Go.Proofs.YtmieegcgeolckaaGreatDoor
namespace Go.Proofs.YtmieegcgeolckaaGreatDoor
open Go.RowKit Go.Maps
set_option linter.unusedVariables false

theorem zed_small {L : List Mem} (h : ∀ m ∈ L, PvOk m) (hl : L.length ≤ 100) : MemSmall2 (L.map zed) := by
  have hz : ∀ m ∈ L, (zed m).i.size ≤ 4 := fun m hm => by
    have := pvIds_size _ (h m hm).i
    show ((⟨#[122]⟩ : ByteArray) ++ m.i).size ≤ 4
    rw [ByteArray.size_append]; show 1 + m.i.size ≤ 4; omega
  refine ⟨by simp; omega, ?_, ?_, ?_, ?_⟩ <;> intro m hm <;> obtain ⟨x, hx, rfl⟩ := List.mem_map.1 hm
  · have := (h x hx).p; show x.p.size ≤ _; omega
  · have := hz x hx; omega
  · have := (h x hx).n; show x.l.length ≤ _; omega
  · exact WalkArith.wf_i64 (by have := (h x hx).s; show _ ∧ _; simp only [zed]; omega)
theorem both_small {A B : List Mem} (hA : MemSmall2 A) (hB : MemSmall2 B) (hl : A.length + B.length ≤ 1000) : MemSmall2 (A ++ B) := by
  refine ⟨by simp; omega, ?_, ?_, ?_, ?_⟩ <;> intro m hm <;> rcases List.mem_append.1 hm with h | h
  · exact hA.p m h
  · exact hB.p m h
  · exact hA.i m h
  · exact hB.i m h
  · exact hA.l m h
  · exact hB.l m h
  · exact hA.s m h
  · exact hB.s m h

theorem arflat_get : ∀ (L : List ArrM) (j : Nat) (u : Value), (arflat L)[j]? = some u → ∃ m, L[j / 6]? = some m ∧ m.vals[j % 6]? = some u
  | [], j, u, h => by simp [arflat] at h
  | x :: t, j, u, h => by
    have e : arflat (x :: t) = x.vals.toList ++ arflat t := by simp [arflat]
    have hl : x.vals.toList.length = 6 := by simp [ArrM.vals]
    rw [e] at h
    by_cases hj : j < 6
    · rw [List.getElem?_append_left (by omega)] at h
      refine ⟨x, by rw [show j / 6 = 0 by omega]; rfl, ?_⟩
      rw [show j % 6 = j by omega, ← Array.getElem?_toList]; exact h
    · rw [List.getElem?_append_right (by omega), hl] at h
      obtain ⟨m, h1, h2⟩ := arflat_get t (j - 6) u h
      refine ⟨m, ?_, ?_⟩
      · rw [show j / 6 = (j - 6) / 6 + 1 by omega]; simpa using h1
      · rw [show j % 6 = (j - 6) % 6 by omega]; exact h2
theorem arflat_append (L M : List ArrM) : arflat (L ++ M) = arflat L ++ arflat M := by simp [arflat]
theorem arflat_one (L : List ArrM) : ∀ u ∈ arflat L, u.oneCell' = true := by
  intro u hu
  obtain ⟨m, _, h⟩ := List.mem_flatMap.1 hu
  exact arvals_one m u h
theorem Arrs.all {w : World} {a : Option Addr} {cap : Nat} {L : List ArrM} (h : Arrs w a cap L) :
    (∀ ad, a = some ad → ∀ j u, (arflat L)[j]? = some u → w.cell? (ad.add j) = some u) ∧ (a = none → L.length = 0 ∧ cap = 0) := by
  constructor
  · intro ad e j u hu
    obtain ⟨m, h1, h2⟩ := arflat_get _ _ _ hu
    obtain ⟨hsp, _, h3⟩ := h.cell ad e (by intro e; subst e; simp at h1)
    have h4 := h3 (j / 6) m h1 (j % 6) (by omega)
    obtain ⟨b, o, sp⟩ := ad
    simp only at hsp h4
    subst hsp
    rw [Addr.add_lit, ← h2, ← h4]
    congr 2
    omega
  · intro e
    obtain ⟨h1, h2⟩ := h.isNil e
    rw [h1]; exact ⟨rfl, h2⟩
theorem zed_ids {M : List Mem} (h : ∀ m ∈ M, PvOk m) : ∀ m ∈ M.map zed, m.i ∈ zIds := fun m hm => by
  obtain ⟨x, hx, rfl⟩ := List.mem_map.1 hm
  exact List.mem_map.2 ⟨x.i, (h x hx).i, rfl⟩
set_option maxRecDepth 100000 in
set_option maxHeartbeats 8000000 in
theorem vapart_walk (la : Option Addr) (lc : Nat) (l : List Int) (ma : Option Addr) (mc : Nat) (l2 : List Int) (w : World) (hl : Ints w la lc l) (hl2 : Ints w ma mc l2) (hE : Env w) :
    Calls Tryz.prog 14 #[.slice la l.length lc, .slice ma l2.length mc] w fun e w' => e = .returned (.bool true) ∧ Fr No w w' := by
  obtain ⟨j0, hj0, hy0, hy1, hy2⟩ := info_parts infoM
  obtain ⟨i0, hi0, hz0, hz1, hz2⟩ := info_parts infoAr
  have hx : Fr No w (w.alloc (.cells #[.slice la l.length lc, .int .i64 0] 26)) := (Fr.refl _ _).alloc _
  have ht := Tape.make hl 26
  have hE0 := hE.no hx
  have hs0 : (w.alloc (.cells #[.slice la l.length lc, .int .i64 0] 26)).heap.size = w.heap.size + 1 := by simp
  have hsz := hE.sz
  obtain ⟨W0, hW0⟩ : ∃ W0, W0 = w.alloc (.cells #[.slice la l.length lc, .int .i64 0] 26) := ⟨_, rfl⟩
  rw [← hW0] at hx ht hE0 hs0
  have hs0' : w.heap.size + 1 ≤ W0.heap.size := by omega
  clear hs0
  have hpv := made_pvs w.heap.size w.heap.size 0 5 W0 ht (by omega) (by omega)
  have Hx := Lib.hid hx
  clear hx hE
  go_enter Tryz.func14, Tryz.ntmps14
  go_wp2_with fail
  rw [← hW0]
  clear hW0
  refine hpv.mono ?_
  rintro e w1 ⟨⟨L, a1, c1, k1, rfl, hL1, hLf, hLm, hLo, hLl, hk1, ht1, _⟩, hf1⟩
  have hE1 := hE0.fr hf1 (fun b hb h => by unfold Is at h; omega)
  have hfw1 : Fr No w w1 := (Hx.out.mono (fun _ _ h => h)).trans hf1 (fun _ _ h => h) (fun b hb h => by unfold Is at h; omega)
  have hs1 := hf1.size
  have HLo := Lib.hid hLo
  have hl21 := hl2.no hfw1 (fun _ => id)
  clear hpv ht1 hf1 hE0 ht hLm hLo hLf
  have hx1 : Fr No w1 (w1.alloc (.cells #[.slice ma l2.length mc, .int .i64 0] 26)) := (Fr.refl _ _).alloc _
  have ht2 := Tape.make hl21 26
  have hs2 : (w1.alloc (.cells #[.slice ma l2.length mc, .int .i64 0] 26)).heap.size = w1.heap.size + 1 := by simp
  obtain ⟨W2, hW2⟩ : ∃ W2, W2 = w1.alloc (.cells #[.slice ma l2.length mc, .int .i64 0] 26) := ⟨_, rfl⟩
  rw [← hW2] at hx1 ht2 hs2
  have hs2' : w1.heap.size + 1 ≤ W2.heap.size := by omega
  have hE2 := hE1.no hx1
  have HL1 := Lib.hid (And.intro hL1 hx1)
  have Hfw2 := Lib.hid (hfw1.step hx1 (fun _ _ h => h))
  clear hs2 hx1 hE1 hL1 hfw1 hl21
  have hpv := made_pvs w1.heap.size w1.heap.size 0 5 W2 ht2 (by omega) (by omega)
  go_wp2_with fail
  rw [← hW2]
  clear hW2
  refine hpv.mono ?_
  rintro e w3 ⟨⟨M, b1, d1, k2, rfl, hM3, hMf, hMm, hMo, hMl, hk2, ht3, hown3⟩, hf3⟩
  have hf13 : Fr (Is w1.heap.size) w1 w3 := (HL1.out.2.mono (fun _ _ h => h.elim)).step hf3 (fun _ _ h => h)
  have hL3 := HL1.out.1.keep hf13 (fun b hb h => by unfold Is at h; omega)
  have hE3 := hE2.fr hf3 (fun b hb h => by unfold Is at h; omega)
  have Hfw3 : Hid (Fr No w w3) := Hfw2.out.step hf3 (fun b hb h => by unfold Is at h; omega)
  have hs3 := hf3.size
  have Hf13 : Hid (Fr (From w1.heap.size) w1 w3) := hf13.mono (fun b _ h => by unfold Is at h; unfold From; omega)
  have HMo := Lib.hid hMo
  have HMm := Lib.hid hMm
  have Hown3 := Lib.hid hown3
  clear hpv hM3 hMf ht3 hf3 hf13 hE2 ht2 hMo hMm
  go_wp2_with fail
  go_loopw [7] (fun i wr => ∃ q : Nat, q ≤ M.length ∧ i = .int .i64 (q : Int) ∧ wr.ownsRow W2.heap.size 31 7 (.slice b1 M.length d1) M.length (mflat (zedTo q M)) ∧ Fr (fun b => (Value.slice b1 M.length d1).ownBlock = some b) w3 wr) (fun i _ => M.length - (intOf i).toNat)
  case atStart => exact ⟨0, by omega, rfl, by rw [zedTo_zero]; exact hown3, Fr.refl _ _⟩
  case round =>
    obtain ⟨q, hq, rfl, hown, hf⟩ := hrel
    clear hown3
    by_cases hlt : q < M.length
    · have hlt' : (q : Int) < M.length := by omega
      obtain ⟨m, hm⟩ : ∃ m, M[q]? = some m := ⟨_, List.getElem?_eq_getElem hlt⟩
      have hmi := pvIds_size _ (HMo.out m (List.mem_of_getElem? hm)).i
      obtain ⟨g, rfl⟩ : ∃ g, b1 = some ⟨g, 0, none⟩ := by
        obtain ⟨_, ⟨h1, h2⟩ | ⟨g, cap, cur, h1, _⟩⟩ := hown
        · omega
        · cases h1; exact ⟨g, rfl⟩
      have hc := ownsRow_cell hown (j := q * 7 + 1) (u := .string m.i) (mflat_at (zedTo q M) q m (zedTo_get hm) 1 (by omega))
      have hset := ownsRow_set hown (j := q * 7 + 1) (by rw [mflat_len, zedTo_len]; omega) (.string (zed m).i)
      rw [← mflat_set _ _ _ (zedTo_get hm), ← zedTo_succ hm] at hset
      have hfs : Fr (fun b => (Value.slice (some ⟨g, 0, none⟩) M.length d1).ownBlock = some b) wr (wr.setCell ⟨g, q * 7 + 1, none⟩ (.string (zed m).i)) := Fr.setCell (S := fun b => (Value.slice (some ⟨g, 0, none⟩) M.length d1).ownBlock = some b) (p := ⟨g, q * 7 + 1, none⟩) (Fr.refl _ _) (fun _ => rfl) _
      have HS := Lib.hid (And.intro hset (hf.step hfs (fun _ _ h => h)))
      have hz : ¬ 9223372036854775807 < 1 + m.i.size := by omega
      have hcap := (hown.1 : (mflat (zedTo q M)).length = M.length * 7)
      obtain ⟨c1', c2'⟩ := hc
      unfold zed at HS
      simp only at HS
      clear hset hfs hf hown hcap hm
      go_wp2_with fail
      go_roundw
      case rel => exact ⟨q + 1, by omega, by go_num, HS.out.1, HS.out.2⟩
      case measure => simp [intOf]; omega
    · obtain rfl : q = M.length := by omega
      rw [zedTo_all] at hown
      have hMF := MFresh.own HMm.out Hown3.out hf
      have hob : ∀ b, (Value.slice b1 M.length d1).ownBlock = some b → W2.heap.size ≤ b := fun b h => by have := ownsRow_blk Hown3.out h; unfold From at this; exact this
      have hownB : wr.ownsRow W2.heap.size 31 7 (.slice b1 (M.map zed).length d1) (M.map zed).length (mflat (M.map zed)) := by rw [List.length_map]; exact hown
      obtain ⟨b1', d1', e6, hB, _⟩ := Mems.of_own hownB (fun m hm => by obtain ⟨x, hx, rfl⟩ := List.mem_map.1 hm; exact (hMF x hx).1)
      cases e6
      have hLb := HL1.out.1.keep (Hf13.out.step hf (fun b _ h => by have := hob b h; unfold From; omega)) (fun b hb h => by unfold From at h; omega)
      have hE4 := hE3.fr hf (fun b hb h => by have := hob b h; omega)
      have Hfw4 : Hid (Fr No w wr) := Hfw3.out.step hf (fun b hb h => by have := hob b h; omega)
      obtain ⟨m0, hm4⟩ := hE4.len
      have hsr := Hfw4.out.size
      have hb1 := hB.upto (M.map zed).length (Nat.le_refl _)
      rw [List.take_length, List.length_map] at hb1
      clear hown hownB hMF hf hob hE3 hL3
      go_wp2_with (first
        | (at_builtin; refine wpList_append_src rfl (.const (.slice none 0 0)) (.tmp 33) 36 rfl wr.heap.size 31 j0 (.agg #[.string ByteArray.empty, .string ByteArray.empty, .int .i64 0, .int .i64 0, .int .i64 0, .int .i64 0, .slice none 0 0]) 7 88 Tryz.underlying36 hj0 hy0 hy1 hy2 rfl (by decide) _ 0 [] rfl (World.ownsRow_nil _ _ _ _) _ M.length _ (mflat (M.map zed)) rfl hb1.2 (by rw [mflat_len, List.length_map]) hb1.1 (mflat_one _) (by unfold maxLen; omega) (by omega) (by first | omega | (simp; done) | (simp; omega)) ?_; intro v5 w5 own1 gr1; simp only [Nat.zero_add, List.nil_append] at own1; obtain ⟨av1, cv1, rfl⟩ := ownsRow_slice own1; have hf5 := Fr.of_grown_none gr1; have hs5 := hf5.size; have ha1 := (hLb.no hf5 (fun _ => id)).upto L.length (Nat.le_refl _); rw [List.take_length] at ha1)
        | (at_builtin; refine wpList_append_src rfl (.tmp 34) (.tmp 35) 36 rfl wr.heap.size 31 j0 (.agg #[.string ByteArray.empty, .string ByteArray.empty, .int .i64 0, .int .i64 0, .int .i64 0, .int .i64 0, .slice none 0 0]) 7 88 Tryz.underlying36 hj0 hy0 hy1 hy2 rfl (by decide) _ _ _ rfl own1 _ L.length _ (mflat L) rfl ha1.2 (by rw [mflat_len]) ha1.1 (mflat_one _) (by unfold maxLen; omega) (by omega) (by first | omega | (simp; done) | (simp; omega)) ?_; intro v6 w6 own2 gr2; obtain ⟨av2, cv2, rfl⟩ := ownsRow_slice own2))
      have hg6 : Fr (From wr.heap.size) w5 w6 := (Fr.of_grown gr2).mono (fun b _ h => ownsRow_blk own1 h)
      have hfr6 : Fr No wr w6 := ((hf5.mono (T := From wr.heap.size) (fun _ _ h => h.elim)).step hg6 (fun _ _ h => h)).mono (fun b hb h => by unfold From at h; omega)
      have hB6 := hB.no hfr6 (fun _ => id)
      have hL6 := hLb.no hfr6 (fun _ => id)
      have hE6 := hE4.no hfr6
      have hm6 := hfr6.cell hm4 id
      have Hfw6 := Lib.hid (Hfw4.out.step hfr6 (fun _ _ h => h))
      have hs6 := hfr6.size
      obtain ⟨O2, hO2⟩ : ∃ O2, O2 = M.map zed ++ L := ⟨_, rfl⟩
      have hO2l : O2.length = M.length + L.length := by rw [hO2]; simp
      have hown6 : w6.ownsRow wr.heap.size 31 7 (.slice av2 (M.length + L.length) cv2) O2.length (mflat O2) := by rw [hO2l, hO2, mflat_append]; exact own2
      obtain ⟨a6, c6, e6, hM6, _⟩ := Mems.of_own hown6 (fun m hm => by
        rw [hO2] at hm
        rcases List.mem_append.1 hm with h | h
        · exact hB6.ok m h
        · exact hL6.ok m h)
      rw [hO2l] at e6
      cases e6
      have hsL := pv_small HLo.out (by omega)
      have hsB := zed_small HMo.out (by omega)
      have hg := v_group av2 cv2 O2 m0 w6 hM6 (by rw [hO2]; exact both_small hsB hsL (by simp; omega)) hm6 (by omega)
      rw [hO2l] at hg
      have HO2 := Lib.hid hO2
      clear hO2 hO2l hown6 own2 gr2 own1 gr1 hg6 hfr6 hM6 hB hLb hE4 hm4 hb1 ha1 hf5
      refine hg.mono ?_
      rintro e w7 ⟨⟨ga, gc, O, ids, rfl, hO, _, _, hids, hOe, hil, _⟩, hf7⟩
      have HO := Lib.hid (And.intro hids hOe)
      have hOl : O.length ≤ 1000 := by have := congrArg List.length hOe; simp only [List.length_map] at this; omega
      have hL7 := hL6.no hf7 (fun _ => id)
      have hB7 := hB6.no hf7 (fun _ => id)
      have hE7 := hE6.no hf7
      have hm7 := hf7.cell hm6 id
      have Hfw7 := Lib.hid (Hfw6.out.step hf7 (fun _ _ h => h))
      have hs7 := hf7.size
      clear hg hids hOe hil hf7 hL6 hB6 hE6 hm6
      have hg := v_group a1 c1 L m0 w7 hL7 hsL hm7 (by omega)
      go_wp2_with fail
      refine hg.mono ?_
      rintro e w8 ⟨⟨pa, pc, P, ids1, rfl, hP, _, hAP, hids1, hPe, hil, hownP⟩, hf8⟩
      have hPl : P.length ≤ 1000 := by have := congrArg List.length hPe; simp only [List.length_map] at this; omega
      have HP := Lib.hid (And.intro hids1 hPe)
      have hB8 := hB7.no hf8 (fun _ => id)
      have hE8 := hE7.no hf8
      have hm8 := hf8.cell hm7 id
      have Hf78 := Lib.hid hf8
      have hs8 := hf8.size
      clear hg hids1 hPe hil hf8 hL7 hB7 hE7 hm7 hP
      have hg := v_group b1 d1 (M.map zed) m0 w8 hB8 hsB hm8 (by omega)
      rw [List.length_map] at hg
      go_wp2_with fail
      refine hg.mono ?_
      rintro e w9 ⟨⟨qa, qc, Q, ids2, rfl, hQ, _, hAQ, hids2, hQe, hil, _⟩, hf9⟩
      have hQl : Q.length ≤ 1000 := by have := congrArg List.length hQe; simp only [List.length_map] at this; omega
      have hOPQ : O.map ArrM.toArr = (P ++ Q).map ArrM.toArr := by
        have h3 := HO.out.1
        rw [HO2.out] at h3
        rw [HO.out.2, HO2.out, List.map_append, HP.out.2, hQe]
        exact apart_groups (fun m hm => (HLo.out m hm).i) (zed_ids HMo.out) HP.out.1 hids2 h3
      have HOPQ := Lib.hid hOPQ
      have hown9 := ownsRow_at hownP hf9 (fun _ _ h => h)
      have hAP9 := hAP.fr hf9 (fun _ _ _ => id)
      have hE9 := hE8.no hf9
      have Hf79 := Lib.hid (Hf78.out.step hf9 (fun _ _ h => h))
      have hs9 := hf9.size
      have hqa := hQ.all
      clear hg hids2 hQe hil hf9 hB8 hE8 hm8 hOPQ hAP hownP
      have Hown9 := Lib.hid hown9
      go_wp2_with (at_builtin; refine wpList_append_src rfl (.tmp 40) (.tmp 42) 67 rfl w7.heap.size 70 i0 (.agg #[.string ByteArray.empty, .slice none 0 0, .int .i64 0, .int .i64 0, .int .i64 0, .slice none 0 0]) 6 88 Tryz.underlying67 hi0 hz0 hz1 hz2 rfl (by decide) _ _ _ rfl hown9 _ Q.length _ (arflat Q) rfl hqa.2 (by rw [arflat_len]) hqa.1 (arflat_one _) (by unfold maxLen; omega) (by omega) (by first | omega | (simp; done) | (simp; omega)) ?_; intro v10 w10 own10 gr10; obtain ⟨av10, cv10, rfl⟩ := ownsRow_slice own10)
      have hgf := Fr.of_grown gr10
      have hAP10 := AFresh.own hAP9 Hown9.out hgf
      have hAQ10 := AFresh.own hAQ Hown9.out hgf
      obtain ⟨R, hR⟩ : ∃ R, R = P ++ Q := ⟨_, rfl⟩
      have hRl : R.length = P.length + Q.length := by rw [hR]; simp
      have hownR : w10.ownsRow w7.heap.size 70 6 (.slice av10 (P.length + Q.length) cv10) R.length (arflat R) := by rw [hRl, hR, arflat_append]; exact own10
      obtain ⟨a9, c9, e9, hRA, _⟩ := Arrs.of_own hownR (fun m hm => by
        rw [hR] at hm
        rcases List.mem_append.1 hm with h | h
        · exact (hAP10 m h).1
        · exact (hAQ10 m h).1)
      rw [hRl] at e9
      cases e9
      have hf710 : Fr (From w7.heap.size) w7 w10 := (Hf79.out.mono (T := From w7.heap.size) (fun _ _ h => h.elim)).step hgf (fun b _ h => ownsRow_blk Hown9.out h)
      have hO10 := hO.keep hf710 (fun b hb h => by unfold From at h; omega)
      have hn710 : Fr No w7 w10 := hf710.mono (fun b hb h => by unfold From at h; omega)
      have hE10 := (hE9.fr hgf (fun b hb h => by have := ownsRow_blk Hown9.out h; unfold From at this; omega))
      have Hfw10 := Lib.hid (Hfw7.out.step hn710 (fun _ _ h => h))
      have hsa := same_arrays_eq ga av10 gc cv10 O R w10 hO10 hRA (by rw [hR]; exact HOPQ.out)
      rw [hRl] at hsa
      clear hR hRl hownR own10 gr10 hgf hAP10 hAQ10 hAP9 hAQ hown9 hqa hQ hRA hf710 hO10 hO hn710 hE9
      refine hsa.mono ?_
      rintro e w11 ⟨rfl, hf11⟩
      have hkn := known34 w11 (hE10.no hf11)
      have Hfw11 := Lib.hid (Hfw10.out.step hf11 (fun _ _ h => h))
      clear hsa hf11 hE10
      go_wp2_with fail
      refine hkn.mono ?_
      rintro e w12 ⟨rfl, hf12⟩
      have Hfin := Lib.hid (Hfw11.out.step hf12 (fun _ _ h => h))
      clear hkn hf12
      go_wp2_with fail
      go_ret
      exact ⟨rfl, Hfin.out⟩
end Go.Proofs.YtmieegcgeolckaaGreatDoor
namespace Go.Proofs.YtmieegcgeolckaaGreatDoor.volumeApart
open Go.ChangeShapes Go.WideShapes Go.ChangeAt Go.RowKit
set_option linter.unusedVariables false

theorem own : ownKnob Tryz.prog.godebug = none := by kernel_rfl
theorem laidOut : laidOutB Tryz.prog = true := by kernel_rfl

set_option maxRecDepth 100000 in
theorem lifted (os : Os) (started : os.Started) (H : Type) (enc : TypeId × Value → H) :
    ReturnsInHanded {} Tryz.checked os 14 .any (fun w args => (Rows.volumeApartSpec.pre enc Tryz.prog Tryz.f14 Rows.volumeApartRow.domain false w args ∧ laidMetH Tryz.prog Rows.volumeApartRow.laid w) ∧ sizedMet enc Tryz.prog Tryz.f14 (OpenSpec.ofChange Rows.volumeApartSpec) false w args)
      (Rows.volumeApartSpec.post enc Tryz.prog Tryz.f14 false true false false) := by
  refine returns_laid_shaped (C := Tryz.checked) (X := fun w _ => laidMetH Tryz.prog Rows.volumeApartRow.laid w) (fun _ _ _ hh h => h.of_heap hh) own started (by kernel_rfl) Tryz.func14
    (ChangeSpec.witness_shaped (enc := enc) (C := Tryz.checked) (os := os) (X := fun w _ => laidMetH Tryz.prog Rows.volumeApartRow.laid w) false (World.laidAll Tryz.prog os Rows.volumeApartRow.laid) #[.slice none 0 0, .slice none 0 0] 8 (World.laidAll_os _ _ _)
      (World.shaped_of_ZipB (by kernel_rfl) (by kernel_rfl)) (by kernel_rfl) (by kernel_rfl) (by kernel_rfl)
      (by rw [MakeChecks.laidMetH_plain _ _ _ (by kernel_rfl)]; exact laidMet_laidAll _ (by kernel_rfl) (by kernel_rfl))) ?_
  intro W base args ds gs before hval0 hW hL hsh
  have hval : ∀ (j : Nat) t v, Tryz.f14.params[j]? = some t → args[j]? = some v → Value.okWide Tryz.prog W .any base t v := hval0
  have hW' := hW
  obtain ⟨p, q, hA0, hV, rfl, hfz, hnd⟩ := hW
  have hA : DataW.TrodAll enc Tryz.prog W 0 (fun _ => true) true Tryz.f14.params.toList args.toList ds p := hA0
  rw [Tryz.params14] at hA hval
  obtain ⟨v0, vs0, d0, ds0, p0, q0, hargs, rfl, rfl, h0, r0⟩ := trodAll_cons hA
  obtain ⟨v1, vs1, d1, ds1, p1, q1, rfl, rfl, rfl, h1, r1⟩ := trodAll_cons r0
  obtain ⟨rfl, rfl, rfl⟩ := trodAll_nil r1
  obtain rfl : args = #[v0, v1] := by cases args; simp_all
  obtain ⟨rfl, rfl⟩ := trodVars_none hV
  obtain ⟨a0, len0, cap0, rfl⟩ := okWide_slice Tryz.underlying22 (hval 0 22 v0 rfl rfl)
  have k0 := h0
  have lt0 : ∀ x ∈ p0, x.block < W.heap.size := by obtain ⟨m, hm⟩ := k0; exact DataW.trod_lt m _ _ _ hm
  obtain ⟨l0, rfl, hl0⟩ : ∃ l : List Int, l.length = len0 ∧ Ints W a0 cap0 l := by
    obtain ⟨fuel, hf⟩ := h0
    rcases open_ints Tryz.underlying22 Tryz.underlying3 (by kernel_rfl) hf with ⟨hcs, _⟩ | ⟨x, l, c, zs, hcs, _, hl, hm, hz, _, hcell, hwz⟩
    · simp [Value.cells] at hcs
      obtain ⟨rfl, rfl, rfl⟩ := hcs
      exact Ints.of_isRow (zs := []) (.inl ⟨rfl, rfl, rfl, rfl⟩)
    · simp [Value.cells] at hcs
      obtain ⟨rfl, rfl, rfl⟩ := hcs
      exact Ints.of_isRow (zs := zs) (.inr ⟨_, rfl, hl, hm, by simpa using hz, hcell, hwz⟩)
  obtain ⟨a1, len1, cap1, rfl⟩ := okWide_slice Tryz.underlying22 (hval 1 22 v1 rfl rfl)
  have k1 := h1
  have lt1 : ∀ x ∈ p1, x.block < W.heap.size := by obtain ⟨m, hm⟩ := k1; exact DataW.trod_lt m _ _ _ hm
  obtain ⟨l1, rfl, hl1⟩ : ∃ l : List Int, l.length = len1 ∧ Ints W a1 cap1 l := by
    obtain ⟨fuel, hf⟩ := h1
    rcases open_ints Tryz.underlying22 Tryz.underlying3 (by kernel_rfl) hf with ⟨hcs, _⟩ | ⟨x, l, c, zs, hcs, _, hl, hm, hz, _, hcell, hwz⟩
    · simp [Value.cells] at hcs
      obtain ⟨rfl, rfl, rfl⟩ := hcs
      exact Ints.of_isRow (zs := []) (.inl ⟨rfl, rfl, rfl, rfl⟩)
    · simp [Value.cells] at hcs
      obtain ⟨rfl, rfl, rfl⟩ := hcs
      exact Ints.of_isRow (zs := zs) (.inr ⟨_, rfl, hl, hm, by simpa using hz, hcell, hwz⟩)
  rw [MakeChecks.laidMetH_plain _ _ _ (by kernel_rfl)] at hL
  have hE := env_of hsh hL
  clear hA0 hval0
  refine (vapart_walk a0 cap0 l0 a1 cap1 l1 W hl0 hl1 hE).mono fun e W' ⟨he, hfr⟩ => ?_
  have bel : Below W.heap.size W W' := hfr.below (Nat.le_refl _) (fun b hb e => e)
  subst he
  exact ⟨_, rfl, _, _, _, [], _, [], hW', trodAll_mk1 (shut_bool Tryz.underlying4 _), (trodAll_cons_mk (Below.trod laidOut (by kernel_rfl) (of_decide_eq_true (by kernel_rfl)) k0 bel lt0) (trodAll_cons_mk (Below.trod laidOut (by kernel_rfl) (of_decide_eq_true (by kernel_rfl)) k1 bel lt1) trodAll_mk0)), rfl, bel.frame _, fun h => by cases h⟩

theorem isNamed : Tryz.pinned.checked.prog.funcNamed Rows.volumeApartRow.func = some 14 := by kernel_rfl
theorem and2 {a b : Bool} (h : a = true) (k : b = true) : (a && b) = true := by rw [h, k]; rfl
theorem c0 : (Rows.volumeApartRow.wf (OpenSpec.ofChange Rows.volumeApartSpec)) = true := by kernel_rfl
theorem c1 : (laidOutB Tryz.pinned.checked.prog) = true := by kernel_rfl
theorem c2 : (mapsRowed Tryz.pinned.checked.prog) = true := by kernel_rfl
theorem c3 : (Tryz.f14.params.all (Tryz.pinned.checked.prog.readableRec ·)) = true := by kernel_rfl
theorem c4 : (namedTie Tryz.pinned.checked.prog Rows.volumeApartRow.named Rows.volumeApartSpec.vars) = true := by kernel_rfl
theorem c5 : ((Rows.volumeApartRow.stops == [])) = true := by kernel_rfl
theorem c6 : ((Tryz.pinned.checked.prog.stops == [])) = true := by kernel_rfl
theorem c7 : ((Rows.volumeApartRow.knobs == [])) = true := by kernel_rfl
theorem c8 : ((Tryz.pinned.checked.prog.stopKnobs == [])) = true := by kernel_rfl
theorem c9 : ((Rows.volumeApartRow.inPlace == Tryz.pinned.checked.prog.inPlace 14)) = true := by kernel_rfl
theorem c10 : ((Rows.volumeApartRow.unfollowed == Tryz.pinned.checked.prog.unfollowed 14)) = true := by kernel_rfl
theorem c11 : ((Rows.volumeApartRow.recurses == Tryz.pinned.checked.prog.recurses 14)) = true := by kernel_rfl
theorem c12 : ((Rows.volumeApartRow.named == Tryz.pinned.checked.prog.varsNamed 14)) = true := by kernel_rfl
theorem c13 : ((Rows.volumeApartRow.maps == (Tryz.f14.params.toList ++ Rows.volumeApartSpec.plain.varTypes Tryz.pinned.checked.prog).any (Tryz.pinned.checked.prog.mapsRec ·))) = true := by kernel_rfl
theorem c14 : ((Rows.volumeApartRow.ifaces == (Tryz.f14.params.toList ++ Rows.volumeApartSpec.plain.varTypes Tryz.pinned.checked.prog).any (Tryz.pinned.checked.prog.ifacesRec ·))) = true := by kernel_rfl
theorem c15 : ((Rows.volumeApartRow.mapsOut == Tryz.pinned.checked.prog.mapsAmong Tryz.f14.resultTypes.toList)) = true := by kernel_rfl
theorem c16 : ((Rows.volumeApartRow.loops == (Tryz.f14.params.toList ++ Rows.volumeApartSpec.plain.varTypes Tryz.pinned.checked.prog).any (Tryz.pinned.checked.prog.loopsFrom ·))) = true := by kernel_rfl
theorem c17 : ((Rows.volumeApartRow.wideKeys == (Tryz.f14.params.toList ++ Rows.volumeApartSpec.plain.varTypes Tryz.pinned.checked.prog ++ Tryz.f14.resultTypes.toList).any (Tryz.pinned.checked.prog.wideKeysFrom ·))) = true := by kernel_rfl
theorem c18 : (Rows.volumeApartSpec.vars.all (Tryz.pinned.checked.prog.varReadable ·)) = true := by kernel_rfl
theorem c19 : (Tryz.f14.resultTypes.all (fun t => Tryz.pinned.checked.prog.readableRec t && decide (t < Tryz.pinned.checked.prog.types.size))) = true := by kernel_rfl
theorem c20 : ((Rows.volumeApartRow.ifacesOut == Tryz.f14.resultTypes.toList.any (Tryz.pinned.checked.prog.ifacesRec ·))) = true := by kernel_rfl
theorem c21 : ((Rows.volumeApartRow.loopsOut == Tryz.f14.resultTypes.toList.any (Tryz.pinned.checked.prog.loopsFrom ·))) = true := by kernel_rfl
theorem c22 : ((Rows.volumeApartRow.plainKeys == Tryz.pinned.checked.prog.plainKeys)) = true := by kernel_rfl
theorem c23 : (Rows.volumeApartRow.shortTexts.isNone) = true := by kernel_rfl
theorem c24 : (Tryz.pinned.checked.prog.stopsHeard) = true := by kernel_rfl
theorem c25 : (Tryz.pinned.checked.prog.mayEnter) = true := by kernel_rfl
theorem c26 : ((Rows.volumeApartRow.lifted == Tryz.pinned.checked.prog.liftsFinal)) = true := by kernel_rfl
theorem c27 : ((Tryz.pinned.checked.prog.make == some Rows.volumeApartRow.make)) = true := by kernel_rfl
theorem c28 : ((Rows.volumeApartRow.kinds == (if Rows.volumeApartRow.domain.isEmpty then [] else Tryz.f14.params.toList.map fun t => match Tryz.pinned.checked.prog.underlying t with | some (.int k) => some k | _ => none))) = true := by kernel_rfl
theorem c29 : ((Rows.volumeApartRow.pinned == Rows.volumeApartRow.pinnedBy)) = true := by kernel_rfl
theorem c30 : ((Rows.volumeApartRow.veiled == (Tryz.f14.params.toList ++ Rows.volumeApartSpec.plain.varTypes Tryz.pinned.checked.prog ++ Tryz.f14.resultTypes.toList).any (Tryz.pinned.checked.prog.veiledRec ·))) = true := by kernel_rfl
theorem c31 : (Rows.volumeApartRow.veiledFits Tryz.pinned.checked.prog Tryz.f14.params.toList (Tryz.f14.params.toList ++ Rows.volumeApartSpec.plain.varTypes Tryz.pinned.checked.prog ++ Tryz.f14.resultTypes.toList)) = true := by kernel_rfl
set_option maxRecDepth 100000 in
theorem closed : joinedFacts Tryz.pinned.checked.prog 14 Tryz.f14 Rows.volumeApartSpec Rows.volumeApartRow = true := by
  unfold joinedFacts
  exact (and2 (and2 (and2 (and2 (and2 (and2 (and2 (and2 (and2 (and2 (and2 (and2 (and2 (and2 (and2 (and2 (and2 (and2 (and2 (and2 (and2 (and2 (and2 (and2 (and2 (and2 (and2 (and2 (and2 (and2 (and2 c0 c1) c2) c3) c4) c5) c6) c7) c8) c9) c10) c11) c12) c13) c14) c15) c16) c17) c18) c19) c20) c21) c22) c23) c24) c25) c26) c27) c28) c29) c30) c31)
theorem inst : Tryz.f14.isInstance Tryz.pinned.checked.prog Rows.volumeApartRow.origin Rows.volumeApartRow.targs := of_decide_eq_true (by kernel_rfl)
theorem wrap : Tryz.f14.isWrapper Tryz.pinned.checked.prog Rows.volumeApartRow.wrapper Rows.volumeApartRow.mainSum := by
  unfold Func.isWrapper; first | (rw [if_pos (by decide +kernel)]; kernel_rfl) | (rw [if_neg (by decide +kernel)]; exact ⟨rfl, rfl⟩)
theorem over : Rows.volumeApartRow.holds Tryz.pinned (OpenSpec.ofChange Rows.volumeApartSpec) :=
  OpenClaim.holds_of_wide 14 Tryz.f14 rfl rfl rfl rfl rfl rfl rfl ⟨rfl, rfl, rfl, rfl, rfl⟩ rfl rfl rfl rfl rfl isNamed Tryz.func14 closed inst wrap
    (fun os started H enc _ => lifted os started H enc)

theorem t1 : Rows.volumeApartRow.wfByText (OpenSpec.ofChange Rows.volumeApartSpec) = true := by kernel_rfl
theorem t2 : Tryz.pinned.checked.prog.mainIs = some ((true, "177d71cd04eb8f01a4c58fd606c8e7c617fc26990225ed53480681c1f264cbbf").1, (true, "177d71cd04eb8f01a4c58fd606c8e7c617fc26990225ed53480681c1f264cbbf").2.toList) := by kernel_rfl
theorem t3 : true = Tryz.pinned.checked.prog.looks [] := by kernel_rfl
theorem t4 : false = Rows.volumeApartRow.goesBy Tryz.pinned.checked.prog := by kernel_rfl
theorem t5 : Tryz.prog.funcNamed "coldplug/coldpluglaw34.VolumeApart" = some 14 := by kernel_rfl
theorem t6 : ([22, 22].all fun u => !Tryz.prog.wantsStandIn u) = true := by kernel_rfl
theorem proved : Rows.VolumeApartCardSaid :=
  Claim7.holds_tied_plain_at .later [] [.data, .data, .data, .data, .sentinel, .sentinel, .pinned, .pinned] true (true, "177d71cd04eb8f01a4c58fd606c8e7c617fc26990225ed53480681c1f264cbbf") true over (fun _ h => by cases h) t1 (fun _ h => by cases h) volumeApart_row_tie rfl ⟨rfl, rfl⟩ t2 rfl
    (fun f fn hf hfn => by
      obtain rfl : f = 14 := Option.some.inj (t5.symm.trans hf) |>.symm
      obtain rfl : fn = Tryz.f14 := (Option.some.inj (Tryz.func14.symm.trans hfn)).symm
      exact ⟨t3, fun j t ht => by
        rw [Tryz.params14] at ht
        have hm : t ∈ [22, 22] := by simpa using Array.mem_of_getElem? ht
        have hall : ([22, 22].all fun u => !Tryz.prog.wantsStandIn u) = true := t6
        exact (show Tryz.prog.wantsStandIn t = false by simpa using List.all_eq_true.1 hall t hm)⟩)
    t4
#print axioms proved
end Go.Proofs.YtmieegcgeolckaaGreatDoor.volumeApart
