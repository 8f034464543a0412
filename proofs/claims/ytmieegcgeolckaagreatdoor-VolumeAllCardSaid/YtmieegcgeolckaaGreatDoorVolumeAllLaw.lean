/- The law VolumeAll returns true at every input and leaves its argument as it was. Conditions: none beyond the given statement's own. -/
import Derived.Test.YtmieegcgeolckaaGreatDoorZV12
import Derived.Test.YtmieegcgeolckaaGreatDoorZV7
import Derived.Test.YtmieegcgeolckaaGreatDoorZV8
import Derived.Test.YtmieegcgeolckaaGreatDoorZV6
import Derived.Test.YtmieegcgeolckaaGreatDoorZV15
import Derived.Test.YtmieegcgeolckaaGreatDoorZV14
import Derived.Test.YtmieegcgeolckaaGreatDoorZV21
import Derived.Test.YtmieegcgeolckaaGreatDoorCards
import Derived.Test.YtmieegcgeolckaaGreatDoorTie
import Derived.WalkKit
import Derived.ProofKit
import Derived.OpenShut
import Derived.ChangeOld
import Derived.Below
import Derived.LaidMore
import Derived.Lay
import Derived.SevenTiedAt
import Derived.Shelf.Vars
import Derived.Stop.LaidErr
import Derived.MakeChecks
namespace Go.Proofs.YtmieegcgeolckaaGreatDoor
open Go.RowKit Go.Maps
set_option linter.unusedVariables false

def pathNames : List ByteArray := [⟨#[97]⟩, ⟨#[98]⟩, ⟨#[115, 100]⟩, ⟨#[112, 49]⟩, ⟨#[97, 95, 98]⟩, ⟨#[120, 33, 121]⟩, ⟨#[65, 45, 49]⟩]
theorem pathNames_size : ∀ s ∈ pathNames, s.size ≤ 3 := by decide
set_option maxRecDepth 100000 in
set_option maxHeartbeats 1000000 in
theorem made_path (B tb k : Nat) (w : World) (ht : Tape w B tb k) (hk : k ≤ 1000000) :
    Calls Tryz.prog 48 #[.pointer (some ⟨tb, 0, none⟩)] w fun e w' => (∃ s k', e = .returned (.string s) ∧ s.size ≤ 100 ∧ k' ≤ k + 4 ∧ Tape w' B tb k') ∧ Fr (Is tb) w w' := by
  go_enter Tryz.func48, Tryz.ntmps48
  go_wp2_with fail
  refine (tape_next B tb k 3 _ ht (by omega) (by omega) (by omega)).mono ?_
  rintro e w1 ⟨r, rfl, hr1, hr2, ht1, hf1⟩
  obtain ⟨r, rfl⟩ := Int.eq_ofNat_of_zero_le hr1
  go_wp2_with fail
  go_loopw [3, 4] (fun v i wr => ∃ (x : ByteArray) (j kk : Nat), v = .string x ∧ i = .int .i64 (j : Int) ∧ j ≤ 3 ∧ x.size + 10 * j ≤ 30 ∧ kk + j ≤ k + 4 ∧ Tape wr B tb kk ∧ Fr (Is tb) w wr) (fun _ i _ => (intOf i).toNat)
  case atStart => exact ⟨⟨#[]⟩, 1 + r, k + 1, rfl, by go_num, by omega, by show 0 + 10 * (1 + r) ≤ 30; omega, by omega, ht1, hf1⟩
  case round =>
    obtain ⟨x, j, kk, rfl, rfl, hj, hx, hkk, htr, hf⟩ := hrel
    by_cases hlt : 0 < j
    · have hlt' : (0 : Int) < j := by omega
      have hs := Strs.of_block (l := pathNames) (block_alloc wr (.cells (pathNames.map Value.string).toArray 9)) (by unfold maxLen pathNames; simp)
      have hfx : Fr No wr (wr.alloc (.cells (pathNames.map Value.string).toArray 9)) := (Fr.refl _ _).alloc _
      have htl := htr.lt
      have hone := tape_one B tb kk (some ⟨wr.heap.size, 0, none⟩) 7 pathNames _ (htr.fr hfx (fun _ _ => id) id) (by omega) hs (by decide) (by decide) (fun ad e => by cases e; show wr.heap.size ≠ tb; omega)
      have Hf := Lib.hid (hf.step hfx (fun _ _ h => h.elim))
      clear hs htr hf hfx
      go_wp2_with fail
      refine hone.mono ?_
      rintro e w2 ⟨⟨y, rfl, hy⟩, ht2, hf2⟩
      have hys := pathNames_size y hy
      have hz1 : ¬ 9223372036854775807 < 1 + y.size := by omega
      have hz2 : ¬ 9223372036854775807 < x.size + (1 + y.size) := by omega
      have Hf2 := Lib.hid (Hf.out.step hf2 (fun _ _ h => h))
      clear hone hy hf2
      go_wp2_with fail
      go_roundw
      case rel => exact ⟨x ++ (⟨#[47]⟩ ++ y), j - 1, kk + 1, rfl, by go_num, by omega, by simp only [ByteArray.size_append]; show x.size + (1 + y.size) + _ ≤ _; omega, by omega, ht2, Hf2.out⟩
      case measure => simp [intOf]; omega
    · obtain rfl : j = 0 := by omega
      go_wp2_with fail
      go_ret
      exact ⟨⟨x, kk, rfl, by omega, by omega, htr⟩, hf⟩
end Go.Proofs.YtmieegcgeolckaaGreatDoor
namespace Go.Proofs.YtmieegcgeolckaaGreatDoor
open Go.RowKit Go.Maps
set_option linter.unusedVariables false

/-- A layer that layers makes. -/
structure LayOk (m : Mem) : Prop where
  p : m.p.size ≤ 100
  i : m.i.size ≤ 2
  n : m.l.length ≤ 1
  l : ∀ x ∈ m.l, x.size ≤ 5
def layIds : List ByteArray := [⟨#[97]⟩, ⟨#[98]⟩, ⟨#[99]⟩, ⟨#[99, 49]⟩]
def layIn : List ByteArray := [⟨#[]⟩, ⟨#[102, 115, 58, 120, 58]⟩, ⟨#[102, 115, 58, 121, 58]⟩]
def layPaths : List ByteArray := [⟨#[120]⟩, ⟨#[]⟩, ⟨#[47, 97, 47]⟩, ⟨#[47, 97, 32, 98]⟩]
theorem layIds_size : ∀ s ∈ layIds, s.size ≤ 2 := by decide
theorem layIn_size : ∀ s ∈ layIn, s.size ≤ 5 := by decide
theorem layPaths_size : ∀ s ∈ layPaths, s.size ≤ 4 := by decide
/-- What layers answers. -/
def LayRes (w : World) (B tb k : Nat) (e : Ending) (w' : World) : Prop :=
  ∃ (L : List Mem) (a' : Option Addr) (c' k' : Nat), e = .returned (.slice a' L.length c') ∧ Mems w' a' c' L ∧ (∀ ad, a' = some ad → w.heap.size ≤ ad.block) ∧ MFresh w' w.heap.size L ∧ (∀ m ∈ L, LayOk m) ∧ L.length ≤ 8 ∧ k' ≤ k + 100 ∧ Tape w' B tb k'

set_option maxRecDepth 100000 in
set_option maxHeartbeats 8000000 in
theorem made_layers (B tb k : Nat) (w : World) (ht : Tape w B tb k) (hk : k ≤ 100000) :
    Calls Tryz.prog 21 #[.pointer (some ⟨tb, 0, none⟩), .int .i64 8] w fun e w' => LayRes w B tb k e w' ∧ Fr (Is tb) w w' := by
  obtain ⟨i0, hi0, hz0, hz1, hz2⟩ := info_parts infoM
  have htl := ht.lt
  have hBt := ht.le
  go_enter Tryz.func21, Tryz.ntmps21
  go_wp2_with fail
  refine (tape_next B tb k 9 _ ht (by omega) (by omega) (by omega)).mono ?_
  rintro e w1 ⟨r, rfl, hr1, hr2, ht1, hf1⟩
  obtain ⟨r, rfl⟩ := Int.eq_ofNat_of_zero_le hr1
  have hf1' : Fr (TB tb w.heap.size) w w1 := hf1.mono (fun b _ h => .inl h)
  go_wp2_with fail
  go_loopw [5, 6] (fun v i wr => ∃ (L : List Mem) (av : Option Addr) (cv j kk : Nat), v = .slice av L.length cv ∧ i = .int .i64 (j : Int) ∧ L.length + j ≤ 8 ∧ kk + 10 * j ≤ k + 100 ∧ wr.ownsRow w.heap.size 31 7 (.slice av L.length cv) L.length (mflat L) ∧ MFresh wr w.heap.size L ∧ Hid (∀ m ∈ L, LayOk m) ∧ Tape wr B tb kk ∧ Fr (TB tb w.heap.size) w wr) (fun _ i _ => (intOf i).toNat)
  case atStart => exact ⟨[], none, 0, r, k + 1, rfl, rfl, by simp; omega, by omega, World.ownsRow_nil _ _ _ _, fun m hm => by simp at hm, fun m hm => by simp at hm, ht1, hf1'⟩
  case round =>
    obtain ⟨L, av, cv, j, kk, rfl, rfl, hLj, hkk, hown, hMF, Hsm, htr, hf⟩ := hrel
    by_cases hlt : 0 < j
    · have hlt' : (0 : Int) < j := by omega
      have hpath := made_path B tb kk wr htr (by omega)
      have hsr := hf.size
      clear htr
      go_wp2_with fail
      refine hpath.mono ?_
      rintro e w2 ⟨⟨p, k2, rfl, hp, hk2, ht2⟩, hf2⟩
      have hown2 := ownsRow_at hown hf2 (fun b h e => by have h1 := ownsRow_blk hown h; unfold From at h1; unfold Is at e; omega)
      have hMF2 := hMF.fr hf2 (fun b h1 h2 e => by unfold Is at e; omega)
      have hff2 : Fr (TB tb w.heap.size) w w2 := hf.step hf2 (fun b _ h => .inl h)
      have hs2 := hf2.size
      clear hpath hf2 hown hMF hf
      have hS2 := Strs.of_block (l := layIds) (block_alloc w2 (.cells (layIds.map Value.string).toArray 9)) (by unfold maxLen layIds; simp)
      have hx2 : Fr No w2 (w2.alloc (.cells (layIds.map Value.string).toArray 9)) := (Fr.refl _ _).alloc _
      have hone := tape_one B tb k2 (some ⟨w2.heap.size, 0, none⟩) 4 layIds _ (ht2.fr hx2 (fun _ _ => id) id) (by omega) hS2 (by decide) (by decide) (fun ad e => by cases e; show w2.heap.size ≠ tb; omega)
      go_wp2_with fail
      refine hone.mono ?_
      rintro e w3 ⟨⟨y, rfl, hy⟩, ht3, hf3⟩
      have hys := layIds_size y hy
      have hf23 : Fr (Is tb) w2 w3 := (hx2.mono (fun _ _ h => h.elim)).step hf3 (fun _ _ h => h)
      clear hone hS2 hx2 hf3 ht2 hy
      go_wp2_with fail
      refine (tape_next B tb (k2 + 1) 3 _ ht3 (by omega) (by omega) (by omega)).mono ?_
      rintro e w4 ⟨rd, rfl, hrd1, hrd2, ht4, hf4⟩
      have hf24 := hf23.step hf4 (fun _ _ h => h)
      have hs4 := hf24.size
      clear hf23 hf4 ht3
      have hS4 := Strs.of_block (l := layIn) (block_alloc w4 (.cells (layIn.map Value.string).toArray 9)) (by unfold maxLen layIn; simp)
      have hx4 : Fr No w4 (w4.alloc (.cells (layIn.map Value.string).toArray 9)) := (Fr.refl _ _).alloc _
      have hone := tape_one B tb (k2 + 1 + 1) (some ⟨w4.heap.size, 0, none⟩) 3 layIn _ (ht4.fr hx4 (fun _ _ => id) id) (by omega) hS4 (by decide) (by decide) (fun ad e => by cases e; show w4.heap.size ≠ tb; omega)
      go_wp2_with fail
      refine hone.mono ?_
      rintro e w6 ⟨⟨z, rfl, hz⟩, ht6, hf6⟩
      have hzs := layIn_size z hz
      have hf26 : Fr (Is tb) w2 w6 := (hf24.step hx4 (fun _ _ h => h.elim)).step hf6 (fun _ _ h => h)
      clear hone hS4 hx4 hf6 ht4 hz hf24
      have hs6 := hf26.size
      go_upto_region 6 with (fail)
      have hx7 : Fr No w6 ((w6.alloc (.cells #[.string z] 9)).alloc (.cells #[.string p, .string y, .int .i64 rd, .int .i64 0, .int .i64 0, .int .i64 0, .slice (some ⟨w6.heap.size, 0, none⟩) 1 1] 31)) := ((Fr.refl _ _).alloc _).alloc _
      have q1 := block_alloc1 w6 (.cells #[.string z] 9) (.cells #[.string p, .string y, .int .i64 rd, .int .i64 0, .int .i64 0, .int .i64 0, .slice (some ⟨w6.heap.size, 0, none⟩) 1 1] 31)
      have q2 := block_alloc2 w6 (.cells #[.string z] 9) (.cells #[.string p, .string y, .int .i64 rd, .int .i64 0, .int .i64 0, .int .i64 0, .slice (some ⟨w6.heap.size, 0, none⟩) 1 1] 31)
      have hs7 : ((w6.alloc (.cells #[.string z] 9)).alloc (.cells #[.string p, .string y, .int .i64 rd, .int .i64 0, .int .i64 0, .int .i64 0, .slice (some ⟨w6.heap.size, 0, none⟩) 1 1] 31)).heap.size = w6.heap.size + 2 := by simp
      generalize (w6.alloc (.cells #[.string z] 9)).alloc (.cells #[.string p, .string y, .int .i64 rd, .int .i64 0, .int .i64 0, .int .i64 0, .slice (some ⟨w6.heap.size, 0, none⟩) 1 1] 31) = W7 at *
      have hs7' : w6.heap.size + 2 ≤ W7.heap.size := by omega
      clear hs7
      have hf27 : Fr (Is tb) w2 W7 := hf26.step hx7 (fun _ _ h => h.elim)
      have ht7 := ht6.fr hx7 (fun _ _ => id) id
      clear ht6 hx7 hf26
      go_wp2_with fail
      refine (tape_next B tb (k2 + 1 + 1 + 1) 14 _ ht7 (by omega) (by omega) (by omega)).mono ?_
      rintro e w8 ⟨r8, rfl, hr81, hr82, ht8, hf8⟩
      have q1' := hf8.heap q1 (fun e => by unfold Is at e; omega)
      have q2' := hf8.heap q2 (fun e => by unfold Is at e; omega)
      have hf28 := hf27.step hf8 (fun _ _ h => h)
      have hs8 := hf8.size
      have hown8 := ownsRow_at hown2 hf28 (fun b h e => by have h1 := ownsRow_blk hown2 h; unfold From at h1; unfold Is at e; omega)
      have hMF8 := hMF2.fr hf28 (fun b h1 h2 e => by unfold Is at e; omega)
      have hff8 : Fr (TB tb w.heap.size) w w8 := hff2.step hf28 (fun b _ h => .inl h)
      have hnb : ∀ b, (Value.slice av L.length cv).ownBlock = some b → b < w2.heap.size := fun b h => ownsRow_lt hown2 h
      have Hnb := Lib.hid hnb
      have hB8 : BlkT w8 (some ⟨w6.heap.size, 0, none⟩) 9 := fun ad e => by cases e; exact ⟨_, q1'⟩
      have hS8 := Strs.of_block (l := [z]) q1' (by unfold maxLen; simp)
      have Hf28 := Lib.hid hf28
      have Hown2 := Lib.hid hown2
      have HMF2 := Lib.hid hMF2
      have Hff2 := Lib.hid hff2
      clear hf27 hf8 q1 q2 hown2 hMF2 hff2 hf28 ht7 hnb
      rcases hr0 : (r8 == 0) with _ | _
      · rcases hr1' : (r8 == 1) with _ | _
        · -- nothing more
          have Hf8 := Lib.hid hff8
          have Hown8 := Lib.hid hown8
          have HMF8 := Lib.hid hMF8
          have Ht8 := Lib.hid ht8
          have HS8 := Lib.hid hS8
          have HB8 := Lib.hid hB8
          clear hff8 hown8 hMF8 ht8 hS8 hB8 q1'
          have y0 : w8.cell? ⟨w6.heap.size + 1, 0, none⟩ = some (.string p) := cell_of_block q2' 0
          have y1 : w8.cell? ⟨w6.heap.size + 1, 1, none⟩ = some (.string y) := cell_of_block q2' 1
          have y2 : w8.cell? ⟨w6.heap.size + 1, 2, none⟩ = some (.int .i64 rd) := cell_of_block q2' 2
          have y3 : w8.cell? ⟨w6.heap.size + 1, 3, none⟩ = some (.int .i64 0) := cell_of_block q2' 3
          have y4 : w8.cell? ⟨w6.heap.size + 1, 4, none⟩ = some (.int .i64 0) := cell_of_block q2' 4
          have y5 : w8.cell? ⟨w6.heap.size + 1, 5, none⟩ = some (.int .i64 0) := cell_of_block q2' 5
          have y6 : w8.cell? ⟨w6.heap.size + 1, 6, none⟩ = some (.slice (some ⟨w6.heap.size, 0, none⟩) 1 1) := cell_of_block q2' 6
          have hsz := Hf8.out.size
          clear q2'
          go_wp2_with (at_builtin; refine wpList_append_own _ rfl _ _ 36 rfl w.heap.size 31 i0 (.agg #[.string ByteArray.empty, .string ByteArray.empty, .int .i64 0, .int .i64 0, .int .i64 0, .int .i64 0, .slice none 0 0]) 7 88 Tryz.underlying36 hi0 hz0 hz1 hz2 rfl (by decide) _ _ _ rfl (Hown8.out.alloc _) ⟨w8.heap.size, 0, none⟩ 1 1 (Mem.vals ⟨p, y, rd, 0, 0, 0, (some ⟨w6.heap.size, 0, none⟩), [z], 1⟩).toList rfl rfl (cells_new _ (Mem.vals ⟨p, y, rd, 0, 0, 0, (some ⟨w6.heap.size, 0, none⟩), [z], 1⟩) _ rfl) (mvals_one _) (by unfold maxLen; omega) (by omega) (by first | omega | (simp; done) | (simp; omega)) ?_; intro v' w9 hown9 hgrow9 _; obtain ⟨av', cv', rfl⟩ := ownsRow_slice hown9)
          have hal : Fr No w8 (w8.alloc (.cells #[.string p, .string y, .int .i64 rd, .int .i64 0, .int .i64 0, .int .i64 0, .slice (some ⟨w6.heap.size, 0, none⟩) 1 1] 31)) := (Fr.refl _ _).alloc _
          have howa := Hown8.out.alloc (.cells #[.string p, .string y, .int .i64 rd, .int .i64 0, .int .i64 0, .int .i64 0, .slice (some ⟨w6.heap.size, 0, none⟩) 1 1] 31)
          have hgf : Fr (fun b => (Value.slice av L.length cv).ownBlock = some b) (w8.alloc (.cells #[.string p, .string y, .int .i64 rd, .int .i64 0, .int .i64 0, .int .i64 0, .slice (some ⟨w6.heap.size, 0, none⟩) 1 1] 31)) w9 := Fr.of_grown hgrow9
          have hMF9 : MFresh w9 w.heap.size (L ++ [⟨p, y, rd, 0, 0, 0, (some ⟨w6.heap.size, 0, none⟩), [z], 1⟩]) :=
            MFresh.own (MFresh.snoc (HMF8.out.fr hal (fun _ _ _ => id)) (HS8.out.no hal (fun _ => id)) (HB8.out.fr hal (fun _ _ => id)) (fun ad e => by cases e; show w.heap.size ≤ w6.heap.size; omega)) howa hgf
          have hsm9 : ∀ m ∈ L ++ [(⟨p, y, rd, 0, 0, 0, (some ⟨w6.heap.size, 0, none⟩), [z], 1⟩ : Mem)], LayOk m := fun m hm => by
            rcases List.mem_append.1 hm with h | h
            · exact Hsm.out m h
            · obtain rfl : m = ⟨p, y, rd, 0, 0, 0, (some ⟨w6.heap.size, 0, none⟩), [z], 1⟩ := by simpa using h
              exact ⟨hp, hys, Nat.le_refl _, fun x hx => by obtain rfl : x = z := (by simpa using hx); exact hzs⟩
          have ht9 := (Ht8.out.fr hal (fun _ _ => id) id).fr hgf (fun b hb h => by have h2 := ownsRow_blk howa h; unfold From at h2; omega) (fun h => by have h2 := ownsRow_blk howa h; unfold From at h2; omega)
          have hf9 : Fr (TB tb w.heap.size) w w9 := (Hf8.out.step hal (fun _ _ h => h.elim)).step hgf (fun b _ h => .inr (ownsRow_blk howa h))
          have HF := Lib.hid (And.intro hown9 (And.intro hMF9 (And.intro hsm9 (And.intro ht9 hf9))))
          clear hown9 hMF9 hsm9 ht9 hf9 hgf howa hal hgrow9
          go_roundw
          case rel => exact ⟨L ++ [⟨p, y, rd, 0, 0, 0, (some ⟨w6.heap.size, 0, none⟩), [z], 1⟩], av', cv', j - 1, k2 + 1 + 1 + 1 + 1, by simp, by go_num, by simp; omega, by omega, by rw [List.length_append, mflat_snoc]; exact HF.out.1, HF.out.2.1, Lib.hid HF.out.2.2.1, HF.out.2.2.2.1, HF.out.2.2.2.2⟩
          case measure => simp [intOf]; omega
        · -- another path
          have hS9 := Strs.of_block (l := layPaths) (block_alloc w8 (.cells (layPaths.map Value.string).toArray 9)) (by unfold maxLen layPaths; simp)
          have hx9 : Fr No w8 (w8.alloc (.cells (layPaths.map Value.string).toArray 9)) := (Fr.refl _ _).alloc _
          have hone := tape_one B tb (k2 + 1 + 1 + 1 + 1) (some ⟨w8.heap.size, 0, none⟩) 4 layPaths _ (ht8.fr hx9 (fun _ _ => id) id) (by omega) hS9 (by decide) (by decide) (fun ad e => by cases e; show w8.heap.size ≠ tb; omega)
          have q3 := hx9.heap q2' id
          have q3' := hx9.heap q1' id
          have hfx : Fr (TB tb w2.heap.size) w2 (w8.alloc (.cells (layPaths.map Value.string).toArray 9)) := (Hf28.out.mono (fun b _ h => .inl h)).step hx9 (fun _ _ h => h.elim)
          have hxs : (w8.alloc (.cells (layPaths.map Value.string).toArray 9)).heap.size = w8.heap.size + 1 := by simp
          clear hx9 hS9 hff8 hown8 hMF8 q1' q2' ht8 hS8 hB8
          go_wp2_with fail
          refine hone.mono ?_
          rintro e wa ⟨⟨s, rfl, hs⟩, hta, hfa⟩
          have hss := layPaths_size s hs
          have q4 := hfa.heap q3 (fun e => by unfold Is at e; omega)
          have q4' := hfa.heap q3' (fun e => by unfold Is at e; omega)
          have hsa := hfa.size
          have q5 := block_setCell q4 0 (.string s)
          have z0 : wa.frozen? ⟨w6.heap.size + 1, 0, none⟩ = false := free_of_block q4 0
          have z1 : wa.cell? ⟨w6.heap.size + 1, 0, none⟩ = some (.string p) := cell_of_block q4 0
          have hfs : Fr (Is (w6.heap.size + 1)) wa (wa.setCell ⟨w6.heap.size + 1, 0, none⟩ (.string s)) := Fr.setCell (S := Is (w6.heap.size + 1)) (p := ⟨w6.heap.size + 1, 0, none⟩) (Fr.refl _ _) (fun _ => rfl) _
          have q5' := hfs.heap q4' (fun e => by unfold Is at e; omega)
          have htb := hta.fr hfs (fun b hb e => by unfold Is at e; omega) (fun e => by unfold Is at e; omega)
          have hf2b : Fr (TB tb w2.heap.size) w2 (wa.setCell ⟨w6.heap.size + 1, 0, none⟩ (.string s)) := (hfx.step hfa (fun b _ h => .inl h)).step hfs (fun b _ h => by unfold Is at h; exact .inr (by omega))
          clear hone q3 q3' q4 q4' hs hfx hfa hfs hta hxs
          go_upto_region 11 with (fail)
          generalize wa.setCell ⟨w6.heap.size + 1, 0, none⟩ (.string s) = Wb at *
          have Hown9 := Lib.hid (ownsRow_at Hown2.out hf2b (fun b h e => by have h1 := ownsRow_blk Hown2.out h; have h2 := ownsRow_lt Hown2.out h; unfold From at h1; unfold TB at e; omega))
          have HMF9 := Lib.hid (HMF2.out.fr hf2b (fun b h1 h2 e => by unfold TB at e; omega))
          have Hf9 := Lib.hid (Hff2.out.step hf2b (fun b _ h => by unfold TB at h ⊢; omega))
          have HB9 : Hid (BlkT Wb (some ⟨w6.heap.size, 0, none⟩) 9) := fun ad e => by cases e; exact ⟨_, q5'⟩
          have HS9 : Hid (Strs Wb (some ⟨w6.heap.size, 0, none⟩) 1 [z]) := Strs.of_block (l := [z]) q5' (by unfold maxLen; simp)
          have Ht9 := Lib.hid htb
          simp at q5
          clear z0 z1 hf2b q5' htb
          have y0 : Wb.cell? ⟨w6.heap.size + 1, 0, none⟩ = some (.string s) := cell_of_block q5 0
          have y1 : Wb.cell? ⟨w6.heap.size + 1, 1, none⟩ = some (.string y) := cell_of_block q5 1
          have y2 : Wb.cell? ⟨w6.heap.size + 1, 2, none⟩ = some (.int .i64 rd) := cell_of_block q5 2
          have y3 : Wb.cell? ⟨w6.heap.size + 1, 3, none⟩ = some (.int .i64 0) := cell_of_block q5 3
          have y4 : Wb.cell? ⟨w6.heap.size + 1, 4, none⟩ = some (.int .i64 0) := cell_of_block q5 4
          have y5 : Wb.cell? ⟨w6.heap.size + 1, 5, none⟩ = some (.int .i64 0) := cell_of_block q5 5
          have y6 : Wb.cell? ⟨w6.heap.size + 1, 6, none⟩ = some (.slice (some ⟨w6.heap.size, 0, none⟩) 1 1) := cell_of_block q5 6
          have hsz := Hf9.out.size
          clear q5
          go_wp2_with (at_builtin; refine wpList_append_own _ rfl _ _ 36 rfl w.heap.size 31 i0 (.agg #[.string ByteArray.empty, .string ByteArray.empty, .int .i64 0, .int .i64 0, .int .i64 0, .int .i64 0, .slice none 0 0]) 7 88 Tryz.underlying36 hi0 hz0 hz1 hz2 rfl (by decide) _ _ _ rfl (Hown9.out.alloc _) ⟨Wb.heap.size, 0, none⟩ 1 1 (Mem.vals ⟨s, y, rd, 0, 0, 0, (some ⟨w6.heap.size, 0, none⟩), [z], 1⟩).toList rfl rfl (cells_new _ (Mem.vals ⟨s, y, rd, 0, 0, 0, (some ⟨w6.heap.size, 0, none⟩), [z], 1⟩) _ rfl) (mvals_one _) (by unfold maxLen; omega) (by omega) (by first | omega | (simp; done) | (simp; omega)) ?_; intro v' w9 hown9 hgrow9 _; obtain ⟨av', cv', rfl⟩ := ownsRow_slice hown9)
          have hal : Fr No Wb (Wb.alloc (.cells #[.string s, .string y, .int .i64 rd, .int .i64 0, .int .i64 0, .int .i64 0, .slice (some ⟨w6.heap.size, 0, none⟩) 1 1] 31)) := (Fr.refl _ _).alloc _
          have howa := Hown9.out.alloc (.cells #[.string s, .string y, .int .i64 rd, .int .i64 0, .int .i64 0, .int .i64 0, .slice (some ⟨w6.heap.size, 0, none⟩) 1 1] 31)
          have hgf : Fr (fun b => (Value.slice av L.length cv).ownBlock = some b) (Wb.alloc (.cells #[.string s, .string y, .int .i64 rd, .int .i64 0, .int .i64 0, .int .i64 0, .slice (some ⟨w6.heap.size, 0, none⟩) 1 1] 31)) w9 := Fr.of_grown hgrow9
          have hMF9 : MFresh w9 w.heap.size (L ++ [⟨s, y, rd, 0, 0, 0, (some ⟨w6.heap.size, 0, none⟩), [z], 1⟩]) :=
            MFresh.own (MFresh.snoc (HMF9.out.fr hal (fun _ _ _ => id)) (HS9.out.no hal (fun _ => id)) (HB9.out.fr hal (fun _ _ => id)) (fun ad e => by cases e; show w.heap.size ≤ w6.heap.size; omega)) howa hgf
          have hsm9 : ∀ m ∈ L ++ [(⟨s, y, rd, 0, 0, 0, (some ⟨w6.heap.size, 0, none⟩), [z], 1⟩ : Mem)], LayOk m := fun m hm => by
            rcases List.mem_append.1 hm with h | h
            · exact Hsm.out m h
            · obtain rfl : m = ⟨s, y, rd, 0, 0, 0, (some ⟨w6.heap.size, 0, none⟩), [z], 1⟩ := by simpa using h
              exact ⟨by show s.size ≤ 100; omega, hys, Nat.le_refl _, fun x hx => by obtain rfl : x = z := (by simpa using hx); exact hzs⟩
          have ht9 := (Ht9.out.fr hal (fun _ _ => id) id).fr hgf (fun b hb h => by have h2 := ownsRow_blk howa h; unfold From at h2; omega) (fun h => by have h2 := ownsRow_blk howa h; unfold From at h2; omega)
          have hf9 : Fr (TB tb w.heap.size) w w9 := (Hf9.out.step hal (fun _ _ h => h.elim)).step hgf (fun b _ h => .inr (ownsRow_blk howa h))
          have HF := Lib.hid (And.intro hown9 (And.intro hMF9 (And.intro hsm9 (And.intro ht9 hf9))))
          clear hown9 hMF9 hsm9 ht9 hf9 hgf howa hal hgrow9
          go_roundw
          case rel => exact ⟨L ++ [⟨s, y, rd, 0, 0, 0, (some ⟨w6.heap.size, 0, none⟩), [z], 1⟩], av', cv', j - 1, k2 + 1 + 1 + 1 + 1 + 1, by simp, by go_num, by simp; omega, by omega, by rw [List.length_append, mflat_snoc]; exact HF.out.1, HF.out.2.1, Lib.hid HF.out.2.2.1, HF.out.2.2.2.1, HF.out.2.2.2.2⟩
          case measure => simp [intOf]; omega
      · -- no inner ones
          have q5 := block_setCell q2' 6 (.slice none 0 0)
          have z0 : w8.frozen? ⟨w6.heap.size + 1, 6, none⟩ = false := free_of_block q2' 6
          have z1 : w8.cell? ⟨w6.heap.size + 1, 6, none⟩ = some (.slice (some ⟨w6.heap.size, 0, none⟩) 1 1) := cell_of_block q2' 6
          have hfs : Fr (Is (w6.heap.size + 1)) w8 (w8.setCell ⟨w6.heap.size + 1, 6, none⟩ (.slice none 0 0)) := Fr.setCell (S := Is (w6.heap.size + 1)) (p := ⟨w6.heap.size + 1, 6, none⟩) (Fr.refl _ _) (fun _ => rfl) _
          have htb := ht8.fr hfs (fun b hb e => by unfold Is at e; omega) (fun e => by unfold Is at e; omega)
          have hf2b : Fr (TB tb w2.heap.size) w2 (w8.setCell ⟨w6.heap.size + 1, 6, none⟩ (.slice none 0 0)) := (Hf28.out.mono (fun b _ h => .inl h)).step hfs (fun b _ h => by unfold Is at h; exact .inr (by omega))
          clear hff8 hown8 hMF8 q1' q2' ht8 hS8 hB8 hfs
          go_upto_region 11 with (fail)
          generalize w8.setCell ⟨w6.heap.size + 1, 6, none⟩ (.slice none 0 0) = Wb at *
          have Hown7 := Lib.hid (ownsRow_at Hown2.out hf2b (fun b h e => by have h1 := ownsRow_blk Hown2.out h; have h2 := ownsRow_lt Hown2.out h; unfold From at h1; unfold TB at e; omega))
          have HMF7 := Lib.hid (HMF2.out.fr hf2b (fun b h1 h2 e => by unfold TB at e; omega))
          have Hf7 := Lib.hid (Hff2.out.step hf2b (fun b _ h => by unfold TB at h ⊢; omega))
          have Ht7 := Lib.hid htb
          simp at q5
          clear z0 z1 hf2b htb
          have y0 : Wb.cell? ⟨w6.heap.size + 1, 0, none⟩ = some (.string p) := cell_of_block q5 0
          have y1 : Wb.cell? ⟨w6.heap.size + 1, 1, none⟩ = some (.string y) := cell_of_block q5 1
          have y2 : Wb.cell? ⟨w6.heap.size + 1, 2, none⟩ = some (.int .i64 rd) := cell_of_block q5 2
          have y3 : Wb.cell? ⟨w6.heap.size + 1, 3, none⟩ = some (.int .i64 0) := cell_of_block q5 3
          have y4 : Wb.cell? ⟨w6.heap.size + 1, 4, none⟩ = some (.int .i64 0) := cell_of_block q5 4
          have y5 : Wb.cell? ⟨w6.heap.size + 1, 5, none⟩ = some (.int .i64 0) := cell_of_block q5 5
          have y6 : Wb.cell? ⟨w6.heap.size + 1, 6, none⟩ = some (.slice none 0 0) := cell_of_block q5 6
          have hsz := Hf7.out.size
          clear q5
          go_wp2_with (at_builtin; refine wpList_append_own _ rfl _ _ 36 rfl w.heap.size 31 i0 (.agg #[.string ByteArray.empty, .string ByteArray.empty, .int .i64 0, .int .i64 0, .int .i64 0, .int .i64 0, .slice none 0 0]) 7 88 Tryz.underlying36 hi0 hz0 hz1 hz2 rfl (by decide) _ _ _ rfl (Hown7.out.alloc _) ⟨Wb.heap.size, 0, none⟩ 1 1 (Mem.vals ⟨p, y, rd, 0, 0, 0, none, [], 0⟩).toList rfl rfl (cells_new _ (Mem.vals ⟨p, y, rd, 0, 0, 0, none, [], 0⟩) _ rfl) (mvals_one _) (by unfold maxLen; omega) (by omega) (by first | omega | (simp; done) | (simp; omega)) ?_; intro v' w9 hown9 hgrow9 _; obtain ⟨av', cv', rfl⟩ := ownsRow_slice hown9)
          have hal : Fr No Wb (Wb.alloc (.cells #[.string p, .string y, .int .i64 rd, .int .i64 0, .int .i64 0, .int .i64 0, .slice none 0 0] 31)) := (Fr.refl _ _).alloc _
          have howa := Hown7.out.alloc (.cells #[.string p, .string y, .int .i64 rd, .int .i64 0, .int .i64 0, .int .i64 0, .slice none 0 0] 31)
          have hgf : Fr (fun b => (Value.slice av L.length cv).ownBlock = some b) (Wb.alloc (.cells #[.string p, .string y, .int .i64 rd, .int .i64 0, .int .i64 0, .int .i64 0, .slice none 0 0] 31)) w9 := Fr.of_grown hgrow9
          have hMF9 : MFresh w9 w.heap.size (L ++ [⟨p, y, rd, 0, 0, 0, none, [], 0⟩]) :=
            MFresh.own (MFresh.snoc (HMF7.out.fr hal (fun _ _ _ => id)) (Strs.nil _) (BlkT.none _ _) (fun ad e => by cases e)) howa hgf
          have hsm9 : ∀ m ∈ L ++ [(⟨p, y, rd, 0, 0, 0, none, [], 0⟩ : Mem)], LayOk m := fun m hm => by
            rcases List.mem_append.1 hm with h | h
            · exact Hsm.out m h
            · obtain rfl : m = ⟨p, y, rd, 0, 0, 0, none, [], 0⟩ := by simpa using h
              exact ⟨hp, hys, Nat.zero_le _, fun x hx => by simp at hx⟩
          have ht9 := (Ht7.out.fr hal (fun _ _ => id) id).fr hgf (fun b hb h => by have h2 := ownsRow_blk howa h; unfold From at h2; omega) (fun h => by have h2 := ownsRow_blk howa h; unfold From at h2; omega)
          have hf9 : Fr (TB tb w.heap.size) w w9 := (Hf7.out.step hal (fun _ _ h => h.elim)).step hgf (fun b _ h => .inr (ownsRow_blk howa h))
          have HF := Lib.hid (And.intro hown9 (And.intro hMF9 (And.intro hsm9 (And.intro ht9 hf9))))
          clear hown9 hMF9 hsm9 ht9 hf9 hgf howa hal hgrow9
          go_roundw
          case rel => exact ⟨L ++ [⟨p, y, rd, 0, 0, 0, none, [], 0⟩], av', cv', j - 1, k2 + 1 + 1 + 1 + 1, by simp, by go_num, by simp; omega, by omega, by rw [List.length_append, mflat_snoc]; exact HF.out.1, HF.out.2.1, Lib.hid HF.out.2.2.1, HF.out.2.2.2.1, HF.out.2.2.2.2⟩
          case measure => simp [intOf]; omega
    · obtain rfl : j = 0 := by omega
      obtain ⟨a', c', hv, hR, hfresh⟩ := Mems.of_own hown (fun m hm => (hMF m hm).1)
      cases hv
      have H := Lib.hid (And.intro hR (And.intro hfresh (And.intro hMF (And.intro htr (hf.mono (T := Is tb) (fun b hb h => by unfold TB at h; unfold Is; omega))))))
      clear hown hMF htr hf hR hfresh
      go_wp2_with fail
      go_ret
      exact ⟨⟨L, _, _, kk, rfl, H.out.1, H.out.2.1, H.out.2.2.1, Hsm.out, by omega, by omega, H.out.2.2.2.1⟩, H.out.2.2.2.2⟩
end Go.Proofs.YtmieegcgeolckaaGreatDoor
namespace Go.Proofs.YtmieegcgeolckaaGreatDoor
open Go.RowKit Go.Maps
set_option linter.unusedVariables false

def pvIds : List ByteArray := [⟨#[118]⟩, ⟨#[119]⟩, ⟨#[118, 45, 49]⟩]
theorem pvIds_size : ∀ s ∈ pvIds, s.size ≤ 3 := by decide
structure PvOk (m : Mem) : Prop where
  p : m.p.size ≤ 100
  i : m.i ∈ pvIds
  s : -1 ≤ m.s ∧ m.s ≤ 19
  t : -1 ≤ m.t ∧ m.t ≤ 19
  n : m.l.length ≤ 2
  l : ∀ x ∈ m.l, x.size ≤ 5
/-- What pv answers. -/
def PvRes (w : World) (B tb k : Nat) (e : Ending) (w' : World) : Prop :=
  ∃ (m : Mem) (k' : Nat), e = .returned (.agg m.vals) ∧ (Strs w' m.a m.c m.l ∧ BlkT w' m.a 9) ∧ (∀ ad, m.a = some ad → w.heap.size ≤ ad.block) ∧ PvOk m ∧ k' ≤ k + 16 ∧ Tape w' B tb k'
def TM (mb tb B4 : Nat) : Nat → Prop := fun b => b = mb ∨ b = tb ∨ B4 ≤ b

set_option maxRecDepth 100000 in
set_option maxHeartbeats 8000000 in
theorem made_pv (B tb k : Nat) (w : World) (ht : Tape w B tb k) (hk : k ≤ 100000) :
    Calls Tryz.prog 67 #[.pointer (some ⟨tb, 0, none⟩)] w fun e w' => PvRes w B tb k e w' ∧ Fr (Is tb) w w' := by
  obtain ⟨i0, hi0, hz0, hz1, hz2⟩ := info_parts infoS
  have htl := ht.lt
  have hBt := ht.le
  have hx : Fr No w (w.alloc (.cells #[.string ⟨#[]⟩, .string ⟨#[]⟩, .int .i64 0, .int .i64 0, .int .i64 0, .int .i64 0, .slice none 0 0] 31)) := (Fr.refl _ _).alloc _
  have q0 := block_alloc w (.cells #[.string ⟨#[]⟩, .string ⟨#[]⟩, .int .i64 0, .int .i64 0, .int .i64 0, .int .i64 0, .slice none 0 0] 31)
  have hsx : (w.alloc (.cells #[.string ⟨#[]⟩, .string ⟨#[]⟩, .int .i64 0, .int .i64 0, .int .i64 0, .int .i64 0, .slice none 0 0] 31)).heap.size = w.heap.size + 1 := by simp
  have htx := ht.fr hx (fun _ _ => id) id
  obtain ⟨W0, hW0⟩ : ∃ W0, W0 = w.alloc (.cells #[.string ⟨#[]⟩, .string ⟨#[]⟩, .int .i64 0, .int .i64 0, .int .i64 0, .int .i64 0, .slice none 0 0] 31) := ⟨_, rfl⟩
  rw [← hW0] at hx q0 hsx htx
  have hsx' : w.heap.size + 1 ≤ W0.heap.size := by omega
  clear hsx
  go_enter Tryz.func67, Tryz.ntmps67
  go_upto_region 1 with (fail)
  rw [← hW0]
  clear hW0
  go_wp2_with fail
  refine (tape_next B tb k 3 _ htx (by omega) (by omega) (by omega)).mono ?_
  rintro e w1 ⟨r, rfl, hr1, hr2, ht1, hf1⟩
  obtain ⟨r, rfl⟩ := Int.eq_ofNat_of_zero_le hr1
  have q1 := hf1.heap q0 (fun e => by unfold Is at e; omega)
  have Hf1 := Lib.hid ((hx.mono (T := Is tb) (fun _ _ h => h.elim)).step hf1 (fun _ _ h => h))
  have hs1 := hf1.size
  clear hx q0 htx hf1 hr1
  have ht3 : 1 ≤ 1 + r ∧ 1 + r ≤ 3 := by omega
  have hpath := made_path B tb (k + 1) w1 ht1 (by omega)
  clear ht1 hr2
  go_upto_region 2 with (fail)
  rw [show (1 : Int) + (r : Int) = ((1 + r : Nat) : Int) from by omega]
  generalize 1 + r = t at *
  go_wp2_with fail
  refine hpath.mono ?_
  rintro e w2 ⟨⟨p, k2, rfl, hp, hk2, ht2⟩, hf2⟩
  have q2 := hf2.heap q1 (fun e => by unfold Is at e; omega)
  have Hf2 := Lib.hid (Hf1.out.step hf2 (fun _ _ h => h))
  have hs2 := hf2.size
  clear hpath q1 hf2 Hf1
  have hS2 := Strs.of_block (l := pvIds) (block_alloc w2 (.cells (pvIds.map Value.string).toArray 9)) (by unfold maxLen pvIds; simp)
  have hx2 : Fr No w2 (w2.alloc (.cells (pvIds.map Value.string).toArray 9)) := (Fr.refl _ _).alloc _
  have hone := tape_one B tb k2 (some ⟨w2.heap.size, 0, none⟩) 3 pvIds _ (ht2.fr hx2 (fun _ _ => id) id) (by omega) hS2 (by decide) (by decide) (fun ad e => by cases e; show w2.heap.size ≠ tb; omega)
  go_wp2_with fail
  refine hone.mono ?_
  rintro e w3 ⟨⟨y, rfl, hy⟩, ht3', hf3⟩
  have q3 := hf3.heap (hx2.heap q2 id) (fun e => by unfold Is at e; omega)
  have Hf3 := Lib.hid ((Hf2.out.step hx2 (fun _ _ h => h.elim)).step hf3 (fun _ _ h => h))
  have hs3 := (hx2.mono (T := Is tb) (fun _ _ h => h.elim) |>.step hf3 (fun _ _ h => h)).size
  have Hy : Hid (y ∈ pvIds) := hy
  clear hone hS2 hx2 ht2 hf3 hy q2 Hf2
  have hn4 := tape_next B tb (k2 + 1) 3 w3 ht3' (by omega) (by omega) (by omega)
  go_wp2_with fail
  refine hn4.mono ?_
  rintro e w4 ⟨rd, rfl, hrd1, hrd2, ht4, hf4⟩
  have q4 := hf4.heap q3 (fun e => by unfold Is at e; omega)
  have Hf4 := Lib.hid (Hf3.out.step hf4 (fun _ _ h => h))
  have hs4 := hf4.size
  clear hn4 q3 hf4 Hf3 ht3'
  have hn5 := tape_next B tb (k2 + 1 + 1) (t : Int) w4 ht4 (by omega) (by omega) (by omega)
  go_wp2_with fail
  refine hn5.mono ?_
  rintro e w5 ⟨s0, rfl, hs01, hs02, ht5, hf5⟩
  have q5 := hf5.heap q4 (fun e => by unfold Is at e; omega)
  have Hf5 := Lib.hid (Hf4.out.step hf5 (fun _ _ h => h))
  have hs5 := hf5.size
  clear hn5 q4 hf5 Hf4 ht4
  go_upto_region 3 with (fail)
  obtain ⟨s, hss⟩ : ∃ s : Int, s = 1 + s0 := ⟨_, rfl⟩
  rw [← hss]
  have hsr : 1 ≤ s ∧ s ≤ 3 := by omega
  clear hss
  have hx6 : Fr No w5 (w5.alloc (.cells #[.string p, .string y, .int .i64 rd, .int .i64 s, .int .i64 (t : Int), .int .i64 (t : Int), .slice none 0 0] 31)) := (Fr.refl _ _).alloc _
  have qm := block_alloc w5 (.cells #[.string p, .string y, .int .i64 rd, .int .i64 s, .int .i64 (t : Int), .int .i64 (t : Int), .slice none 0 0] 31)
  have ht6 := ht5.fr hx6 (fun _ _ => id) id
  generalize w5.alloc (.cells #[.string p, .string y, .int .i64 rd, .int .i64 s, .int .i64 (t : Int), .int .i64 (t : Int), .slice none 0 0] 31) = W6 at *
  have q6 := hx6.heap q5 id
  have Hf6 := Lib.hid (Hf5.out.step hx6 (fun _ _ h => h.elim))
  have hs6 := hx6.size
  have hlm := lt_of_block qm
  have hmt : w5.heap.size ≠ tb := by omega
  have hmB : B ≤ w5.heap.size := by omega
  have hm2 : w.heap.size < w5.heap.size := by omega
  generalize w5.heap.size = mb at *
  clear q5 hx6 Hf5 ht5 hs01 hs02
  have hn7 := tape_next B tb (k2 + 1 + 1 + 1) 3 W6 ht6 (by omega) (by omega) (by omega)
  go_wp2_with fail
  refine hn7.mono ?_
  rintro e w7 ⟨c7, rfl, hc71, hc72, ht7, hf7⟩
  obtain ⟨c7, rfl⟩ := Int.eq_ofNat_of_zero_le hc71
  have q7 := hf7.heap q6 (fun e => by unfold Is at e; omega)
  have qm7 := hf7.heap qm (fun e => by unfold Is at e; omega)
  have Hf7 := Lib.hid (Hf6.out.step hf7 (fun _ _ h => h))
  have hs7 := hf7.size
  clear hn7 q6 qm hf7 Hf6 ht6 hc71
  go_wp2_with fail
  have hlm7 := lt_of_block qm7
  obtain ⟨B4, hB4⟩ : ∃ B4, B4 = w7.heap.size := ⟨_, rfl⟩
  have HB4 := Lib.hid hB4
  have hlmB : mb < B4 := by omega
  have hwB : w.heap.size ≤ B4 := by omega
  clear hB4
  go_loopw [5] (fun i wr => ∃ (l : List ByteArray) (av : Option Addr) (cv j kk : Nat), i = .int .i64 (j : Int) ∧ l.length + j ≤ 2 ∧ kk + 1 * j ≤ k2 + 6 ∧ wr.heap[mb]? = some (.cells #[.string p, .string y, .int .i64 rd, .int .i64 s, .int .i64 (t : Int), .int .i64 (t : Int), .slice av l.length cv] 31) ∧ wr.ownsRow B4 9 1 (.slice av l.length cv) l.length (l.map Value.string) ∧ Hid (∀ x ∈ l, x.size ≤ 5) ∧ Tape wr B tb kk ∧ Fr (TM mb tb B4) w7 wr) (fun i _ => (intOf i).toNat)
  case atStart => exact ⟨[], none, 0, c7, k2 + 1 + 1 + 1 + 1, rfl, by simp; omega, by omega, qm7, World.ownsRow_nil _ _ _ _, fun x hx => by simp at hx, ht7, Fr.refl _ _⟩
  case round =>
    obtain ⟨l, av, cv, j, kk, rfl, hlj, hkk, hbox, hown, Hl, htr, hf⟩ := hrel
    have hll : l.length ≤ 2 := by omega
    have hsr7 : B4 ≤ wr.heap.size := by have := hf.size; have := HB4.out; omega
    by_cases hlt : 0 < j
    · have hlt' : (0 : Int) < j := by omega
      have Hf := Lib.hid hf
      clear hf qm7 q7
      go_upto_region 6 with (fail)
      refine region_tree (TM mb tb B4) (.q 0 (.q 2 (.m2 1 (.m1 3 (.m1 4 (.m1 5 (.m1 6 (.q 7 (.m1 8 .fin)))))) 3 (.m2 1 (.m1 4 (.m1 5 (.m1 6 (.q 7 (.m1 8 .fin))))) 4 (.m2 1 (.m1 5 (.m1 6 (.q 7 (.m1 8 .fin)))) 5 (.m1 1 (.m1 6 (.q 7 (.m1 8 .fin))))))))) _ (by kernel_rfl) (by kernel_rfl) (fun w0 hf0 => ?_) (fun _ _ h => h)
      have qb0 := hf0.heap hbox id
      have hown0 := ownsRow_at hown hf0 (fun _ _ h => h)
      have ht0 := htr.fr hf0 (fun _ _ => id) id
      have Hf0 := Lib.hid (Hf.out.step hf0 (fun _ _ h => h.elim))
      have hs0 := hf0.size
      clear hbox hown htr hf0
      repeat (apply tree_q; exact rfl; exact rfl; exact rfl; intro K hK; go_big_quiet_op; go_big_quiet_on)
      refine tree_m2 rfl rfl ?_ ?_
      · have z6 : w0.cell? ⟨mb, 6, none⟩ = some (.slice av l.length cv) := cell_of_block qb0 6
        go_wp2_with fail
        clear z6
        refine OnlyN.mk ⟨Fr.refl _ _, ?_⟩
        refine tree_m1 rfl ?_
        go_wp2_with fail
        have hX1 : Fr No w0 (w0.alloc (.cells (layIn.map Value.string).toArray 9)) := (Fr.refl _ _).alloc _
        have hS1 := Strs.of_block (l := layIn) (block_alloc w0 (.cells (layIn.map Value.string).toArray 9)) (by unfold maxLen layIn; simp)
        refine OnlyN.mk ⟨(Fr.refl _ _).alloc _, ?_⟩
        change wpSg _ _ _ _ _ _ (w0.alloc (.cells (layIn.map Value.string).toArray 9))
        generalize w0.alloc (.cells (layIn.map Value.string).toArray 9) = X1 at *
        have qb1 := hX1.heap qb0 id
        have hs1 := hX1.size
        refine tree_m1 rfl ?_
        have hone := tape_one B tb kk (some ⟨w0.heap.size, 0, none⟩) 3 layIn _ (ht0.fr hX1 (fun _ _ => id) id) (by omega) hS1 (by decide) (by decide) (fun ad e => by cases e; show w0.heap.size ≠ tb; omega)
        go_wp2_with fail
        refine hone.mono ?_
        rintro e X2 ⟨⟨z, rfl, hz⟩, ht2, hX2⟩
        have hzs := layIn_size z hz
        have qb2 := hX2.heap qb1 (fun e => by unfold Is at e; omega)
        have hs2 := hX2.size
        clear hone
        go_wp2_with fail
        refine OnlyN.mk ⟨hX2.mono (fun b _ h => .inr (.inl h)), ?_⟩
        refine tree_m1 rfl ?_
        go_wp2_with fail
        have hX3 : Fr No X2 (X2.alloc (.cells #[.string z] 9)) := (Fr.refl _ _).alloc _
        have hcz := cell_one_new X2 (.string z) 9
        refine OnlyN.mk ⟨(Fr.refl _ _).alloc _, ?_⟩
        generalize X2.alloc (.cells #[.string z] 9) = X3 at *
        have qb3 := hX3.heap qb2 id
        have hs3 := hX3.size
        refine tree_m1 rfl ?_
        have hX03 : Fr (Is tb) w0 X3 := ((hX1.mono (fun _ _ h => h.elim)).step hX2 (fun _ _ h => h)).step hX3 (fun _ _ h => h.elim)
        have hown3 := ownsRow_at hown0 hX03 (fun b h e => by have h1 := ownsRow_blk hown0 h; unfold From at h1; unfold Is at e; omega)
        have Hown3 := Lib.hid hown3
        go_wp2_with (at_builtin; refine wpList_append_own _ rfl _ _ 27 rfl B4 9 i0 (.string ByteArray.empty) 1 16 Tryz.underlying27 hi0 hz0 hz1 hz2 rfl (by decide) _ _ _ rfl hown3 ⟨X2.heap.size, 0, none⟩ 1 1 [.string z] rfl rfl hcz (strs_one [z]) (by unfold maxLen; omega) (by omega) (by first | omega | (simp; done) | (simp; omega)) ?_; intro v' w9 hown9 hgrow9 _; obtain ⟨av', cv', rfl⟩ := ownsRow_slice hown9)
        have hgf : Fr (fun b => (Value.slice av l.length cv).ownBlock = some b) X3 w9 := Fr.of_grown hgrow9
        refine OnlyN.mk ⟨hgf.mono (fun b _ e => .inr (.inr (ownsRow_blk Hown3.out e))), ?_⟩
        repeat (apply tree_q; exact rfl; exact rfl; exact rfl; intro K hK; go_big_quiet_op; go_big_quiet_on)
        refine tree_m1 rfl ?_
        have qb9 := hgf.heap qb3 (fun e => by have h1 := ownsRow_blk Hown3.out e; unfold From at h1; omega)
        have HX := Lib.hid (And.intro (hX03.mono (T := TM mb tb B4) (fun b _ h => .inr (.inl h)) |>.step hgf (fun b _ e => .inr (.inr (ownsRow_blk Hown3.out e)))) (And.intro hown9 (And.intro qb9 (And.intro (((ht2.fr hX3 (fun _ _ => id) id).fr hgf (fun b hb e => by have h1 := ownsRow_blk Hown3.out e; unfold From at h1; omega) (fun e => by have h1 := ownsRow_blk Hown3.out e; unfold From at h1; omega))) hzs))))
        have y6 : w9.cell? ⟨mb, 6, none⟩ = some (.slice av l.length cv) := cell_of_block qb9 6
        have y7 : w9.frozen? ⟨mb, 6, none⟩ = false := free_of_block qb9 6
        clear hown9 qb9 hgrow9 hgf hown3 hX03 hX1 hX2 hX3 hcz hS1 qb1 qb2 qb3 ht2 hz hzs
        go_wp2_with fail
        have hfs : Fr (Is mb) w9 (w9.setCell ⟨mb, 6, none⟩ (.slice av' (l.length + 1) cv')) := Fr.setCell (S := Is mb) (p := ⟨mb, 6, none⟩) (Fr.refl _ _) (fun _ => rfl) _
        refine OnlyN.mk ⟨hfs.mono (fun b _ h => .inl h), ?_⟩
        have q10 := block_setCell HX.out.2.2.1 6 (.slice av' (l.length + 1) cv')
        have hown10 := ownsRow_at HX.out.2.1 hfs (fun b h e => by have h1 := ownsRow_blk HX.out.2.1 h; unfold From at h1; unfold Is at e; omega)
        have ht10 := HX.out.2.2.2.1.fr hfs (fun b hb e => by unfold Is at e; omega) (fun e => by unfold Is at e; omega)
        have hf10 := (HX.out.1.step hfs (fun b _ h => .inl h))
        simp at q10
        have HY := Lib.hid (And.intro q10 (And.intro hown10 (And.intro ht10 (Hf0.out.step hf10 (fun b hb h => h)))))
        have Hz := Lib.hid HX.out.2.2.2.2
        clear q10 hown10 ht10 hf10 hfs HX y6 y7
        refine tree_end ?_
        go_wp2_with fail
        go_roundw
        case rel => exact ⟨l ++ [z], av', cv', j - 1, kk + 1, by go_num, by simp; omega, by omega, by rw [List.length_append]; exact HY.out.1, by rw [List.length_append, List.map_append]; exact HY.out.2.1, fun x hx => (List.mem_append.1 hx).elim (fun h => Hl.out x h) (fun h => by obtain rfl : x = z := (by simpa using h); exact Hz.out), HY.out.2.2.1, HY.out.2.2.2⟩
        case measure => simp [intOf]; omega
      · go_wp2_with fail
        have hX1 : Fr No w0 (w0.alloc (.cells (layIn.map Value.string).toArray 9)) := (Fr.refl _ _).alloc _
        have hS1 := Strs.of_block (l := layIn) (block_alloc w0 (.cells (layIn.map Value.string).toArray 9)) (by unfold maxLen layIn; simp)
        refine OnlyN.mk ⟨(Fr.refl _ _).alloc _, ?_⟩
        change wpSg _ _ _ _ _ _ (w0.alloc (.cells (layIn.map Value.string).toArray 9))
        generalize w0.alloc (.cells (layIn.map Value.string).toArray 9) = X1 at *
        have qb1 := hX1.heap qb0 id
        have hs1 := hX1.size
        refine tree_m2 rfl rfl ?_ ?_
        · have z6 : X1.cell? ⟨mb, 6, none⟩ = some (.slice av l.length cv) := cell_of_block qb1 6
          go_wp2_with fail
          clear z6
          refine OnlyN.mk ⟨Fr.refl _ _, ?_⟩
          refine tree_m1 rfl ?_
          have hone := tape_one B tb kk (some ⟨w0.heap.size, 0, none⟩) 3 layIn _ (ht0.fr hX1 (fun _ _ => id) id) (by omega) hS1 (by decide) (by decide) (fun ad e => by cases e; show w0.heap.size ≠ tb; omega)
          go_wp2_with fail
          refine hone.mono ?_
          rintro e X2 ⟨⟨z, rfl, hz⟩, ht2, hX2⟩
          have hzs := layIn_size z hz
          have qb2 := hX2.heap qb1 (fun e => by unfold Is at e; omega)
          have hs2 := hX2.size
          clear hone
          go_wp2_with fail
          refine OnlyN.mk ⟨hX2.mono (fun b _ h => .inr (.inl h)), ?_⟩
          refine tree_m1 rfl ?_
          go_wp2_with fail
          have hX3 : Fr No X2 (X2.alloc (.cells #[.string z] 9)) := (Fr.refl _ _).alloc _
          have hcz := cell_one_new X2 (.string z) 9
          refine OnlyN.mk ⟨(Fr.refl _ _).alloc _, ?_⟩
          generalize X2.alloc (.cells #[.string z] 9) = X3 at *
          have qb3 := hX3.heap qb2 id
          have hs3 := hX3.size
          refine tree_m1 rfl ?_
          have hX03 : Fr (Is tb) w0 X3 := ((hX1.mono (fun _ _ h => h.elim)).step hX2 (fun _ _ h => h)).step hX3 (fun _ _ h => h.elim)
          have hown3 := ownsRow_at hown0 hX03 (fun b h e => by have h1 := ownsRow_blk hown0 h; unfold From at h1; unfold Is at e; omega)
          have Hown3 := Lib.hid hown3
          go_wp2_with (at_builtin; refine wpList_append_own _ rfl _ _ 27 rfl B4 9 i0 (.string ByteArray.empty) 1 16 Tryz.underlying27 hi0 hz0 hz1 hz2 rfl (by decide) _ _ _ rfl hown3 ⟨X2.heap.size, 0, none⟩ 1 1 [.string z] rfl rfl hcz (strs_one [z]) (by unfold maxLen; omega) (by omega) (by first | omega | (simp; done) | (simp; omega)) ?_; intro v' w9 hown9 hgrow9 _; obtain ⟨av', cv', rfl⟩ := ownsRow_slice hown9)
          have hgf : Fr (fun b => (Value.slice av l.length cv).ownBlock = some b) X3 w9 := Fr.of_grown hgrow9
          refine OnlyN.mk ⟨hgf.mono (fun b _ e => .inr (.inr (ownsRow_blk Hown3.out e))), ?_⟩
          repeat (apply tree_q; exact rfl; exact rfl; exact rfl; intro K hK; go_big_quiet_op; go_big_quiet_on)
          refine tree_m1 rfl ?_
          have qb9 := hgf.heap qb3 (fun e => by have h1 := ownsRow_blk Hown3.out e; unfold From at h1; omega)
          have HX := Lib.hid (And.intro (hX03.mono (T := TM mb tb B4) (fun b _ h => .inr (.inl h)) |>.step hgf (fun b _ e => .inr (.inr (ownsRow_blk Hown3.out e)))) (And.intro hown9 (And.intro qb9 (And.intro (((ht2.fr hX3 (fun _ _ => id) id).fr hgf (fun b hb e => by have h1 := ownsRow_blk Hown3.out e; unfold From at h1; omega) (fun e => by have h1 := ownsRow_blk Hown3.out e; unfold From at h1; omega))) hzs))))
          have y6 : w9.cell? ⟨mb, 6, none⟩ = some (.slice av l.length cv) := cell_of_block qb9 6
          have y7 : w9.frozen? ⟨mb, 6, none⟩ = false := free_of_block qb9 6
          clear hown9 qb9 hgrow9 hgf hown3 hX03 hX1 hX2 hX3 hcz hS1 qb1 qb2 qb3 ht2 hz hzs
          go_wp2_with fail
          have hfs : Fr (Is mb) w9 (w9.setCell ⟨mb, 6, none⟩ (.slice av' (l.length + 1) cv')) := Fr.setCell (S := Is mb) (p := ⟨mb, 6, none⟩) (Fr.refl _ _) (fun _ => rfl) _
          refine OnlyN.mk ⟨hfs.mono (fun b _ h => .inl h), ?_⟩
          have q10 := block_setCell HX.out.2.2.1 6 (.slice av' (l.length + 1) cv')
          have hown10 := ownsRow_at HX.out.2.1 hfs (fun b h e => by have h1 := ownsRow_blk HX.out.2.1 h; unfold From at h1; unfold Is at e; omega)
          have ht10 := HX.out.2.2.2.1.fr hfs (fun b hb e => by unfold Is at e; omega) (fun e => by unfold Is at e; omega)
          have hf10 := (HX.out.1.step hfs (fun b _ h => .inl h))
          simp at q10
          have HY := Lib.hid (And.intro q10 (And.intro hown10 (And.intro ht10 (Hf0.out.step hf10 (fun b hb h => h)))))
          have Hz := Lib.hid HX.out.2.2.2.2
          clear q10 hown10 ht10 hf10 hfs HX y6 y7
          refine tree_end ?_
          go_wp2_with fail
          go_roundw
          case rel => exact ⟨l ++ [z], av', cv', j - 1, kk + 1, by go_num, by simp; omega, by omega, by rw [List.length_append]; exact HY.out.1, by rw [List.length_append, List.map_append]; exact HY.out.2.1, fun x hx => (List.mem_append.1 hx).elim (fun h => Hl.out x h) (fun h => by obtain rfl : x = z := (by simpa using h); exact Hz.out), HY.out.2.2.1, HY.out.2.2.2⟩
          case measure => simp [intOf]; omega
        · have hone := tape_one B tb kk (some ⟨w0.heap.size, 0, none⟩) 3 layIn _ (ht0.fr hX1 (fun _ _ => id) id) (by omega) hS1 (by decide) (by decide) (fun ad e => by cases e; show w0.heap.size ≠ tb; omega)
          go_wp2_with fail
          refine hone.mono ?_
          rintro e X2 ⟨⟨z, rfl, hz⟩, ht2, hX2⟩
          have hzs := layIn_size z hz
          have qb2 := hX2.heap qb1 (fun e => by unfold Is at e; omega)
          have hs2 := hX2.size
          clear hone
          go_wp2_with fail
          refine OnlyN.mk ⟨hX2.mono (fun b _ h => .inr (.inl h)), ?_⟩
          refine tree_m2 rfl rfl ?_ ?_
          · have z6 : X2.cell? ⟨mb, 6, none⟩ = some (.slice av l.length cv) := cell_of_block qb2 6
            go_wp2_with fail
            clear z6
            refine OnlyN.mk ⟨Fr.refl _ _, ?_⟩
            refine tree_m1 rfl ?_
            go_wp2_with fail
            have hX3 : Fr No X2 (X2.alloc (.cells #[.string z] 9)) := (Fr.refl _ _).alloc _
            have hcz := cell_one_new X2 (.string z) 9
            refine OnlyN.mk ⟨(Fr.refl _ _).alloc _, ?_⟩
            generalize X2.alloc (.cells #[.string z] 9) = X3 at *
            have qb3 := hX3.heap qb2 id
            have hs3 := hX3.size
            refine tree_m1 rfl ?_
            have hX03 : Fr (Is tb) w0 X3 := ((hX1.mono (fun _ _ h => h.elim)).step hX2 (fun _ _ h => h)).step hX3 (fun _ _ h => h.elim)
            have hown3 := ownsRow_at hown0 hX03 (fun b h e => by have h1 := ownsRow_blk hown0 h; unfold From at h1; unfold Is at e; omega)
            have Hown3 := Lib.hid hown3
            go_wp2_with (at_builtin; refine wpList_append_own _ rfl _ _ 27 rfl B4 9 i0 (.string ByteArray.empty) 1 16 Tryz.underlying27 hi0 hz0 hz1 hz2 rfl (by decide) _ _ _ rfl hown3 ⟨X2.heap.size, 0, none⟩ 1 1 [.string z] rfl rfl hcz (strs_one [z]) (by unfold maxLen; omega) (by omega) (by first | omega | (simp; done) | (simp; omega)) ?_; intro v' w9 hown9 hgrow9 _; obtain ⟨av', cv', rfl⟩ := ownsRow_slice hown9)
            have hgf : Fr (fun b => (Value.slice av l.length cv).ownBlock = some b) X3 w9 := Fr.of_grown hgrow9
            refine OnlyN.mk ⟨hgf.mono (fun b _ e => .inr (.inr (ownsRow_blk Hown3.out e))), ?_⟩
            repeat (apply tree_q; exact rfl; exact rfl; exact rfl; intro K hK; go_big_quiet_op; go_big_quiet_on)
            refine tree_m1 rfl ?_
            have qb9 := hgf.heap qb3 (fun e => by have h1 := ownsRow_blk Hown3.out e; unfold From at h1; omega)
            have HX := Lib.hid (And.intro (hX03.mono (T := TM mb tb B4) (fun b _ h => .inr (.inl h)) |>.step hgf (fun b _ e => .inr (.inr (ownsRow_blk Hown3.out e)))) (And.intro hown9 (And.intro qb9 (And.intro (((ht2.fr hX3 (fun _ _ => id) id).fr hgf (fun b hb e => by have h1 := ownsRow_blk Hown3.out e; unfold From at h1; omega) (fun e => by have h1 := ownsRow_blk Hown3.out e; unfold From at h1; omega))) hzs))))
            have y6 : w9.cell? ⟨mb, 6, none⟩ = some (.slice av l.length cv) := cell_of_block qb9 6
            have y7 : w9.frozen? ⟨mb, 6, none⟩ = false := free_of_block qb9 6
            clear hown9 qb9 hgrow9 hgf hown3 hX03 hX1 hX2 hX3 hcz hS1 qb1 qb2 qb3 ht2 hz hzs
            go_wp2_with fail
            have hfs : Fr (Is mb) w9 (w9.setCell ⟨mb, 6, none⟩ (.slice av' (l.length + 1) cv')) := Fr.setCell (S := Is mb) (p := ⟨mb, 6, none⟩) (Fr.refl _ _) (fun _ => rfl) _
            refine OnlyN.mk ⟨hfs.mono (fun b _ h => .inl h), ?_⟩
            have q10 := block_setCell HX.out.2.2.1 6 (.slice av' (l.length + 1) cv')
            have hown10 := ownsRow_at HX.out.2.1 hfs (fun b h e => by have h1 := ownsRow_blk HX.out.2.1 h; unfold From at h1; unfold Is at e; omega)
            have ht10 := HX.out.2.2.2.1.fr hfs (fun b hb e => by unfold Is at e; omega) (fun e => by unfold Is at e; omega)
            have hf10 := (HX.out.1.step hfs (fun b _ h => .inl h))
            simp at q10
            have HY := Lib.hid (And.intro q10 (And.intro hown10 (And.intro ht10 (Hf0.out.step hf10 (fun b hb h => h)))))
            have Hz := Lib.hid HX.out.2.2.2.2
            clear q10 hown10 ht10 hf10 hfs HX y6 y7
            refine tree_end ?_
            go_wp2_with fail
            go_roundw
            case rel => exact ⟨l ++ [z], av', cv', j - 1, kk + 1, by go_num, by simp; omega, by omega, by rw [List.length_append]; exact HY.out.1, by rw [List.length_append, List.map_append]; exact HY.out.2.1, fun x hx => (List.mem_append.1 hx).elim (fun h => Hl.out x h) (fun h => by obtain rfl : x = z := (by simpa using h); exact Hz.out), HY.out.2.2.1, HY.out.2.2.2⟩
            case measure => simp [intOf]; omega
          · go_wp2_with fail
            have hX3 : Fr No X2 (X2.alloc (.cells #[.string z] 9)) := (Fr.refl _ _).alloc _
            have hcz := cell_one_new X2 (.string z) 9
            refine OnlyN.mk ⟨(Fr.refl _ _).alloc _, ?_⟩
            generalize X2.alloc (.cells #[.string z] 9) = X3 at *
            have qb3 := hX3.heap qb2 id
            have hs3 := hX3.size
            refine tree_m1 rfl ?_
            have z6 : X3.cell? ⟨mb, 6, none⟩ = some (.slice av l.length cv) := cell_of_block qb3 6
            go_wp2_with fail
            clear z6
            refine OnlyN.mk ⟨Fr.refl _ _, ?_⟩
            refine tree_m1 rfl ?_
            have hX03 : Fr (Is tb) w0 X3 := ((hX1.mono (fun _ _ h => h.elim)).step hX2 (fun _ _ h => h)).step hX3 (fun _ _ h => h.elim)
            have hown3 := ownsRow_at hown0 hX03 (fun b h e => by have h1 := ownsRow_blk hown0 h; unfold From at h1; unfold Is at e; omega)
            have Hown3 := Lib.hid hown3
            go_wp2_with (at_builtin; refine wpList_append_own _ rfl _ _ 27 rfl B4 9 i0 (.string ByteArray.empty) 1 16 Tryz.underlying27 hi0 hz0 hz1 hz2 rfl (by decide) _ _ _ rfl hown3 ⟨X2.heap.size, 0, none⟩ 1 1 [.string z] rfl rfl hcz (strs_one [z]) (by unfold maxLen; omega) (by omega) (by first | omega | (simp; done) | (simp; omega)) ?_; intro v' w9 hown9 hgrow9 _; obtain ⟨av', cv', rfl⟩ := ownsRow_slice hown9)
            have hgf : Fr (fun b => (Value.slice av l.length cv).ownBlock = some b) X3 w9 := Fr.of_grown hgrow9
            refine OnlyN.mk ⟨hgf.mono (fun b _ e => .inr (.inr (ownsRow_blk Hown3.out e))), ?_⟩
            repeat (apply tree_q; exact rfl; exact rfl; exact rfl; intro K hK; go_big_quiet_op; go_big_quiet_on)
            refine tree_m1 rfl ?_
            have qb9 := hgf.heap qb3 (fun e => by have h1 := ownsRow_blk Hown3.out e; unfold From at h1; omega)
            have HX := Lib.hid (And.intro (hX03.mono (T := TM mb tb B4) (fun b _ h => .inr (.inl h)) |>.step hgf (fun b _ e => .inr (.inr (ownsRow_blk Hown3.out e)))) (And.intro hown9 (And.intro qb9 (And.intro (((ht2.fr hX3 (fun _ _ => id) id).fr hgf (fun b hb e => by have h1 := ownsRow_blk Hown3.out e; unfold From at h1; omega) (fun e => by have h1 := ownsRow_blk Hown3.out e; unfold From at h1; omega))) hzs))))
            have y6 : w9.cell? ⟨mb, 6, none⟩ = some (.slice av l.length cv) := cell_of_block qb9 6
            have y7 : w9.frozen? ⟨mb, 6, none⟩ = false := free_of_block qb9 6
            clear hown9 qb9 hgrow9 hgf hown3 hX03 hX1 hX2 hX3 hcz hS1 qb1 qb2 qb3 ht2 hz hzs
            go_wp2_with fail
            have hfs : Fr (Is mb) w9 (w9.setCell ⟨mb, 6, none⟩ (.slice av' (l.length + 1) cv')) := Fr.setCell (S := Is mb) (p := ⟨mb, 6, none⟩) (Fr.refl _ _) (fun _ => rfl) _
            refine OnlyN.mk ⟨hfs.mono (fun b _ h => .inl h), ?_⟩
            have q10 := block_setCell HX.out.2.2.1 6 (.slice av' (l.length + 1) cv')
            have hown10 := ownsRow_at HX.out.2.1 hfs (fun b h e => by have h1 := ownsRow_blk HX.out.2.1 h; unfold From at h1; unfold Is at e; omega)
            have ht10 := HX.out.2.2.2.1.fr hfs (fun b hb e => by unfold Is at e; omega) (fun e => by unfold Is at e; omega)
            have hf10 := (HX.out.1.step hfs (fun b _ h => .inl h))
            simp at q10
            have HY := Lib.hid (And.intro q10 (And.intro hown10 (And.intro ht10 (Hf0.out.step hf10 (fun b hb h => h)))))
            have Hz := Lib.hid HX.out.2.2.2.2
            clear q10 hown10 ht10 hf10 hfs HX y6 y7
            refine tree_end ?_
            go_wp2_with fail
            go_roundw
            case rel => exact ⟨l ++ [z], av', cv', j - 1, kk + 1, by go_num, by simp; omega, by omega, by rw [List.length_append]; exact HY.out.1, by rw [List.length_append, List.map_append]; exact HY.out.2.1, fun x hx => (List.mem_append.1 hx).elim (fun h => Hl.out x h) (fun h => by obtain rfl : x = z := (by simpa using h); exact Hz.out), HY.out.2.2.1, HY.out.2.2.2⟩
            case measure => simp [intOf]; omega
    · obtain rfl : j = 0 := by omega
      have hb7 := (hf.heap q7 (fun e => by unfold TM at e; omega))
      have Hfw : Hid (Fr (TB tb (w.heap.size + 1)) w wr) := (Hf7.out.mono (T := TB tb (w.heap.size + 1)) (fun b _ h => .inl h)).step hf (fun b hb h => by unfold TM at h; unfold TB; omega)
      clear hf qm7 q7
      go_wp2_with fail
      refine (tape_next B tb kk 14 _ htr (by omega) (by omega) (by omega)).mono ?_
      rintro e w8 ⟨r8, rfl, hr81, hr82, ht8, hf8⟩
      have qb := hf8.heap hbox (fun e => by unfold Is at e; omega)
      have q8 := hf8.heap hb7 (fun e => by unfold Is at e; omega)
      have hown8 := ownsRow_at hown hf8 (fun b h e => by have h1 := ownsRow_blk hown h; unfold From at h1; unfold Is at e; omega)
      have Hf8 := Lib.hid (Hfw.out.step hf8 (fun b hb h => .inl h))
      have hs8 := hf8.size
      obtain ⟨a', c', hv, hS8, hF8⟩ := Strs.of_own hown8
      have hB8 := own_typ hown8
      cases hv
      have HS8 := Lib.hid (And.intro hS8 (And.intro hB8 hF8))
      clear hbox hb7 hown hf8 htr Hfw hS8 hB8 hF8 hown8
      rcases hr0 : (r8 == 0) with _ | _
      · rcases hr1' : (r8 == 1) with _ | _
        · rcases hr2' : (r8 == 2) with _ | _
          · have HfW : Hid (Fr (fun b => b = tb ∨ b = mb) w8 w8) := Fr.refl _ _
            have HtW := Lib.hid ht8
            clear ht8
            have u0 : w8.cell? ⟨mb, 0, none⟩ = some (.string p) := cell_of_block qb 0
            have u1 : w8.cell? ⟨mb, 1, none⟩ = some (.string y) := cell_of_block qb 1
            have u2 : w8.cell? ⟨mb, 2, none⟩ = some (.int .i64 rd) := cell_of_block qb 2
            have u3 : w8.cell? ⟨mb, 3, none⟩ = some (.int .i64 s) := cell_of_block qb 3
            have u4 : w8.cell? ⟨mb, 4, none⟩ = some (.int .i64 (t : Int)) := cell_of_block qb 4
            have u5 : w8.cell? ⟨mb, 5, none⟩ = some (.int .i64 (t : Int)) := cell_of_block qb 5
            have u6 : w8.cell? ⟨mb, 6, none⟩ = some (.slice av l.length cv) := cell_of_block qb 6
            have b0 : w8.cell? ⟨w.heap.size, 0, none⟩ = some (.string ⟨#[]⟩) := cell_of_block q8 0
            have b1 : w8.cell? ⟨w.heap.size, 1, none⟩ = some (.string ⟨#[]⟩) := cell_of_block q8 1
            have b2 : w8.cell? ⟨w.heap.size, 2, none⟩ = some (.int .i64 0) := cell_of_block q8 2
            have b3 : w8.cell? ⟨w.heap.size, 3, none⟩ = some (.int .i64 0) := cell_of_block q8 3
            have b4 : w8.cell? ⟨w.heap.size, 4, none⟩ = some (.int .i64 0) := cell_of_block q8 4
            have b5 : w8.cell? ⟨w.heap.size, 5, none⟩ = some (.int .i64 0) := cell_of_block q8 5
            have b6 : w8.cell? ⟨w.heap.size, 6, none⟩ = some (.slice none 0 0) := cell_of_block q8 6
            have f0 : w8.frozen? ⟨w.heap.size, 0, none⟩ = false := free_of_block q8 0
            have f1 : w8.frozen? ⟨w.heap.size, 1, none⟩ = false := free_of_block q8 1
            have f2 : w8.frozen? ⟨w.heap.size, 2, none⟩ = false := free_of_block q8 2
            have f3 : w8.frozen? ⟨w.heap.size, 3, none⟩ = false := free_of_block q8 3
            have f4 : w8.frozen? ⟨w.heap.size, 4, none⟩ = false := free_of_block q8 4
            have f5 : w8.frozen? ⟨w.heap.size, 5, none⟩ = false := free_of_block q8 5
            have f6 : w8.frozen? ⟨w.heap.size, 6, none⟩ = false := free_of_block q8 6
            have h7 := set7 q8 rfl (.string p) (.string y) (.int .i64 rd) (.int .i64 s) (.int .i64 (t : Int)) (.int .i64 (t : Int)) (.slice av l.length cv)
            have hE : Fr (fun b => b = tb ∨ b = mb ∨ b = w.heap.size) w8 _ := (HfW.out.mono (T := fun b => b = tb ∨ b = mb ∨ b = w.heap.size) (fun b _ h => h.elim .inl (fun h => .inr (.inl h)))).step h7.2 (fun b _ h => .inr (.inr h))
            have HR := Lib.hid (And.intro (HS8.out.1.fr hE (fun ad e _ h => by have := HS8.out.2.2 ad e; omega)) (And.intro (HS8.out.2.1.fr hE (fun ad e h => by have := HS8.out.2.2 ad e; omega)) (And.intro (HtW.out.fr h7.2 (fun b hb e => by unfold Is at e; omega) (fun e => by unfold Is at e; omega)) (((Hf8.out.step hE (fun b hb h => by unfold TB; omega)).mono (T := Is tb) (fun b hb h => by unfold TB at h; unfold Is; omega))))))
            have Hq := Lib.hid h7.1
            clear h7 hE qb q8
            go_wp2_with fail
            have y0 := cell_of_block Hq.out 0
            have y1 := cell_of_block Hq.out 1
            have y2 := cell_of_block Hq.out 2
            have y3 := cell_of_block Hq.out 3
            have y4 := cell_of_block Hq.out 4
            have y5 := cell_of_block Hq.out 5
            have y6 := cell_of_block Hq.out 6
            refine bodyPost_ret (v := .agg #[.string p, .string y, .int .i64 rd, .int .i64 s, .int .i64 (t : Int), .int .i64 (t : Int), .slice av l.length cv]) (by simp [results, Tryz.results67, go_sem, y0, y1, y2, y3, y4, y5, y6]) rfl ?_
            exact ⟨⟨⟨p, y, rd, s, (t : Int), (t : Int), av, l, cv⟩, kk + 1, rfl, ⟨HR.out.1, HR.out.2.1⟩, fun ad e => by have := HS8.out.2.2 ad e; omega, ⟨hp, Hy.out, by constructor <;> (try dsimp only) <;> omega, by constructor <;> (try dsimp only) <;> omega, hll, Hl.out⟩, by omega, HR.out.2.2.1⟩, HR.out.2.2.2⟩
          · have hS9 := Strs.of_block (l := layPaths) (block_alloc w8 (.cells (layPaths.map Value.string).toArray 9)) (by unfold maxLen layPaths; simp)
            have hx9 : Fr No w8 (w8.alloc (.cells (layPaths.map Value.string).toArray 9)) := (Fr.refl _ _).alloc _
            have hone := tape_one B tb (kk + 1) (some ⟨w8.heap.size, 0, none⟩) 4 layPaths _ (ht8.fr hx9 (fun _ _ => id) id) (by omega) hS9 (by decide) (by decide) (fun ad e => by cases e; show w8.heap.size ≠ tb; omega)
            have qx := hx9.heap qb id
            have qx2 := hx9.heap q8 id
            clear hS9 ht8 qb q8
            go_wp2_with fail
            refine hone.mono ?_
            rintro e wa ⟨⟨sp, rfl, hsp⟩, hta, hfa⟩
            have hss := layPaths_size sp hsp
            have q4 := hfa.heap qx (fun e => by unfold Is at e; omega)
            have q4' := hfa.heap qx2 (fun e => by unfold Is at e; omega)
            have q5 := block_setCell q4 0 (.string sp)
            have z0 : wa.frozen? ⟨mb, 0, none⟩ = false := free_of_block q4 0
            have z1 : wa.cell? ⟨mb, 0, none⟩ = some (.string p) := cell_of_block q4 0
            have hfs : Fr (Is mb) wa (wa.setCell ⟨mb, 0, none⟩ (.string sp)) := Fr.setCell (S := Is mb) (p := ⟨mb, 0, none⟩) (Fr.refl _ _) (fun _ => rfl) _
            have q5' := hfs.heap q4' (fun e => by unfold Is at e; omega)
            have HtW := Lib.hid (hta.fr hfs (fun b hb e => by unfold Is at e; omega) (fun e => by unfold Is at e; omega))
            have HfW : Hid (Fr (fun b => b = tb ∨ b = mb) w8 (wa.setCell ⟨mb, 0, none⟩ (.string sp))) := (((hx9.mono (T := fun b => b = tb ∨ b = mb) (fun _ _ h => h.elim)).step hfa (fun b _ h => .inl h)).step hfs (fun b _ h => .inr h))
            clear hone qx qx2 q4 q4' hsp hfa hfs hta hx9
            go_upto_region 14 with (fail)
            generalize wa.setCell ⟨mb, 0, none⟩ (.string sp) = Wb at *
            simp at q5
            clear z0 z1
            have u0 : Wb.cell? ⟨mb, 0, none⟩ = some (.string sp) := cell_of_block q5 0
            have u1 : Wb.cell? ⟨mb, 1, none⟩ = some (.string y) := cell_of_block q5 1
            have u2 : Wb.cell? ⟨mb, 2, none⟩ = some (.int .i64 rd) := cell_of_block q5 2
            have u3 : Wb.cell? ⟨mb, 3, none⟩ = some (.int .i64 s) := cell_of_block q5 3
            have u4 : Wb.cell? ⟨mb, 4, none⟩ = some (.int .i64 (t : Int)) := cell_of_block q5 4
            have u5 : Wb.cell? ⟨mb, 5, none⟩ = some (.int .i64 (t : Int)) := cell_of_block q5 5
            have u6 : Wb.cell? ⟨mb, 6, none⟩ = some (.slice av l.length cv) := cell_of_block q5 6
            have b0 : Wb.cell? ⟨w.heap.size, 0, none⟩ = some (.string ⟨#[]⟩) := cell_of_block q5' 0
            have b1 : Wb.cell? ⟨w.heap.size, 1, none⟩ = some (.string ⟨#[]⟩) := cell_of_block q5' 1
            have b2 : Wb.cell? ⟨w.heap.size, 2, none⟩ = some (.int .i64 0) := cell_of_block q5' 2
            have b3 : Wb.cell? ⟨w.heap.size, 3, none⟩ = some (.int .i64 0) := cell_of_block q5' 3
            have b4 : Wb.cell? ⟨w.heap.size, 4, none⟩ = some (.int .i64 0) := cell_of_block q5' 4
            have b5 : Wb.cell? ⟨w.heap.size, 5, none⟩ = some (.int .i64 0) := cell_of_block q5' 5
            have b6 : Wb.cell? ⟨w.heap.size, 6, none⟩ = some (.slice none 0 0) := cell_of_block q5' 6
            have f0 : Wb.frozen? ⟨w.heap.size, 0, none⟩ = false := free_of_block q5' 0
            have f1 : Wb.frozen? ⟨w.heap.size, 1, none⟩ = false := free_of_block q5' 1
            have f2 : Wb.frozen? ⟨w.heap.size, 2, none⟩ = false := free_of_block q5' 2
            have f3 : Wb.frozen? ⟨w.heap.size, 3, none⟩ = false := free_of_block q5' 3
            have f4 : Wb.frozen? ⟨w.heap.size, 4, none⟩ = false := free_of_block q5' 4
            have f5 : Wb.frozen? ⟨w.heap.size, 5, none⟩ = false := free_of_block q5' 5
            have f6 : Wb.frozen? ⟨w.heap.size, 6, none⟩ = false := free_of_block q5' 6
            have h7 := set7 q5' rfl (.string sp) (.string y) (.int .i64 rd) (.int .i64 s) (.int .i64 (t : Int)) (.int .i64 (t : Int)) (.slice av l.length cv)
            have hE : Fr (fun b => b = tb ∨ b = mb ∨ b = w.heap.size) w8 _ := (HfW.out.mono (T := fun b => b = tb ∨ b = mb ∨ b = w.heap.size) (fun b _ h => h.elim .inl (fun h => .inr (.inl h)))).step h7.2 (fun b _ h => .inr (.inr h))
            have HR := Lib.hid (And.intro (HS8.out.1.fr hE (fun ad e _ h => by have := HS8.out.2.2 ad e; omega)) (And.intro (HS8.out.2.1.fr hE (fun ad e h => by have := HS8.out.2.2 ad e; omega)) (And.intro (HtW.out.fr h7.2 (fun b hb e => by unfold Is at e; omega) (fun e => by unfold Is at e; omega)) (((Hf8.out.step hE (fun b hb h => by unfold TB; omega)).mono (T := Is tb) (fun b hb h => by unfold TB at h; unfold Is; omega))))))
            have Hq := Lib.hid h7.1
            clear h7 hE q5 q5'
            go_wp2_with fail
            have y0 := cell_of_block Hq.out 0
            have y1 := cell_of_block Hq.out 1
            have y2 := cell_of_block Hq.out 2
            have y3 := cell_of_block Hq.out 3
            have y4 := cell_of_block Hq.out 4
            have y5 := cell_of_block Hq.out 5
            have y6 := cell_of_block Hq.out 6
            refine bodyPost_ret (v := .agg #[.string sp, .string y, .int .i64 rd, .int .i64 s, .int .i64 (t : Int), .int .i64 (t : Int), .slice av l.length cv]) (by simp [results, Tryz.results67, go_sem, y0, y1, y2, y3, y4, y5, y6]) rfl ?_
            exact ⟨⟨⟨sp, y, rd, s, (t : Int), (t : Int), av, l, cv⟩, kk + 1 + 1, rfl, ⟨HR.out.1, HR.out.2.1⟩, fun ad e => by have := HS8.out.2.2 ad e; omega, ⟨by show sp.size ≤ 100; omega, Hy.out, by constructor <;> (try dsimp only) <;> omega, by constructor <;> (try dsimp only) <;> omega, hll, Hl.out⟩, by omega, HR.out.2.2.1⟩, HR.out.2.2.2⟩
        · have hn9 := tape_next B tb (kk + 1) 20 w8 ht8 (by omega) (by omega) (by omega)
          clear ht8
          go_wp2_with fail
          refine hn9.mono ?_
          rintro e wa ⟨r9, rfl, hr91, hr92, hta, hfa⟩
          have q4 := hfa.heap qb (fun e => by unfold Is at e; omega)
          have q4' := hfa.heap q8 (fun e => by unfold Is at e; omega)
          have q5 := block_setCell q4 4 (.int .i64 (r9 - 1))
          have z0 : wa.frozen? ⟨mb, 4, none⟩ = false := free_of_block q4 4
          have z1 : wa.cell? ⟨mb, 4, none⟩ = some (.int .i64 (t : Int)) := cell_of_block q4 4
          have hfs : Fr (Is mb) wa (wa.setCell ⟨mb, 4, none⟩ (.int .i64 (r9 - 1))) := Fr.setCell (S := Is mb) (p := ⟨mb, 4, none⟩) (Fr.refl _ _) (fun _ => rfl) _
          have q5' := hfs.heap q4' (fun e => by unfold Is at e; omega)
          have HtW := Lib.hid (hta.fr hfs (fun b hb e => by unfold Is at e; omega) (fun e => by unfold Is at e; omega))
          have HfW : Hid (Fr (fun b => b = tb ∨ b = mb) w8 (wa.setCell ⟨mb, 4, none⟩ (.int .i64 (r9 - 1)))) := ((hfa.mono (T := fun b => b = tb ∨ b = mb) (fun b _ h => .inl h)).step hfs (fun b _ h => .inr h))
          clear hn9 q4 q4' qb q8 hfa hfs hta
          go_upto_region 14 with (fail)
          generalize wa.setCell ⟨mb, 4, none⟩ (.int .i64 (r9 - 1)) = Wb at *
          simp at q5
          clear z0 z1
          have u0 : Wb.cell? ⟨mb, 0, none⟩ = some (.string p) := cell_of_block q5 0
          have u1 : Wb.cell? ⟨mb, 1, none⟩ = some (.string y) := cell_of_block q5 1
          have u2 : Wb.cell? ⟨mb, 2, none⟩ = some (.int .i64 rd) := cell_of_block q5 2
          have u3 : Wb.cell? ⟨mb, 3, none⟩ = some (.int .i64 s) := cell_of_block q5 3
          have u4 : Wb.cell? ⟨mb, 4, none⟩ = some (.int .i64 (r9 - 1)) := cell_of_block q5 4
          have u5 : Wb.cell? ⟨mb, 5, none⟩ = some (.int .i64 (t : Int)) := cell_of_block q5 5
          have u6 : Wb.cell? ⟨mb, 6, none⟩ = some (.slice av l.length cv) := cell_of_block q5 6
          have b0 : Wb.cell? ⟨w.heap.size, 0, none⟩ = some (.string ⟨#[]⟩) := cell_of_block q5' 0
          have b1 : Wb.cell? ⟨w.heap.size, 1, none⟩ = some (.string ⟨#[]⟩) := cell_of_block q5' 1
          have b2 : Wb.cell? ⟨w.heap.size, 2, none⟩ = some (.int .i64 0) := cell_of_block q5' 2
          have b3 : Wb.cell? ⟨w.heap.size, 3, none⟩ = some (.int .i64 0) := cell_of_block q5' 3
          have b4 : Wb.cell? ⟨w.heap.size, 4, none⟩ = some (.int .i64 0) := cell_of_block q5' 4
          have b5 : Wb.cell? ⟨w.heap.size, 5, none⟩ = some (.int .i64 0) := cell_of_block q5' 5
          have b6 : Wb.cell? ⟨w.heap.size, 6, none⟩ = some (.slice none 0 0) := cell_of_block q5' 6
          have f0 : Wb.frozen? ⟨w.heap.size, 0, none⟩ = false := free_of_block q5' 0
          have f1 : Wb.frozen? ⟨w.heap.size, 1, none⟩ = false := free_of_block q5' 1
          have f2 : Wb.frozen? ⟨w.heap.size, 2, none⟩ = false := free_of_block q5' 2
          have f3 : Wb.frozen? ⟨w.heap.size, 3, none⟩ = false := free_of_block q5' 3
          have f4 : Wb.frozen? ⟨w.heap.size, 4, none⟩ = false := free_of_block q5' 4
          have f5 : Wb.frozen? ⟨w.heap.size, 5, none⟩ = false := free_of_block q5' 5
          have f6 : Wb.frozen? ⟨w.heap.size, 6, none⟩ = false := free_of_block q5' 6
          have h7 := set7 q5' rfl (.string p) (.string y) (.int .i64 rd) (.int .i64 s) (.int .i64 (r9 - 1)) (.int .i64 (t : Int)) (.slice av l.length cv)
          have hE : Fr (fun b => b = tb ∨ b = mb ∨ b = w.heap.size) w8 _ := (HfW.out.mono (T := fun b => b = tb ∨ b = mb ∨ b = w.heap.size) (fun b _ h => h.elim .inl (fun h => .inr (.inl h)))).step h7.2 (fun b _ h => .inr (.inr h))
          have HR := Lib.hid (And.intro (HS8.out.1.fr hE (fun ad e _ h => by have := HS8.out.2.2 ad e; omega)) (And.intro (HS8.out.2.1.fr hE (fun ad e h => by have := HS8.out.2.2 ad e; omega)) (And.intro (HtW.out.fr h7.2 (fun b hb e => by unfold Is at e; omega) (fun e => by unfold Is at e; omega)) (((Hf8.out.step hE (fun b hb h => by unfold TB; omega)).mono (T := Is tb) (fun b hb h => by unfold TB at h; unfold Is; omega))))))
          have Hq := Lib.hid h7.1
          clear h7 hE q5 q5'
          go_wp2_with fail
          have y0 := cell_of_block Hq.out 0
          have y1 := cell_of_block Hq.out 1
          have y2 := cell_of_block Hq.out 2
          have y3 := cell_of_block Hq.out 3
          have y4 := cell_of_block Hq.out 4
          have y5 := cell_of_block Hq.out 5
          have y6 := cell_of_block Hq.out 6
          refine bodyPost_ret (v := .agg #[.string p, .string y, .int .i64 rd, .int .i64 s, .int .i64 (r9 - 1), .int .i64 (t : Int), .slice av l.length cv]) (by simp [results, Tryz.results67, go_sem, y0, y1, y2, y3, y4, y5, y6]) rfl ?_
          exact ⟨⟨⟨p, y, rd, s, (r9 - 1), (t : Int), av, l, cv⟩, kk + 1 + 1, rfl, ⟨HR.out.1, HR.out.2.1⟩, fun ad e => by have := HS8.out.2.2 ad e; omega, ⟨hp, Hy.out, by constructor <;> (try dsimp only) <;> omega, by constructor <;> (try dsimp only) <;> omega, hll, Hl.out⟩, by omega, HR.out.2.2.1⟩, HR.out.2.2.2⟩
      · have hn9 := tape_next B tb (kk + 1) 20 w8 ht8 (by omega) (by omega) (by omega)
        clear ht8
        go_wp2_with fail
        refine hn9.mono ?_
        rintro e wa ⟨r9, rfl, hr91, hr92, hta, hfa⟩
        have q4 := hfa.heap qb (fun e => by unfold Is at e; omega)
        have q4' := hfa.heap q8 (fun e => by unfold Is at e; omega)
        have q5 := block_setCell q4 3 (.int .i64 (r9 - 1))
        have z0 : wa.frozen? ⟨mb, 3, none⟩ = false := free_of_block q4 3
        have z1 : wa.cell? ⟨mb, 3, none⟩ = some (.int .i64 s) := cell_of_block q4 3
        have hfs : Fr (Is mb) wa (wa.setCell ⟨mb, 3, none⟩ (.int .i64 (r9 - 1))) := Fr.setCell (S := Is mb) (p := ⟨mb, 3, none⟩) (Fr.refl _ _) (fun _ => rfl) _
        have q5' := hfs.heap q4' (fun e => by unfold Is at e; omega)
        have HtW := Lib.hid (hta.fr hfs (fun b hb e => by unfold Is at e; omega) (fun e => by unfold Is at e; omega))
        have HfW : Hid (Fr (fun b => b = tb ∨ b = mb) w8 (wa.setCell ⟨mb, 3, none⟩ (.int .i64 (r9 - 1)))) := ((hfa.mono (T := fun b => b = tb ∨ b = mb) (fun b _ h => .inl h)).step hfs (fun b _ h => .inr h))
        clear hn9 q4 q4' qb q8 hfa hfs hta
        go_upto_region 14 with (fail)
        generalize wa.setCell ⟨mb, 3, none⟩ (.int .i64 (r9 - 1)) = Wb at *
        simp at q5
        clear z0 z1
        have u0 : Wb.cell? ⟨mb, 0, none⟩ = some (.string p) := cell_of_block q5 0
        have u1 : Wb.cell? ⟨mb, 1, none⟩ = some (.string y) := cell_of_block q5 1
        have u2 : Wb.cell? ⟨mb, 2, none⟩ = some (.int .i64 rd) := cell_of_block q5 2
        have u3 : Wb.cell? ⟨mb, 3, none⟩ = some (.int .i64 (r9 - 1)) := cell_of_block q5 3
        have u4 : Wb.cell? ⟨mb, 4, none⟩ = some (.int .i64 (t : Int)) := cell_of_block q5 4
        have u5 : Wb.cell? ⟨mb, 5, none⟩ = some (.int .i64 (t : Int)) := cell_of_block q5 5
        have u6 : Wb.cell? ⟨mb, 6, none⟩ = some (.slice av l.length cv) := cell_of_block q5 6
        have b0 : Wb.cell? ⟨w.heap.size, 0, none⟩ = some (.string ⟨#[]⟩) := cell_of_block q5' 0
        have b1 : Wb.cell? ⟨w.heap.size, 1, none⟩ = some (.string ⟨#[]⟩) := cell_of_block q5' 1
        have b2 : Wb.cell? ⟨w.heap.size, 2, none⟩ = some (.int .i64 0) := cell_of_block q5' 2
        have b3 : Wb.cell? ⟨w.heap.size, 3, none⟩ = some (.int .i64 0) := cell_of_block q5' 3
        have b4 : Wb.cell? ⟨w.heap.size, 4, none⟩ = some (.int .i64 0) := cell_of_block q5' 4
        have b5 : Wb.cell? ⟨w.heap.size, 5, none⟩ = some (.int .i64 0) := cell_of_block q5' 5
        have b6 : Wb.cell? ⟨w.heap.size, 6, none⟩ = some (.slice none 0 0) := cell_of_block q5' 6
        have f0 : Wb.frozen? ⟨w.heap.size, 0, none⟩ = false := free_of_block q5' 0
        have f1 : Wb.frozen? ⟨w.heap.size, 1, none⟩ = false := free_of_block q5' 1
        have f2 : Wb.frozen? ⟨w.heap.size, 2, none⟩ = false := free_of_block q5' 2
        have f3 : Wb.frozen? ⟨w.heap.size, 3, none⟩ = false := free_of_block q5' 3
        have f4 : Wb.frozen? ⟨w.heap.size, 4, none⟩ = false := free_of_block q5' 4
        have f5 : Wb.frozen? ⟨w.heap.size, 5, none⟩ = false := free_of_block q5' 5
        have f6 : Wb.frozen? ⟨w.heap.size, 6, none⟩ = false := free_of_block q5' 6
        have h7 := set7 q5' rfl (.string p) (.string y) (.int .i64 rd) (.int .i64 (r9 - 1)) (.int .i64 (t : Int)) (.int .i64 (t : Int)) (.slice av l.length cv)
        have hE : Fr (fun b => b = tb ∨ b = mb ∨ b = w.heap.size) w8 _ := (HfW.out.mono (T := fun b => b = tb ∨ b = mb ∨ b = w.heap.size) (fun b _ h => h.elim .inl (fun h => .inr (.inl h)))).step h7.2 (fun b _ h => .inr (.inr h))
        have HR := Lib.hid (And.intro (HS8.out.1.fr hE (fun ad e _ h => by have := HS8.out.2.2 ad e; omega)) (And.intro (HS8.out.2.1.fr hE (fun ad e h => by have := HS8.out.2.2 ad e; omega)) (And.intro (HtW.out.fr h7.2 (fun b hb e => by unfold Is at e; omega) (fun e => by unfold Is at e; omega)) (((Hf8.out.step hE (fun b hb h => by unfold TB; omega)).mono (T := Is tb) (fun b hb h => by unfold TB at h; unfold Is; omega))))))
        have Hq := Lib.hid h7.1
        clear h7 hE q5 q5'
        go_wp2_with fail
        have y0 := cell_of_block Hq.out 0
        have y1 := cell_of_block Hq.out 1
        have y2 := cell_of_block Hq.out 2
        have y3 := cell_of_block Hq.out 3
        have y4 := cell_of_block Hq.out 4
        have y5 := cell_of_block Hq.out 5
        have y6 := cell_of_block Hq.out 6
        refine bodyPost_ret (v := .agg #[.string p, .string y, .int .i64 rd, .int .i64 (r9 - 1), .int .i64 (t : Int), .int .i64 (t : Int), .slice av l.length cv]) (by simp [results, Tryz.results67, go_sem, y0, y1, y2, y3, y4, y5, y6]) rfl ?_
        exact ⟨⟨⟨p, y, rd, (r9 - 1), (t : Int), (t : Int), av, l, cv⟩, kk + 1 + 1, rfl, ⟨HR.out.1, HR.out.2.1⟩, fun ad e => by have := HS8.out.2.2 ad e; omega, ⟨hp, Hy.out, by constructor <;> (try dsimp only) <;> omega, by constructor <;> (try dsimp only) <;> omega, hll, Hl.out⟩, by omega, HR.out.2.2.1⟩, HR.out.2.2.2⟩
end Go.Proofs.YtmieegcgeolckaaGreatDoor
namespace Go.Proofs.YtmieegcgeolckaaGreatDoor
open Go.RowKit Go.Maps
set_option linter.unusedVariables false

/-- What pvs answers. -/
def PvsRes (w : World) (B tb k n : Nat) (e : Ending) (w' : World) : Prop :=
  ∃ (L : List Mem) (a' : Option Addr) (c' k' : Nat), e = .returned (.slice a' L.length c') ∧ Mems w' a' c' L ∧ (∀ ad, a' = some ad → w.heap.size ≤ ad.block) ∧ MFresh w' w.heap.size L ∧ (∀ m ∈ L, PvOk m) ∧ L.length ≤ n ∧ k' ≤ k + 200 ∧ Tape w' B tb k'

set_option maxRecDepth 100000 in
set_option maxHeartbeats 8000000 in
theorem made_pvs (B tb k n : Nat) (w : World) (ht : Tape w B tb k) (hk : k ≤ 50000) (hn : n ≤ 8) :
    Calls Tryz.prog 41 #[.pointer (some ⟨tb, 0, none⟩), .int .i64 (n : Int)] w fun e w' => PvsRes w B tb k n e w' ∧ Fr (Is tb) w w' := by
  obtain ⟨i0, hi0, hz0, hz1, hz2⟩ := info_parts infoM
  have htl := ht.lt
  have hBt := ht.le
  have hn1 := tape_next B tb k ((n : Int) + 1) w ht (by omega) (by omega) (by omega)
  go_enter Tryz.func41, Tryz.ntmps41
  go_wp2_with fail
  refine hn1.mono ?_
  rintro e w1 ⟨r, rfl, hr1, hr2, ht1, hf1⟩
  obtain ⟨r, rfl⟩ := Int.eq_ofNat_of_zero_le hr1
  have hf1' : Fr (TB tb w.heap.size) w w1 := hf1.mono (fun b _ h => .inl h)
  have hrn : r ≤ n := by omega
  clear hn1 hr1 hr2 hf1
  go_wp2_with fail
  go_loopw [5, 6] (fun v i wr => ∃ (L : List Mem) (av : Option Addr) (cv j kk : Nat), v = .slice av L.length cv ∧ i = .int .i64 (j : Int) ∧ L.length + j ≤ n ∧ kk + 20 * j ≤ k + 170 ∧ wr.ownsRow w.heap.size 31 7 (.slice av L.length cv) L.length (mflat L) ∧ MFresh wr w.heap.size L ∧ Hid (∀ m ∈ L, PvOk m) ∧ Tape wr B tb kk ∧ Fr (TB tb w.heap.size) w wr) (fun _ i _ => (intOf i).toNat)
  case atStart => exact ⟨[], none, 0, r, k + 1, rfl, rfl, by simp; omega, by omega, World.ownsRow_nil _ _ _ _, fun m hm => by simp at hm, fun m hm => by simp at hm, ht1, hf1'⟩
  case round =>
    obtain ⟨L, av, cv, j, kk, rfl, rfl, hLj, hkk, hown, hMF, Hsm, htr, hf⟩ := hrel
    by_cases hlt : 0 < j
    · have hlt' : (0 : Int) < j := by omega
      have hLl : L.length ≤ 8 := by omega
      have hj8 : j ≤ 8 := by omega
      have hpv := made_pv B tb kk wr htr (by omega)
      have hsr := hf.size
      clear htr
      go_wp2_with fail
      refine hpv.mono ?_
      rintro e w2 ⟨⟨m, k2, rfl, ⟨hS, hB⟩, hF, hok, hk2, ht2⟩, hf2⟩
      have hown2 := ownsRow_at hown hf2 (fun b h e => by have h1 := ownsRow_blk hown h; unfold From at h1; unfold Is at e; omega)
      have hMF2 := hMF.fr hf2 (fun b h1 h2 e => by unfold Is at e; omega)
      have hff2 : Fr (TB tb w.heap.size) w w2 := hf.step hf2 (fun b _ h => .inl h)
      have hs2 := hf2.size
      obtain ⟨mp, mi, mr, ms, mt, me, ma, ml, mc⟩ := m
      simp only at hS hB hF
      unfold Mem.vals
      have Hown := Lib.hid hown2
      have HR := Lib.hid (And.intro hMF2 (And.intro hff2 (And.intro hS (And.intro hB (And.intro hok ht2)))))
      have HF : Hid (∀ ad, ma = some ad → w.heap.size ≤ ad.block) := fun ad e => by have := hF ad e; omega
      have hsw : w.heap.size ≤ w2.heap.size := by omega
      clear hpv hf2 hown hMF hf hMF2 hff2 hS hB hF hok ht2
      go_wp2_with (at_builtin; refine wpList_append_own _ rfl _ _ 36 rfl w.heap.size 31 i0 (.agg #[.string ByteArray.empty, .string ByteArray.empty, .int .i64 0, .int .i64 0, .int .i64 0, .int .i64 0, .slice none 0 0]) 7 88 Tryz.underlying36 hi0 hz0 hz1 hz2 rfl (by decide) _ _ _ rfl (hown2.alloc _) ⟨w2.heap.size, 0, none⟩ 1 1 (Mem.vals ⟨mp, mi, mr, ms, mt, me, ma, ml, mc⟩).toList rfl rfl (cells_new _ (Mem.vals ⟨mp, mi, mr, ms, mt, me, ma, ml, mc⟩) _ rfl) (mvals_one _) (by unfold maxLen; omega) (by omega) (by first | omega | (simp; done) | (simp; omega)) ?_; intro v' w9 hown9 hgrow9 _; obtain ⟨av', cv', rfl⟩ := ownsRow_slice hown9)
      have hal : Fr No w2 (w2.alloc (.cells #[.string mp, .string mi, .int .i64 mr, .int .i64 ms, .int .i64 mt, .int .i64 me, .slice ma ml.length mc] 31)) := (Fr.refl _ _).alloc _
      have howa := Hown.out.alloc (.cells #[.string mp, .string mi, .int .i64 mr, .int .i64 ms, .int .i64 mt, .int .i64 me, .slice ma ml.length mc] 31)
      have hgf : Fr (fun b => (Value.slice av L.length cv).ownBlock = some b) (w2.alloc (.cells #[.string mp, .string mi, .int .i64 mr, .int .i64 ms, .int .i64 mt, .int .i64 me, .slice ma ml.length mc] 31)) w9 := Fr.of_grown hgrow9
      obtain ⟨hMF2, hff2, hS, hB, hok, ht2⟩ := HR.out
      have hMF9 : MFresh w9 w.heap.size (L ++ [⟨mp, mi, mr, ms, mt, me, ma, ml, mc⟩]) := MFresh.own (MFresh.snoc (hMF2.fr hal (fun _ _ _ => id)) (hS.no hal (fun _ => id)) (hB.fr hal (fun _ _ => id)) HF.out) howa hgf
      have hsm9 : ∀ m ∈ L ++ [(⟨mp, mi, mr, ms, mt, me, ma, ml, mc⟩ : Mem)], PvOk m := fun m hm => by
        rcases List.mem_append.1 hm with h | h
        · exact Hsm.out m h
        · obtain rfl : m = ⟨mp, mi, mr, ms, mt, me, ma, ml, mc⟩ := by simpa using h
          exact hok
      have ht9 := (ht2.fr hal (fun _ _ => id) id).fr hgf (fun b hb h => by have h2 := ownsRow_blk howa h; unfold From at h2; omega) (fun h => by have h2 := ownsRow_blk howa h; unfold From at h2; omega)
      have hf9 : Fr (TB tb w.heap.size) w w9 := (hff2.step hal (fun _ _ h => h.elim)).step hgf (fun b _ h => .inr (ownsRow_blk howa h))
      have HF9 := Lib.hid (And.intro hown9 (And.intro hMF9 (And.intro hsm9 (And.intro ht9 hf9))))
      clear hown9 hMF9 hsm9 ht9 hf9 hgf howa hal hgrow9 hown2 hMF2 hff2 hS hB hok ht2
      go_roundw
      case rel => exact ⟨L ++ [⟨mp, mi, mr, ms, mt, me, ma, ml, mc⟩], av', cv', j - 1, k2, by simp, by go_num, by simp; omega, by omega, by rw [List.length_append, mflat_snoc]; exact HF9.out.1, HF9.out.2.1, Lib.hid HF9.out.2.2.1, HF9.out.2.2.2.1, HF9.out.2.2.2.2⟩
      case measure => simp [intOf]; omega
    · obtain rfl : j = 0 := by omega
      obtain ⟨a', c', hv, hR, hfresh⟩ := Mems.of_own hown (fun m hm => (hMF m hm).1)
      cases hv
      have H := Lib.hid (And.intro hR (And.intro hfresh (And.intro hMF (And.intro htr (hf.mono (T := Is tb) (fun b hb h => by unfold TB at h; unfold Is; omega))))))
      clear hown hMF htr hf hR hfresh
      go_wp2_with fail
      go_ret
      exact ⟨⟨L, _, _, kk, rfl, H.out.1, H.out.2.1, H.out.2.2.1, Hsm.out, by omega, by omega, H.out.2.2.2.1⟩, H.out.2.2.2.2⟩
end Go.Proofs.YtmieegcgeolckaaGreatDoor
namespace Go.Proofs.YtmieegcgeolckaaGreatDoor
open Go.RowKit
set_option linter.unusedVariables false

theorem first_some {b : ByteArray × Int → Option Mem} {id : ByteArray} {s : Int} (h : (b (id, s)).isSome = true) (h1 : 1 ≤ s ∧ s ≤ 16) : ∃ m, b (id, leastSlot b id) = some m ∧ firstOf b id = m := by
  have hf : ∃ k, (List.range 16).find? (fun (k : Nat) => (b (id, (k : Int) + 1)).isSome) = some k := by
    rcases hh : (List.range 16).find? (fun (k : Nat) => (b (id, (k : Int) + 1)).isSome) with _ | k
    · have := List.find?_eq_none.1 hh (s - 1).toNat (List.mem_range.2 (by omega))
      rw [show (((s - 1).toNat : Nat) : Int) + 1 = s by omega] at this
      exact absurd h this
    · exact ⟨k, rfl⟩
  obtain ⟨k, hk⟩ := hf
  have hs := List.find?_some hk
  have hl : leastSlot b id = (k : Int) + 1 := by unfold leastSlot; rw [hk]; rfl
  obtain ⟨m, hm⟩ := Option.isSome_iff_exists.1 hs
  refine ⟨m, by rw [hl]; exact hm, ?_⟩
  unfold firstOf
  rw [hl, hm]; rfl
theorem filter_split (p : Nat → Bool) (l : List Nat) : (l.filter p).length + (l.filter fun k => !p k).length = l.length := by
  induction l with
  | nil => rfl
  | cons x t ih => cases h : p x <;> simp [h] <;> omega
/-- The laws of an array that stems from sound members. -/
structure ArrOk (A : Arr) : Prop where
  t : 1 ≤ A.t ∧ A.t ≤ 16
  ps : (A.ps.length : Int) = A.t
  n : A.n + ((lacksF A.ps A.ps.length).length : Int) = A.t
  nr : 0 ≤ A.n
  i : A.i ∈ pvIds
  l : A.l.length ≤ 2
  psz : ∀ x ∈ A.ps, x.size ≤ 100
theorem arr_ok {L : List Mem} (hL : ∀ m ∈ L, PvOk m) {id : ByteArray} {s : Int} (h : (best2 soundB L (id, s)).isSome = true) : ArrOk (buildA (best2 soundB L) id) := by
  obtain ⟨b, hb⟩ : ∃ b, b = best2 soundB L := ⟨_, rfl⟩
  have hm : ∀ x s m, b (x, s) = some m → m ∈ L ∧ soundB m = true ∧ m.i = x ∧ m.s = s := fun x s m e => by
    rw [hb] at e
    obtain ⟨h1, h2, h3⟩ := best2_mem L (x, s) m e
    simp only [Prod.mk.injEq] at h3
    exact ⟨h1, h2, h3.1, h3.2⟩
  rw [← hb] at h ⊢
  obtain ⟨m0, hm0⟩ := Option.isSome_iff_exists.1 h
  have hs : ∀ x s m, b (x, s) = some m → m.p.toList.isEmpty = false ∧ (1 ≤ m.s ∧ m.s ≤ 16) ∧ (1 ≤ m.t ∧ m.t ≤ 16) := fun x s m e => by
    have h2 := (hm x s m e).2.1
    unfold soundB at h2
    simp only [Bool.and_eq_true, decide_eq_true_eq, Bool.not_eq_true'] at h2
    exact ⟨h2.1.1, h2.1.2, h2.2⟩
  have h16 : 1 ≤ s ∧ s ≤ 16 := by
    have h1 := (hs id s m0 hm0).2.1
    have h2 := (hm id s m0 hm0).2.2.2
    omega
  obtain ⟨m, hlm, hfm⟩ := first_some h h16
  obtain ⟨hmL, _, hmi, _⟩ := hm _ _ m hlm
  have hmt := (hs _ _ m hlm).2.2
  have hok := hL m hmL
  obtain ⟨T, hT⟩ : ∃ T : Nat, m.t = (T : Int) := ⟨m.t.toNat, by omega⟩
  have hTn : m.t.toNat = T := by omega
  have hlk : ∀ k, k < T → lackAt ((List.range T).map (pathAt b id)) k = !(b (id, (k : Int) + 1)).isSome := fun k hk => by
    unfold lackAt
    rw [List.getElem?_map, List.getElem?_range hk]
    simp only [Option.map_some]
    unfold pathAt
    rcases he : b (id, (k : Int) + 1) with _ | x
    · simp [ByteArray.toList_eq]
    · simp only [Option.isSome_some, Bool.not_true]
      exact (hs _ _ x he).1
  have hfl : (List.range T).filter (lackAt ((List.range T).map (pathAt b id))) = (List.range T).filter fun (k : Nat) => !(b (id, (k : Int) + 1)).isSome :=
    List.filter_congr (fun k hk => hlk k (List.mem_range.1 hk))
  unfold buildA
  rw [hfm, hT]
  refine ⟨by dsimp only; omega, by dsimp only; simp, ?_, by dsimp only; omega, by dsimp only; rw [← hmi]; exact hok.i, hok.n, ?_⟩
  · dsimp only
    have e1 : ((List.range ((T : Nat) : Int).toNat).map (pathAt b id)).length = T := by simp
    rw [e1]
    unfold lacksF
    rw [List.length_map, show ((T : Nat) : Int).toNat = T from by omega, hfl]
    have := filter_split (fun (k : Nat) => (b (id, (k : Int) + 1)).isSome) (List.range T)
    rw [List.length_range] at this
    omega
  · dsimp only
    intro x hx
    obtain ⟨k, _, rfl⟩ := List.mem_map.1 hx
    unfold pathAt
    rcases he : b (id, (k : Int) + 1) with _ | y
    · exact (by decide : (⟨#[]⟩ : ByteArray).size ≤ 100)
    · exact (hL y (hm _ _ y he).1).p
theorem lv_all : ∀ i ∈ pvIds, lvOk i 1 = true ∧ lvOk i 2 = true := by
  have h : ∀ i ∈ pvIds, ∀ s ∈ [(⟨#[49]⟩ : ByteArray), ⟨#[50]⟩], isName ((⟨#[108, 118, 45]⟩ : ByteArray) ++ i ++ (⟨#[45]⟩ : ByteArray) ++ s) = true := by
    intro i hi s hs
    simp only [pvIds, List.mem_cons, List.not_mem_nil, or_false] at hi hs
    rcases hi with rfl | rfl | rfl <;> rcases hs with rfl | rfl <;> · simp [isName, ByteArray.toList_eq, inSet, nameBA]; decide
  intro i hi
  refine ⟨?_, ?_⟩
  · unfold lvOk lvT; rw [v_it1, h i hi _ (by simp)]; decide
  · unfold lvOk lvT; rw [v_it2, h i hi _ (by simp)]; decide
theorem wantL_len {A : Arr} (h : ArrOk A) : (wantL A.i A.t A.n A.l 1).length = if A.n = A.t then A.l.length else 0 := by
  unfold wantL
  split
  · rename_i e
    have h2 := h.l
    obtain ⟨h3, h4⟩ := lv_all A.i h.i
    unfold wantF
    rw [List.length_map]
    rcases hl : A.l.length with _ | _ | _ | n
    · rfl
    · simp [List.range_succ_eq_map, h3]
    · simp [List.range_succ_eq_map, h3, h4]
    · omega
  · rfl
end Go.Proofs.YtmieegcgeolckaaGreatDoor
namespace Go.Proofs.YtmieegcgeolckaaGreatDoor
open Go.RowKit Go.Maps
set_option linter.unusedVariables false

theorem pv_small {L : List Mem} (h : ∀ m ∈ L, PvOk m) (hl : L.length ≤ 100) : MemSmall2 L := by
  refine ⟨by omega, fun m hm => by have := (h m hm).p; omega, fun m hm => by have := pvIds_size _ (h m hm).i; omega, fun m hm => by have := (h m hm).n; omega, fun m hm => WalkArith.wf_i64 (by have := (h m hm).s; omega)⟩
set_option maxRecDepth 100000 in
set_option maxHeartbeats 8000000 in
theorem all_walk (la : Option Addr) (lc : Nat) (l : List Int) (w : World) (hl : Ints w la lc l) (hE : Env w) :
    Calls Tryz.prog 12 #[.slice la l.length lc] w fun e w' => e = .returned (.bool true) ∧ Fr No w w' := by
  have hx : Fr No w (w.alloc (.cells #[.slice la l.length lc, .int .i64 0] 26)) := (Fr.refl _ _).alloc _
  have ht := Tape.make hl 26
  have hE0 := hE.no hx
  have hs0 : (w.alloc (.cells #[.slice la l.length lc, .int .i64 0] 26)).heap.size = w.heap.size + 1 := by simp
  have hsz := hE.sz
  obtain ⟨W0, hW0⟩ : ∃ W0, W0 = w.alloc (.cells #[.slice la l.length lc, .int .i64 0] 26) := ⟨_, rfl⟩
  rw [← hW0] at hx ht hE0 hs0
  have hs0' : w.heap.size + 1 ≤ W0.heap.size := by omega
  clear hs0
  have hpv := made_pvs w.heap.size w.heap.size 0 8 W0 ht (by omega) (by omega)
  have Hx := Lib.hid hx
  clear hx hE
  go_enter Tryz.func12, Tryz.ntmps12
  go_wp2_with fail
  rw [← hW0]
  clear hW0
  refine hpv.mono ?_
  rintro e w1 ⟨⟨L, a1, c1, k1, rfl, hL, hLf, hLm, hLo, hLl, hk1, ht1⟩, hf1⟩
  have hE1 := hE0.fr hf1 (fun b hb h => by unfold Is at h; omega)
  have hfw1 : Fr No w w1 := (Hx.out.mono (fun _ _ h => h)).trans hf1 (fun _ _ h => h) (fun b hb h => by unfold Is at h; omega)
  obtain ⟨m0, hm1⟩ := hE1.len
  have hs1 := hf1.size
  have hg := v_group a1 c1 L m0 w1 hL (pv_small hLo (by omega)) hm1 (by omega)
  have HLo := Lib.hid hLo
  clear hpv ht1 hf1 hE0 ht hLf hLm hL hm1 hLo
  go_wp2_with fail
  refine hg.mono ?_
  rintro e w2 ⟨⟨ga, gc, O, ids, rfl, hO, _, _, hids, hOe, hil⟩, hf2⟩
  have HO : Hid (∀ A ∈ O, ArrOk A.toArr) := fun A hA => by
    have h1 : A.toArr ∈ O.map ArrM.toArr := List.mem_map.2 ⟨A, hA, rfl⟩
    rw [hOe] at h1
    obtain ⟨id, hid, he⟩ := List.mem_map.1 h1
    obtain ⟨s, hs⟩ := (hids.mem id).1 hid
    rw [← he]
    exact arr_ok HLo.out hs
  have hOl : O.length ≤ 1000 := by
    have := congrArg List.length hOe
    simp only [List.length_map] at this
    omega
  have hE2 := hE1.no hf2
  have hfw2 := hfw1.step hf2 (fun _ _ h => h)
  have Hfw2 := Lib.hid hfw2
  have hm := hO.lenmax
  clear hg hids hOe hf2 hE1 hfw1 hfw2
  go_wp2_with fail
  go_loopw [4] (fun i wr => ∃ j : Nat, j ≤ O.length ∧ i = .int .i64 (j : Int) ∧ Fr No w2 wr) (fun i _ => O.length - (intOf i).toNat)
  case atStart => exact ⟨0, by omega, rfl, Fr.refl _ _⟩
  case round =>
    obtain ⟨j, hj, rfl, hf⟩ := hrel
    by_cases hlt : j < O.length
    · have hlt' : (j : Int) < O.length := by omega
      obtain ⟨b, off, A, rfl, hxj, ⟨hP, hI⟩, hat, _⟩ := (hO.no hf (fun _ => id)).elem hlt
      have hok := HO.out A (List.mem_of_getElem? hxj)
      obtain ⟨⟨ai, ps, at_, ae, an, al⟩, pa, pc, ia, ic⟩ := A
      obtain ⟨c0, c1, c2, c3, c4, c5⟩ := hat
      simp only at c0 c1 c2 c3 c4 c5 hP hI hok
      have hwl := wantL_len hok
      simp only at hwl
      obtain ⟨hot, hop, hon, honr, hoi, hol, hopz⟩ := hok
      simp only at hot hop hon honr hoi hol hopz
      have his := pvIds_size _ hoi
      subst hop
      have Hwl := Lib.hid hwl
      obtain ⟨nl, hnl⟩ : ∃ nl, nl = (lacksF ps ps.length).length := ⟨_, rfl⟩
      rw [← hnl] at hon
      have Hnl := Lib.hid hnl
      have Hf := Lib.hid hf
      clear hxj hwl hnl hoi hopz hf
      have hx3 : Fr No wr (wr.alloc (.cells #[.string ai, .slice pa ps.length pc, .int .i64 (ps.length : Int), .int .i64 ae, .int .i64 an, .slice ia al.length ic] 70)) := (Fr.refl _ _).alloc _
      have q3 := block_alloc wr (.cells #[.string ai, .slice pa ps.length pc, .int .i64 (ps.length : Int), .int .i64 ae, .int .i64 an, .slice ia al.length ic] 70)
      have hE3 := (hE2.no Hf.out).no hx3
      have hP3 := hP.no hx3 (fun _ => id)
      have hI3 := hI.no hx3 (fun _ => id)
      have Hf3 := Lib.hid (Hf.out.step hx3 (fun _ _ h => h))
      go_upto_region 6 with (fail)
      generalize wr.alloc (.cells #[.string ai, .slice pa ps.length pc, .int .i64 (ps.length : Int), .int .i64 ae, .int .i64 an, .slice ia al.length ic] 70) = W3 at *
      clear hx3 hP hI c0 c1 c2 c3 c4 c5
      have hpl : ps.length ≤ 1000000 := by omega
      refine region_sig No [(0, false), (2, false), (1, true), (3, true), (4, false), (5, false)] (by kernel_rfl) (by kernel_rfl) (fun w0 hf0 => ?_)
      have q0 := hf0.heap q3 id
      have d0 : ∀ g : Gr No w0, g.W.cell? ⟨wr.heap.size, 0, none⟩ = some (.string ai) := fun g => g.fr.cell (cell_of_block q0 0) id
      have d1 : ∀ g : Gr No w0, g.W.cell? ⟨wr.heap.size, 1, none⟩ = some (.slice pa ps.length pc) := fun g => g.fr.cell (cell_of_block q0 1) id
      have d2 : ∀ g : Gr No w0, g.W.cell? ⟨wr.heap.size, 2, none⟩ = some (.int .i64 (ps.length : Int)) := fun g => g.fr.cell (cell_of_block q0 2) id
      have d3 : ∀ g : Gr No w0, g.W.cell? ⟨wr.heap.size, 3, none⟩ = some (.int .i64 ae) := fun g => g.fr.cell (cell_of_block q0 3) id
      have d4 : ∀ g : Gr No w0, g.W.cell? ⟨wr.heap.size, 4, none⟩ = some (.int .i64 an) := fun g => g.fr.cell (cell_of_block q0 4) id
      have d5 : ∀ g : Gr No w0, g.W.cell? ⟨wr.heap.size, 5, none⟩ = some (.slice ia al.length ic) := fun g => g.fr.cell (cell_of_block q0 5) id
      have hwa := v_want ai (ps.length : Int) ae an 1 pa ps.length pc ia ic al w0 (hE3.no hf0) (by omega) (hI3.no hf0 (fun _ => id)) (by omega)
      have hP0 := hP3.no hf0 (fun _ => id)
      have Hf0 := Lib.hid (Hf3.out.step hf0 (fun _ _ h => h))
      clear q3 hf0 hE3 hI3 hP3
      repeat (apply sig_q; exact rfl; exact rfl; exact rfl; intro K hK; go_big_quiet_op; go_big_quiet_on)
      clear d0 d1 d2 d3 d4 d5
      apply sig_m
      exact rfl
      go_wp2_with fail
      refine hwa.mono ?_
      rintro e w5 ⟨⟨va, vc, V, rfl, hV, hVe⟩, hf5⟩
      have hVl : V.length = if an = (ps.length : Int) then al.length else 0 := by rw [hVe]; exact Hwl.out
      have HVl := Lib.hid hVl
      have hP5 := hP0.no hf5 (fun _ => id)
      have q5 := hf5.heap q0 id
      have Hf5 := Lib.hid (Hf0.out.step hf5 (fun _ _ h => h))
      have hla := v_lacks ai (ps.length : Int) ae an (.slice ia al.length ic) pa pc ps w5 hP5 hpl
      rw [← Hnl.out] at hla
      have hf5' := hf5
      clear hwa hV hVe hVl q0 hP0 hf5
      go_wp2_with fail
      refine OnlyN.mk ⟨hf5', ?_⟩
      clear hf5'
      apply sig_m
      exact rfl
      go_wp2_with fail
      refine hla.mono ?_
      rintro e w6 ⟨⟨ya, yc, rfl, hY⟩, hf6⟩
      have q6 := hf6.heap q5 id
      have Hf6 := Lib.hid (Hf5.out.step hf6 (fun _ _ h => h))
      have hf6' := hf6
      clear hla hY q5 hP5 hf6
      go_wp2_with fail
      refine OnlyN.mk ⟨hf6', ?_⟩
      clear hf6'
      repeat (apply sig_q; exact rfl; exact rfl; exact rfl; intro K hK; go_big_quiet_op; go_big_quiet_on)
      refine sig_end ?_
      have u1 : w6.cell? ⟨wr.heap.size, 1, none⟩ = some (.slice pa ps.length pc) := cell_of_block q6 1
      have u2 : w6.cell? ⟨wr.heap.size, 2, none⟩ = some (.int .i64 (ps.length : Int)) := cell_of_block q6 2
      have u4 : w6.cell? ⟨wr.heap.size, 4, none⟩ = some (.int .i64 an) := cell_of_block q6 4
      have u5 : w6.cell? ⟨wr.heap.size, 5, none⟩ = some (.slice ia al.length ic) := cell_of_block q6 5
      clear q6
      by_cases han : an = (ps.length : Int)
      · have e1 : V.length = al.length := by rw [HVl.out, if_pos han]
        have e2 : nl = 0 := by omega
        rw [e1]
        subst e2
        subst han
        clear e1
        go_wp2_with fail
        go_roundw
        case rel => exact ⟨j + 1, by omega, by go_num, Hf6.out⟩
        case measure => simp [intOf]; omega
      · have e1 : V.length = 0 := by rw [HVl.out, if_neg han]
        have e2 : 0 < nl := by omega
        have e3 : (0 : Int) < (nl : Int) := by omega
        have e4 : nl ≤ 1000 := by omega
        rw [e1]
        clear e1
        go_wp2_with fail
        go_roundw
        case rel => exact ⟨j + 1, by omega, by go_num, Hf6.out⟩
        case measure => simp [intOf]; omega
    · have hkn := known34 wr (hE2.no hf)
      have Hf := Lib.hid hf
      clear hf
      go_wp2_with fail
      refine hkn.mono ?_
      rintro e w9 ⟨rfl, hf9⟩
      have H := Lib.hid ((Hfw2.out.step Hf.out (fun _ _ h => h)).step hf9 (fun _ _ h => h))
      clear hf9 hkn
      go_wp2_with fail
      go_ret
      exact ⟨rfl, H.out⟩
end Go.Proofs.YtmieegcgeolckaaGreatDoor
namespace Go.Proofs.YtmieegcgeolckaaGreatDoor.volumeAll
open Go.ChangeShapes Go.WideShapes Go.ChangeAt Go.RowKit
set_option linter.unusedVariables false

theorem own : ownKnob Tryz.prog.godebug = none := by kernel_rfl
theorem laidOut : laidOutB Tryz.prog = true := by kernel_rfl

set_option maxRecDepth 100000 in
theorem lifted (os : Os) (started : os.Started) (H : Type) (enc : TypeId × Value → H) :
    ReturnsInHanded {} Tryz.checked os 12 .any (fun w args => (Rows.volumeAllSpec.pre enc Tryz.prog Tryz.f12 Rows.volumeAllRow.domain false w args ∧ laidMetH Tryz.prog Rows.volumeAllRow.laid w) ∧ sizedMet enc Tryz.prog Tryz.f12 (OpenSpec.ofChange Rows.volumeAllSpec) false w args)
      (Rows.volumeAllSpec.post enc Tryz.prog Tryz.f12 false true false false) := by
  refine returns_laid_shaped (C := Tryz.checked) (X := fun w _ => laidMetH Tryz.prog Rows.volumeAllRow.laid w) (fun _ _ _ hh h => h.of_heap hh) own started (by kernel_rfl) Tryz.func12
    (ChangeSpec.witness_shaped (enc := enc) (C := Tryz.checked) (os := os) (X := fun w _ => laidMetH Tryz.prog Rows.volumeAllRow.laid w) false (World.laidAll Tryz.prog os Rows.volumeAllRow.laid) #[.slice none 0 0] 8 (World.laidAll_os _ _ _)
      (World.shaped_of_ZipB (by kernel_rfl) (by kernel_rfl)) (by kernel_rfl) (by kernel_rfl) (by kernel_rfl)
      (by rw [MakeChecks.laidMetH_plain _ _ _ (by kernel_rfl)]; exact laidMet_laidAll _ (by kernel_rfl) (by kernel_rfl))) ?_
  intro W base args ds gs before hval0 hW hL hsh
  have hval : ∀ (j : Nat) t v, Tryz.f12.params[j]? = some t → args[j]? = some v → Value.okWide Tryz.prog W .any base t v := hval0
  have hW' := hW
  obtain ⟨p, q, hA0, hV, rfl, hfz, hnd⟩ := hW
  have hA : DataW.TrodAll enc Tryz.prog W 0 (fun _ => true) true Tryz.f12.params.toList args.toList ds p := hA0
  rw [Tryz.params12] at hA hval
  obtain ⟨v0, vs0, d0, ds0, p0, q0, hargs, rfl, rfl, h0, r0⟩ := trodAll_cons hA
  obtain ⟨rfl, rfl, rfl⟩ := trodAll_nil r0
  obtain rfl : args = #[v0] := by cases args; simp_all
  obtain ⟨rfl, rfl⟩ := trodVars_none hV
  obtain ⟨a0, len0, cap0, rfl⟩ := okWide_slice Tryz.underlying22 (hval 0 22 v0 rfl rfl)
  have k0 := h0
  have lt0 : ∀ x ∈ p0, x.block < W.heap.size := by obtain ⟨m, hm⟩ := k0; exact DataW.trod_lt m _ _ _ hm
  obtain ⟨l0, rfl, hl0⟩ : ∃ l : List Int, l.length = len0 ∧ Ints W a0 cap0 l := by
    obtain ⟨fuel, hf⟩ := h0
    rcases open_ints Tryz.underlying22 Tryz.underlying3 (by kernel_rfl) hf with ⟨hcs, _⟩ | ⟨x, l, c, zs, hcs, _, hl, hm, hz, _, hcell, hwz⟩
    · simp [Value.cells] at hcs
      obtain ⟨rfl, rfl, rfl⟩ := hcs
      exact Ints.of_isRow (zs := []) (.inl ⟨rfl, rfl, rfl, rfl⟩)
    · simp [Value.cells] at hcs
      obtain ⟨rfl, rfl, rfl⟩ := hcs
      exact Ints.of_isRow (zs := zs) (.inr ⟨_, rfl, hl, hm, by simpa using hz, hcell, hwz⟩)
  rw [MakeChecks.laidMetH_plain _ _ _ (by kernel_rfl)] at hL
  have hE := env_of hsh hL
  clear hA0 hval0
  refine (all_walk a0 cap0 l0 W hl0 hE).mono fun e W' ⟨he, hfr⟩ => ?_
  have bel : Below W.heap.size W W' := hfr.below (Nat.le_refl _) (fun b hb e => e)
  subst he
  exact ⟨_, rfl, _, _, _, [], _, [], hW', trodAll_mk1 (shut_bool Tryz.underlying4 _), (trodAll_cons_mk (Below.trod laidOut (by kernel_rfl) (of_decide_eq_true (by kernel_rfl)) k0 bel lt0) trodAll_mk0), rfl, bel.frame _, fun h => by cases h⟩

theorem isNamed : Tryz.pinned.checked.prog.funcNamed Rows.volumeAllRow.func = some 12 := by kernel_rfl
theorem and2 {a b : Bool} (h : a = true) (k : b = true) : (a && b) = true := by rw [h, k]; rfl
theorem c0 : (Rows.volumeAllRow.wf (OpenSpec.ofChange Rows.volumeAllSpec)) = true := by kernel_rfl
theorem c1 : (laidOutB Tryz.pinned.checked.prog) = true := by kernel_rfl
theorem c2 : (mapsRowed Tryz.pinned.checked.prog) = true := by kernel_rfl
theorem c3 : (Tryz.f12.params.all (Tryz.pinned.checked.prog.readableRec ·)) = true := by kernel_rfl
theorem c4 : (namedTie Tryz.pinned.checked.prog Rows.volumeAllRow.named Rows.volumeAllSpec.vars) = true := by kernel_rfl
theorem c5 : ((Rows.volumeAllRow.stops == [])) = true := by kernel_rfl
theorem c6 : ((Tryz.pinned.checked.prog.stops == [])) = true := by kernel_rfl
theorem c7 : ((Rows.volumeAllRow.knobs == [])) = true := by kernel_rfl
theorem c8 : ((Tryz.pinned.checked.prog.stopKnobs == [])) = true := by kernel_rfl
theorem c9 : ((Rows.volumeAllRow.inPlace == Tryz.pinned.checked.prog.inPlace 12)) = true := by kernel_rfl
theorem c10 : ((Rows.volumeAllRow.unfollowed == Tryz.pinned.checked.prog.unfollowed 12)) = true := by kernel_rfl
theorem c11 : ((Rows.volumeAllRow.recurses == Tryz.pinned.checked.prog.recurses 12)) = true := by kernel_rfl
theorem c12 : ((Rows.volumeAllRow.named == Tryz.pinned.checked.prog.varsNamed 12)) = true := by kernel_rfl
theorem c13 : ((Rows.volumeAllRow.maps == (Tryz.f12.params.toList ++ Rows.volumeAllSpec.plain.varTypes Tryz.pinned.checked.prog).any (Tryz.pinned.checked.prog.mapsRec ·))) = true := by kernel_rfl
theorem c14 : ((Rows.volumeAllRow.ifaces == (Tryz.f12.params.toList ++ Rows.volumeAllSpec.plain.varTypes Tryz.pinned.checked.prog).any (Tryz.pinned.checked.prog.ifacesRec ·))) = true := by kernel_rfl
theorem c15 : ((Rows.volumeAllRow.mapsOut == Tryz.pinned.checked.prog.mapsAmong Tryz.f12.resultTypes.toList)) = true := by kernel_rfl
theorem c16 : ((Rows.volumeAllRow.loops == (Tryz.f12.params.toList ++ Rows.volumeAllSpec.plain.varTypes Tryz.pinned.checked.prog).any (Tryz.pinned.checked.prog.loopsFrom ·))) = true := by kernel_rfl
theorem c17 : ((Rows.volumeAllRow.wideKeys == (Tryz.f12.params.toList ++ Rows.volumeAllSpec.plain.varTypes Tryz.pinned.checked.prog ++ Tryz.f12.resultTypes.toList).any (Tryz.pinned.checked.prog.wideKeysFrom ·))) = true := by kernel_rfl
theorem c18 : (Rows.volumeAllSpec.vars.all (Tryz.pinned.checked.prog.varReadable ·)) = true := by kernel_rfl
theorem c19 : (Tryz.f12.resultTypes.all (fun t => Tryz.pinned.checked.prog.readableRec t && decide (t < Tryz.pinned.checked.prog.types.size))) = true := by kernel_rfl
theorem c20 : ((Rows.volumeAllRow.ifacesOut == Tryz.f12.resultTypes.toList.any (Tryz.pinned.checked.prog.ifacesRec ·))) = true := by kernel_rfl
theorem c21 : ((Rows.volumeAllRow.loopsOut == Tryz.f12.resultTypes.toList.any (Tryz.pinned.checked.prog.loopsFrom ·))) = true := by kernel_rfl
theorem c22 : ((Rows.volumeAllRow.plainKeys == Tryz.pinned.checked.prog.plainKeys)) = true := by kernel_rfl
theorem c23 : (Rows.volumeAllRow.shortTexts.isNone) = true := by kernel_rfl
theorem c24 : (Tryz.pinned.checked.prog.stopsHeard) = true := by kernel_rfl
theorem c25 : (Tryz.pinned.checked.prog.mayEnter) = true := by kernel_rfl
theorem c26 : ((Rows.volumeAllRow.lifted == Tryz.pinned.checked.prog.liftsFinal)) = true := by kernel_rfl
theorem c27 : ((Tryz.pinned.checked.prog.make == some Rows.volumeAllRow.make)) = true := by kernel_rfl
theorem c28 : ((Rows.volumeAllRow.kinds == (if Rows.volumeAllRow.domain.isEmpty then [] else Tryz.f12.params.toList.map fun t => match Tryz.pinned.checked.prog.underlying t with | some (.int k) => some k | _ => none))) = true := by kernel_rfl
theorem c29 : ((Rows.volumeAllRow.pinned == Rows.volumeAllRow.pinnedBy)) = true := by kernel_rfl
theorem c30 : ((Rows.volumeAllRow.veiled == (Tryz.f12.params.toList ++ Rows.volumeAllSpec.plain.varTypes Tryz.pinned.checked.prog ++ Tryz.f12.resultTypes.toList).any (Tryz.pinned.checked.prog.veiledRec ·))) = true := by kernel_rfl
theorem c31 : (Rows.volumeAllRow.veiledFits Tryz.pinned.checked.prog Tryz.f12.params.toList (Tryz.f12.params.toList ++ Rows.volumeAllSpec.plain.varTypes Tryz.pinned.checked.prog ++ Tryz.f12.resultTypes.toList)) = true := by kernel_rfl
set_option maxRecDepth 100000 in
theorem closed : joinedFacts Tryz.pinned.checked.prog 12 Tryz.f12 Rows.volumeAllSpec Rows.volumeAllRow = true := by
  unfold joinedFacts
  exact (and2 (and2 (and2 (and2 (and2 (and2 (and2 (and2 (and2 (and2 (and2 (and2 (and2 (and2 (and2 (and2 (and2 (and2 (and2 (and2 (and2 (and2 (and2 (and2 (and2 (and2 (and2 (and2 (and2 (and2 (and2 c0 c1) c2) c3) c4) c5) c6) c7) c8) c9) c10) c11) c12) c13) c14) c15) c16) c17) c18) c19) c20) c21) c22) c23) c24) c25) c26) c27) c28) c29) c30) c31)
theorem inst : Tryz.f12.isInstance Tryz.pinned.checked.prog Rows.volumeAllRow.origin Rows.volumeAllRow.targs := of_decide_eq_true (by kernel_rfl)
theorem wrap : Tryz.f12.isWrapper Tryz.pinned.checked.prog Rows.volumeAllRow.wrapper Rows.volumeAllRow.mainSum := by
  unfold Func.isWrapper; first | (rw [if_pos (by decide +kernel)]; kernel_rfl) | (rw [if_neg (by decide +kernel)]; exact ⟨rfl, rfl⟩)
theorem over : Rows.volumeAllRow.holds Tryz.pinned (OpenSpec.ofChange Rows.volumeAllSpec) :=
  OpenClaim.holds_of_wide 12 Tryz.f12 rfl rfl rfl rfl rfl rfl rfl ⟨rfl, rfl, rfl, rfl, rfl⟩ rfl rfl rfl rfl rfl isNamed Tryz.func12 closed inst wrap
    (fun os started H enc _ => lifted os started H enc)

theorem t1 : Rows.volumeAllRow.wfByText (OpenSpec.ofChange Rows.volumeAllSpec) = true := by kernel_rfl
theorem t2 : Tryz.pinned.checked.prog.mainIs = some ((true, "177d71cd04eb8f01a4c58fd606c8e7c617fc26990225ed53480681c1f264cbbf").1, (true, "177d71cd04eb8f01a4c58fd606c8e7c617fc26990225ed53480681c1f264cbbf").2.toList) := by kernel_rfl
theorem t3 : true = Tryz.pinned.checked.prog.looks [] := by kernel_rfl
theorem t4 : false = Rows.volumeAllRow.goesBy Tryz.pinned.checked.prog := by kernel_rfl
theorem t5 : Tryz.prog.funcNamed "coldplug/coldpluglaw34.VolumeAll" = some 12 := by kernel_rfl
theorem t6 : ([22].all fun u => !Tryz.prog.wantsStandIn u) = true := by kernel_rfl
theorem proved : Rows.VolumeAllCardSaid :=
  Claim7.holds_tied_plain_at .later [] [.data, .data, .data, .data, .sentinel, .sentinel, .pinned, .pinned] true (true, "177d71cd04eb8f01a4c58fd606c8e7c617fc26990225ed53480681c1f264cbbf") true over (fun _ h => by cases h) t1 (fun _ h => by cases h) volumeAll_row_tie rfl ⟨rfl, rfl⟩ t2 rfl
    (fun f fn hf hfn => by
      obtain rfl : f = 12 := Option.some.inj (t5.symm.trans hf) |>.symm
      obtain rfl : fn = Tryz.f12 := (Option.some.inj (Tryz.func12.symm.trans hfn)).symm
      exact ⟨t3, fun j t ht => by
        rw [Tryz.params12] at ht
        have hm : t ∈ [22] := by simpa using Array.mem_of_getElem? ht
        have hall : ([22].all fun u => !Tryz.prog.wantsStandIn u) = true := t6
        exact (show Tryz.prog.wantsStandIn t = false by simpa using List.all_eq_true.1 hall t hm)⟩)
    t4
#print axioms proved
end Go.Proofs.YtmieegcgeolckaaGreatDoor.volumeAll
