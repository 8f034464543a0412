/- One, Contents. -/
import Derived.Test.YtpnpjaemlflplaaGreatDoorT8
namespace Go.Proofs.YtpnpjaemlflplaaGreatDoor
open Go.RowKit Go.Maps
set_option linter.unusedVariables false

/-- One text of a list is handed back. -/
def OneOf (l : List ByteArray) (e : Ending) : Prop := ∃ s, e = .returned (.string s) ∧ s ∈ l

set_option maxHeartbeats 1000000 in
theorem tape_one (B tb k : Nat) (a : Option Addr) (cap : Nat) (l : List ByteArray) (w : World) (ht : Tape w B tb k) (hk : k ≤ 1000000000000) (hl : Strs w a cap l) (h1 : 1 ≤ l.length) (h2 : l.length ≤ 4294967296) (htb : ∀ ad, a = some ad → ad.block ≠ tb) :
    Calls Tryz.prog 93 #[.pointer (some ⟨tb, 0, none⟩), .slice a l.length cap] w fun e w' => OneOf l e ∧ Tape w' B tb (k + 1) ∧ Fr (Is tb) w w' := by
  have hne : ((l.length : Int) == 0) = false := by simp; intro h; subst h; simp at h1
  go_enter Tryz.func93, Tryz.ntmps93
  go_wp2_with fail
  refine (tape_next B tb k l.length _ ht hk (by omega) (by omega)).mono ?_
  rintro e w1 ⟨r, rfl, hr1, hr2, ht1, hf1⟩
  obtain ⟨r, rfl⟩ := Int.eq_ofNat_of_zero_le hr1
  have hlt : r < l.length := by omega
  have hl1 := hl.fr hf1 (fun ad e _ h => htb ad e h)
  obtain ⟨b, off, x, rfl, hx, hc⟩ := hl1.at hlt
  have Hx := Lib.hid hx
  clear hx
  go_wp2_with fail
  go_ret
  exact ⟨⟨x, rfl, List.mem_of_getElem? Hx.out⟩, ht1, hf1⟩

/-- The contents that Contents hands back. -/
def contents : List ByteArray := [
  ⟨#[]⟩,
  ⟨#[102, 115, 58, 102, 58]⟩,
  ⟨#[102, 115, 58, 103, 58, 76]⟩,
  ⟨#[114, 97, 105, 100, 58, 114, 58, 49, 47, 50, 47, 49, 40, 102, 115, 58, 102, 58, 41]⟩,
  ⟨#[114, 97, 105, 100, 58, 114, 58, 50, 47, 50, 47, 49, 40, 102, 115, 58, 102, 58, 41]⟩,
  ⟨#[99, 114, 121, 112, 116, 58, 99, 40, 102, 115, 58, 103, 58, 41]⟩,
  ⟨#[112, 118, 58, 118, 58, 49, 47, 49, 40, 102, 115, 58, 102, 58, 44, 99, 114, 121, 112, 116, 58, 99, 40, 102, 115, 58, 104, 58, 41, 41]⟩,
  ⟨#[116, 97, 98, 108, 101, 58, 116, 40, 102, 115, 58, 102, 58, 44, 99, 114, 121, 112, 116, 58, 99, 40, 114, 97, 105, 100, 58, 114, 58, 49, 47, 50, 47, 49, 40, 102, 115, 58, 120, 58, 41, 41, 41]⟩,
  ⟨#[116, 97, 98, 108, 101, 58, 116, 40, 114, 97, 105, 100, 58, 114, 58, 49, 47, 50, 47, 49, 40, 116, 97, 98, 108, 101, 58, 117, 40, 102, 115, 58, 102, 58, 41, 41, 44, 114, 97, 105, 100, 58, 114, 58, 50, 47, 50, 47, 49, 40, 116, 97, 98, 108, 101, 58, 117, 40, 102, 115, 58, 102, 58, 41, 41, 41]⟩,
  ⟨#[114, 97, 105, 100, 58, 114, 58, 49, 47, 49, 47, 49, 40, 114, 97, 105, 100, 58, 114, 58, 49, 47, 49, 47, 49, 40, 102, 115, 58, 102, 58, 41, 41]⟩,
  ⟨#[112, 118, 58, 118, 58, 49, 47, 50, 40, 102, 115, 58, 102, 58, 41]⟩,
  ⟨#[112, 118, 58, 118, 58, 50, 47, 50, 40, 102, 115, 58, 102, 58, 41]⟩,
  ⟨#[99, 114, 121, 112, 116, 58, 100, 40, 112, 118, 58, 118, 58, 49, 47, 49, 40, 114, 97, 105, 100, 58, 115, 58, 49, 47, 51, 47, 50, 40, 102, 115, 58, 121, 58, 41, 41, 41]⟩,
  ⟨#[114, 97, 105, 100, 58, 115, 58, 50, 47, 51, 47, 50, 40, 102, 115, 58, 121, 58, 41]⟩,
  ⟨#[114, 97, 105, 100, 58, 115, 58, 51, 47, 51, 47, 50, 40, 102, 115, 58, 121, 58, 41]⟩,
  ⟨#[110, 111, 110, 115, 101, 110, 115, 101]⟩]
theorem contents_size : ∀ s ∈ contents, s.size ≤ 256 := by decide
theorem contents_len : contents.length = 16 := rfl

theorem Strs.of_block {w : World} {b : Nat} {l : List ByteArray} {T : TypeId} {fz : Nat × Nat} (h : w.heap[b]? = some (.cells (l.map Value.string).toArray T fz)) (hm : l.length ≤ maxLen) : Strs w (some ⟨b, 0, none⟩) l.length l := by
  refine ⟨Nat.le_refl _, hm, (fun e => by cases e), fun ad e hne => ?_⟩
  cases e
  refine ⟨rfl, lt_of_block h, fun i x hi => ?_⟩
  rw [cell_of_block h]
  simp [hi]

set_option maxRecDepth 100000 in
set_option maxHeartbeats 1000000 in
theorem made_contents (w : World) :
    Calls Tryz.prog 115 #[] w fun e w' => e = .returned (.slice (some ⟨w.heap.size, 0, none⟩) 16 16) ∧ Strs w' (some ⟨w.heap.size, 0, none⟩) 16 contents ∧ Fr No w w' := by
  have hb := block_alloc w (.cells (contents.map Value.string).toArray 9)
  have hs := Strs.of_block hb (by rw [contents_len]; unfold maxLen; omega)
  rw [contents_len] at hs
  have hf : Fr No w (w.alloc (.cells (contents.map Value.string).toArray 9)) := (Fr.refl _ _).alloc _
  have H := Lib.hid (And.intro hs hf)
  clear hb hs hf
  go_enter Tryz.func115, Tryz.ntmps115
  go_wp2_with fail
  go_ret
  exact ⟨rfl, H.out⟩
end Go.Proofs.YtpnpjaemlflplaaGreatDoor
