/- The law VolumeInner returns true at every input and leaves its arguments as they were. Conditions: none beyond the given statement's own. -/
import Derived.Test.YtbblkknndaoefaaGreatDoorZV17
import Derived.Test.YtbblkknndaoefaaGreatDoorZV21
import Derived.Test.YtbblkknndaoefaaGreatDoorZV22
import Derived.Test.YtbblkknndaoefaaGreatDoorZV24
import Derived.Test.YtbblkknndaoefaaGreatDoorZV8
import Derived.Test.YtbblkknndaoefaaGreatDoorZV14
import Derived.Test.YtbblkknndaoefaaGreatDoorCards
import Derived.Test.YtbblkknndaoefaaGreatDoorTie
import Derived.WalkKit
import Derived.ProofKit
import Derived.OpenShut
import Derived.ShutString
import Derived.ChangeOld
import Derived.Below
import Derived.LaidMore
import Derived.Lay
import Derived.SevenTiedAt
import Derived.Shelf.Vars
import Derived.Stop.LaidErr
import Derived.MakeChecks
import Derived.SizedLaws
namespace Go.Proofs.YtbblkknndaoefaaGreatDoor
open Go
set_option linter.unusedVariables false

def inPre : ByteArray := ⟨#[99, 114, 121, 112, 116, 58, 107, 40]⟩
def kIk : ByteArray := ⟨#[107]⟩
theorem id_no40 {i : ByteArray} (h : isId i = true) : ∀ b ∈ bl i, b ≠ 40 := by
  intro b hb e
  unfold isId at h
  simp only [Bool.and_eq_true] at h
  have h1 := List.all_eq_true.1 h.2 b hb
  subst e
  revert h1
  decide
theorem kind_of {X : Ct} (hv : X.valid = true) {r : List UInt8} (ht : X.text = 99 :: r) : X.kind = 3 := by
  obtain ⟨k, i, l, s, t, e, n⟩ := X
  by_cases h0 : k = 0
  · subst h0; rw [text0] at ht; cases ht
  by_cases h1 : k = 1
  · subst h1; rw [text1] at ht; simp at ht
  by_cases h2 : k = 2
  · subst h2; rw [text2] at ht; simp at ht
  by_cases h3 : k = 3
  · exact h3
  by_cases h4 : k = 4
  · subst h4; rw [text4] at ht; simp at ht
  by_cases h5 : k = 5
  · subst h5; rw [text5] at ht; simp at ht
  exfalso
  unfold Ct.valid Ct.good at hv
  simp only [Bool.and_eq_true] at hv
  have h := hv.2.1
  simp [alike, h0, h1, h2, h3, h4, h5] at h
theorem inner_parse {c : ByteArray} {X : Ct} (hX : parseC (inPre ++ c ++ ⟨#[41]⟩) = some X) : X.kind = 3 ∧ X.id = kIk ∧ ∃ d, X.inner = [d] ∧ parseC c = some d ∧ d.depth < X.depth ∧ X.inner.map Ct.txt = [c] := by
  obtain ⟨hl, hv, ht⟩ := (parse_iff _ _).1 hX
  have hb : bl (inPre ++ c ++ ⟨#[41]⟩) = [99, 114, 121, 112, 116, 58, 107, 40] ++ (bl c ++ [41]) := by
    rw [bl_append, bl_append, List.append_assoc]; rfl
  rw [hb] at ht hl
  have hk := kind_of hv (r := [114, 121, 112, 116, 58, 107, 40] ++ (bl c ++ [41])) (by rw [ht]; rfl)
  obtain ⟨k, i, l, s, t, e, n⟩ := X
  obtain rfl : k = 3 := hk
  unfold Ct.valid Ct.good at hv
  simp only [Bool.and_eq_true, decide_eq_true_eq] at hv
  obtain ⟨hd, ha, hg⟩ := hv
  simp [alike] at ha
  obtain ⟨⟨⟨hi, _⟩, _⟩, hn⟩ := ha
  obtain ⟨d, rfl⟩ : ∃ d, n = [d] := by
    rcases n with _ | ⟨d, _ | ⟨d2, r⟩⟩
    · simp at hn
    · exact ⟨d, rfl⟩
    · simp at hn
  rw [text3] at ht
  have ht2 : bl i ++ 40 :: (commas ([d].map Ct.text) ++ [41]) = 107 :: 40 :: (bl c ++ [41]) := by simpa using ht
  have h40 := id_no40 hi
  have hne : bl i ≠ [] := by
    unfold isId at hi
    simp only [Bool.and_eq_true] at hi
    intro e
    have := hi.1.1
    rw [e] at this
    simp at this
  obtain ⟨x, r, hxr⟩ : ∃ x r, bl i = x :: r := by
    rcases h : bl i with _ | ⟨x, r⟩
    · exact absurd h hne
    · exact ⟨x, r, rfl⟩
  rw [hxr, List.cons_append, List.cons.injEq] at ht2
  obtain ⟨rfl, ht3⟩ := ht2
  have hr : r = [] := by
    rcases r with _ | ⟨y, r⟩
    · rfl
    · rw [List.cons_append, List.cons.injEq] at ht3
      exact absurd ht3.1 (h40 y (by rw [hxr]; simp))
  subst hr
  have ht4 : commas ([d].map Ct.text) = bl c := by simpa using ht3
  have ht5 : d.text = bl c := by simpa [commas] using ht4
  have hid : i = kIk := ba_ext (by rw [hxr]; rfl)
  have hdep : (Ct.mk 3 i l s t e [d]).depth = d.depth + 1 := by rw [Ct.depth, if_neg (by decide)]; simp [Ct.depths]
  rw [hdep] at hd
  have hdg : d.good = true := by
    unfold Ct.goods at hg
    simp only [Bool.and_eq_true] at hg
    exact hg.1
  have hcl : (bl c).length ≤ 256 := by have h := hl; rw [List.length_append, List.length_append] at h; omega
  refine ⟨rfl, hid, d, rfl, (parse_iff _ _).2 ⟨hcl, ?_, ht5⟩, by rw [hdep]; omega, ?_⟩
  · unfold Ct.valid
    simp only [Bool.and_eq_true, decide_eq_true_eq]
    exact ⟨by omega, hdg⟩
  · show [d].map Ct.txt = [c]
    simp only [List.map_cons, List.map_nil]
    congr 1
    exact ba_ext (by rw [bl_txt, ht5])
end Go.Proofs.YtbblkknndaoefaaGreatDoor
namespace Go.Proofs.YtbblkknndaoefaaGreatDoor
open Go
set_option linter.unusedVariables false

def vId1 : ByteArray := ⟨#[118]⟩
theorem id_no58 {i : ByteArray} (h : isId i = true) : ∀ b ∈ bl i, b ≠ 58 := by
  intro b hb e
  unfold isId at h
  simp only [Bool.and_eq_true] at h
  have h1 := List.all_eq_true.1 h.2 b hb
  subst e
  revert h1
  decide
theorem kind_pv {X : Ct} (hv : X.valid = true) {r : List UInt8} (ht : X.text = 112 :: r) : X.kind = 4 := by
  obtain ⟨k, i, l, s, t, e, n⟩ := X
  by_cases h0 : k = 0
  · subst h0; rw [text0] at ht; cases ht
  by_cases h1 : k = 1
  · subst h1; rw [text1] at ht; simp at ht
  by_cases h2 : k = 2
  · subst h2; rw [text2] at ht; simp at ht
  by_cases h3 : k = 3
  · subst h3; rw [text3] at ht; simp at ht
  by_cases h4 : k = 4
  · exact h4
  by_cases h5 : k = 5
  · subst h5; rw [text5] at ht; simp at ht
  exfalso
  unfold Ct.valid Ct.good at hv
  simp only [Bool.and_eq_true] at hv
  have h := hv.2.1
  simp [alike, h0, h1, h2, h3, h4, h5] at h
theorem itoa_one {s : Int} (h1 : 1 ≤ s) (h2 : s ≤ 16) {c : UInt8} {x y : List UInt8} (hc : c = 47 ∨ c = 40) (h : Lib.itoa s ++ c :: x = 49 :: c :: y) : s = 1 ∧ x = y := by
  have hs : s = 1 ∨ s = 2 ∨ s = 3 ∨ s = 4 ∨ s = 5 ∨ s = 6 ∨ s = 7 ∨ s = 8 ∨ s = 9 ∨ s = 10 ∨ s = 11 ∨ s = 12 ∨ s = 13 ∨ s = 14 ∨ s = 15 ∨ s = 16 := by omega
  rcases hs with rfl | rfl | rfl | rfl | rfl | rfl | rfl | rfl | rfl | rfl | rfl | rfl | rfl | rfl | rfl | rfl
  · rw [show Lib.itoa 1 = [49] from by kernel_rfl] at h
    simp only [List.cons_append, List.nil_append, List.cons.injEq, true_and] at h
    exact ⟨rfl, h⟩
  · rw [show Lib.itoa 2 = [50] from by kernel_rfl] at h
    rcases hc with rfl | rfl <;> simp at h
  · rw [show Lib.itoa 3 = [51] from by kernel_rfl] at h
    rcases hc with rfl | rfl <;> simp at h
  · rw [show Lib.itoa 4 = [52] from by kernel_rfl] at h
    rcases hc with rfl | rfl <;> simp at h
  · rw [show Lib.itoa 5 = [53] from by kernel_rfl] at h
    rcases hc with rfl | rfl <;> simp at h
  · rw [show Lib.itoa 6 = [54] from by kernel_rfl] at h
    rcases hc with rfl | rfl <;> simp at h
  · rw [show Lib.itoa 7 = [55] from by kernel_rfl] at h
    rcases hc with rfl | rfl <;> simp at h
  · rw [show Lib.itoa 8 = [56] from by kernel_rfl] at h
    rcases hc with rfl | rfl <;> simp at h
  · rw [show Lib.itoa 9 = [57] from by kernel_rfl] at h
    rcases hc with rfl | rfl <;> simp at h
  · rw [show Lib.itoa 10 = [49, 48] from by kernel_rfl] at h
    rcases hc with rfl | rfl <;> simp at h
  · rw [show Lib.itoa 11 = [49, 49] from by kernel_rfl] at h
    rcases hc with rfl | rfl <;> simp at h
  · rw [show Lib.itoa 12 = [49, 50] from by kernel_rfl] at h
    rcases hc with rfl | rfl <;> simp at h
  · rw [show Lib.itoa 13 = [49, 51] from by kernel_rfl] at h
    rcases hc with rfl | rfl <;> simp at h
  · rw [show Lib.itoa 14 = [49, 52] from by kernel_rfl] at h
    rcases hc with rfl | rfl <;> simp at h
  · rw [show Lib.itoa 15 = [49, 53] from by kernel_rfl] at h
    rcases hc with rfl | rfl <;> simp at h
  · rw [show Lib.itoa 16 = [49, 54] from by kernel_rfl] at h
    rcases hc with rfl | rfl <;> simp at h

theorem pv_parse {s : ByteArray} {X : Ct} {r : List UInt8} (hX : parseC s = some X) (hb : bl s = [112, 118, 58, 118, 58, 49, 47, 49, 40] ++ r) : X.kind = 4 ∧ X.id = vId1 ∧ X.slot = 1 ∧ X.total = 1 ∧ 1 ≤ X.inner.length ∧ X.inner.length ≤ 16 ∧ ∀ d ∈ X.inner, parseC d.txt = some d ∧ d.depth < X.depth := by
  obtain ⟨hl, hv, ht⟩ := (parse_iff _ _).1 hX
  rw [hb] at ht
  have hk := kind_pv hv (r := [118, 58, 118, 58, 49, 47, 49, 40] ++ r) (by rw [ht]; rfl)
  obtain ⟨k, i, l, sl, t, e, n⟩ := X
  obtain rfl : k = 4 := hk
  unfold Ct.valid Ct.good at hv
  simp only [Bool.and_eq_true, decide_eq_true_eq] at hv
  obtain ⟨hd, ha, hg⟩ := hv
  simp [alike, slotsOk, someIn] at ha
  obtain ⟨⟨⟨⟨hi, _⟩, hso⟩, _⟩, hn⟩ := ha
  rw [text4] at ht
  have ht2 : bl i ++ 58 :: (Lib.itoa sl ++ 47 :: (Lib.itoa t ++ 40 :: (commas (n.map Ct.text) ++ [41]))) = 118 :: 58 :: 49 :: 47 :: 49 :: 40 :: r := by simpa using ht
  have h58 := id_no58 hi
  have hne : bl i ≠ [] := by
    unfold isId at hi
    simp only [Bool.and_eq_true] at hi
    intro e
    have := hi.1.1
    rw [e] at this
    simp at this
  obtain ⟨x, q, hxr⟩ : ∃ x q, bl i = x :: q := by
    rcases h : bl i with _ | ⟨x, q⟩
    · exact absurd h hne
    · exact ⟨x, q, rfl⟩
  rw [hxr, List.cons_append, List.cons.injEq] at ht2
  obtain ⟨rfl, ht3⟩ := ht2
  have hr : q = [] := by
    rcases q with _ | ⟨y, q⟩
    · rfl
    · rw [List.cons_append, List.cons.injEq] at ht3
      exact absurd ht3.1 (h58 y (by rw [hxr]; simp))
  subst hr
  have ht4 : Lib.itoa sl ++ 47 :: (Lib.itoa t ++ 40 :: (commas (n.map Ct.text) ++ [41])) = 49 :: 47 :: (49 :: 40 :: r) := by simpa using ht3
  obtain ⟨hs1, ht5⟩ := itoa_one (by omega) (by omega) (.inl rfl) ht4
  obtain ⟨ht1, _⟩ := itoa_one (by omega) (by omega) (.inr rfl) ht5
  have hid : i = vId1 := ba_ext (by rw [hxr]; rfl)
  have hf := (parse_fit hX).1
  refine ⟨rfl, hid, hs1, ht1, hn.1, hn.2, fun d hdm => ?_⟩
  have hdep : d.depth < (Ct.mk 4 i l sl t e n).depth := by
    have h1 : (Ct.mk 4 i l sl t e n).depth = Ct.depths n + 1 := by rw [Ct.depth, if_neg (by decide)]; try omega
    have h2 : d.depth ≤ Ct.depths n := mem_depth hdm
    omega
  have hdg : d.good = true := by
    rw [goods_all] at hg
    exact List.all_eq_true.1 hg d hdm
  refine ⟨(parse_iff _ _).2 ⟨?_, ?_, by rw [bl_txt]⟩, hdep⟩
  · rw [bl_txt]
    have h1 := commas_mem (List.mem_map_of_mem (f := Ct.text) hdm)
    have h2 := in_le hf.good
    have h3 := hf.len
    exact Nat.le_trans h1 (Nat.le_trans h2 h3)
  · unfold Ct.valid
    simp only [Bool.and_eq_true, decide_eq_true_eq]
    exact ⟨by omega, hdg⟩
end Go.Proofs.YtbblkknndaoefaaGreatDoor
namespace Go.Proofs.YtbblkknndaoefaaGreatDoor
open Go.RowKit
set_option linter.unusedVariables false

def viM (a : Option Addr) (c : Nat) (l : List ByteArray) : Mem := ⟨kPb, vId1, 0, 1, 1, 1, a, l, c⟩
def viN : Mem := ⟨kPa, vId1, 1, 1, 1, 1, none, [], 0⟩
section
variable (a : Option Addr) (c : Nat) (l : List ByteArray)
def viG : ByteArray × Int → Option Mem := fun x => if x = (vId1, 1) then some (viM a c l) else none
theorem vi_sm : soundB (viM a c l) = true := by simp [soundB, viM, ByteArray.toList_eq, kPb]
theorem vi_best : best2 soundB [viM a c l, viN] = viG a c l := by
  have e1 : best2 soundB [viM a c l] = viG a c l := by
    show best2S soundB (fun _ => none) (viM a c l) = _
    rw [best2S_take (vi_sm a c l) (fun o h => by cases h)]
    rfl
  have h : best2 soundB [viM a c l, viN] = best2S soundB (best2 soundB [viM a c l]) viN := rfl
  rw [h, e1]
  refine best2S_keep (o := viM a c l) (by unfold viG viN; rw [if_pos rfl]) ?_
  unfold ahead aheadB
  have h1 : cmpI viN.r (viM a c l).r = 1 := by simp [cmpI, viN, viM]
  rw [h1]
  rfl
theorem vi_ids : IsIds2 (viG a c l) [vId1] := by
  refine ⟨by unfold AscS; decide, fun x => ⟨fun h => ?_, fun ⟨s, h⟩ => ?_⟩⟩
  · obtain rfl : x = vId1 := by simpa using h
    exact ⟨1, by unfold viG; rw [if_pos rfl]; rfl⟩
  · unfold viG at h
    split at h
    · rename_i e; simp at e; simp [e.1]
    · cases h
theorem vi_arr : buildA (viG a c l) vId1 = ⟨vId1, [kPb], 1, 1, 1, l⟩ := by
  have h1 : viG a c l (vId1, 1) = some (viM a c l) := by unfold viG; rw [if_pos rfl]
  have hl : leastSlot (viG a c l) vId1 = 1 := by unfold leastSlot; simp [List.range_succ_eq_map, h1]
  have hf : firstOf (viG a c l) vId1 = viM a c l := by unfold firstOf; rw [hl, h1]; rfl
  unfold buildA
  rw [hf]
  simp [viM, List.range_succ_eq_map, pathAt, h1]
end
theorem vi_ok : ∀ k : Nat, k < 16 → lvOk vId1 ((k : Int) + 1) = true := by
  intro k hk
  have hc : k = 0 ∨ k = 1 ∨ k = 2 ∨ k = 3 ∨ k = 4 ∨ k = 5 ∨ k = 6 ∨ k = 7 ∨ k = 8 ∨ k = 9 ∨ k = 10 ∨ k = 11 ∨ k = 12 ∨ k = 13 ∨ k = 14 ∨ k = 15 := by omega
  rcases hc with rfl | rfl | rfl | rfl | rfl | rfl | rfl | rfl | rfl | rfl | rfl | rfl | rfl | rfl | rfl | rfl
  · have h1 : lvT vId1 (((0 : Nat) : Int) + 1) = ⟨#[108, 118, 45, 118, 45, 49]⟩ := by unfold lvT; rw [show Lib.itoa (((0 : Nat) : Int) + 1) = [49] from by kernel_rfl]; rfl
    unfold lvOk; rw [h1]; simp [isName, ByteArray.toList_eq, inSet, nameBA]; decide
  · have h1 : lvT vId1 (((1 : Nat) : Int) + 1) = ⟨#[108, 118, 45, 118, 45, 50]⟩ := by unfold lvT; rw [show Lib.itoa (((1 : Nat) : Int) + 1) = [50] from by kernel_rfl]; rfl
    unfold lvOk; rw [h1]; simp [isName, ByteArray.toList_eq, inSet, nameBA]; decide
  · have h1 : lvT vId1 (((2 : Nat) : Int) + 1) = ⟨#[108, 118, 45, 118, 45, 51]⟩ := by unfold lvT; rw [show Lib.itoa (((2 : Nat) : Int) + 1) = [51] from by kernel_rfl]; rfl
    unfold lvOk; rw [h1]; simp [isName, ByteArray.toList_eq, inSet, nameBA]; decide
  · have h1 : lvT vId1 (((3 : Nat) : Int) + 1) = ⟨#[108, 118, 45, 118, 45, 52]⟩ := by unfold lvT; rw [show Lib.itoa (((3 : Nat) : Int) + 1) = [52] from by kernel_rfl]; rfl
    unfold lvOk; rw [h1]; simp [isName, ByteArray.toList_eq, inSet, nameBA]; decide
  · have h1 : lvT vId1 (((4 : Nat) : Int) + 1) = ⟨#[108, 118, 45, 118, 45, 53]⟩ := by unfold lvT; rw [show Lib.itoa (((4 : Nat) : Int) + 1) = [53] from by kernel_rfl]; rfl
    unfold lvOk; rw [h1]; simp [isName, ByteArray.toList_eq, inSet, nameBA]; decide
  · have h1 : lvT vId1 (((5 : Nat) : Int) + 1) = ⟨#[108, 118, 45, 118, 45, 54]⟩ := by unfold lvT; rw [show Lib.itoa (((5 : Nat) : Int) + 1) = [54] from by kernel_rfl]; rfl
    unfold lvOk; rw [h1]; simp [isName, ByteArray.toList_eq, inSet, nameBA]; decide
  · have h1 : lvT vId1 (((6 : Nat) : Int) + 1) = ⟨#[108, 118, 45, 118, 45, 55]⟩ := by unfold lvT; rw [show Lib.itoa (((6 : Nat) : Int) + 1) = [55] from by kernel_rfl]; rfl
    unfold lvOk; rw [h1]; simp [isName, ByteArray.toList_eq, inSet, nameBA]; decide
  · have h1 : lvT vId1 (((7 : Nat) : Int) + 1) = ⟨#[108, 118, 45, 118, 45, 56]⟩ := by unfold lvT; rw [show Lib.itoa (((7 : Nat) : Int) + 1) = [56] from by kernel_rfl]; rfl
    unfold lvOk; rw [h1]; simp [isName, ByteArray.toList_eq, inSet, nameBA]; decide
  · have h1 : lvT vId1 (((8 : Nat) : Int) + 1) = ⟨#[108, 118, 45, 118, 45, 57]⟩ := by unfold lvT; rw [show Lib.itoa (((8 : Nat) : Int) + 1) = [57] from by kernel_rfl]; rfl
    unfold lvOk; rw [h1]; simp [isName, ByteArray.toList_eq, inSet, nameBA]; decide
  · have h1 : lvT vId1 (((9 : Nat) : Int) + 1) = ⟨#[108, 118, 45, 118, 45, 49, 48]⟩ := by unfold lvT; rw [show Lib.itoa (((9 : Nat) : Int) + 1) = [49, 48] from by kernel_rfl]; rfl
    unfold lvOk; rw [h1]; simp [isName, ByteArray.toList_eq, inSet, nameBA]; decide
  · have h1 : lvT vId1 (((10 : Nat) : Int) + 1) = ⟨#[108, 118, 45, 118, 45, 49, 49]⟩ := by unfold lvT; rw [show Lib.itoa (((10 : Nat) : Int) + 1) = [49, 49] from by kernel_rfl]; rfl
    unfold lvOk; rw [h1]; simp [isName, ByteArray.toList_eq, inSet, nameBA]; decide
  · have h1 : lvT vId1 (((11 : Nat) : Int) + 1) = ⟨#[108, 118, 45, 118, 45, 49, 50]⟩ := by unfold lvT; rw [show Lib.itoa (((11 : Nat) : Int) + 1) = [49, 50] from by kernel_rfl]; rfl
    unfold lvOk; rw [h1]; simp [isName, ByteArray.toList_eq, inSet, nameBA]; decide
  · have h1 : lvT vId1 (((12 : Nat) : Int) + 1) = ⟨#[108, 118, 45, 118, 45, 49, 51]⟩ := by unfold lvT; rw [show Lib.itoa (((12 : Nat) : Int) + 1) = [49, 51] from by kernel_rfl]; rfl
    unfold lvOk; rw [h1]; simp [isName, ByteArray.toList_eq, inSet, nameBA]; decide
  · have h1 : lvT vId1 (((13 : Nat) : Int) + 1) = ⟨#[108, 118, 45, 118, 45, 49, 52]⟩ := by unfold lvT; rw [show Lib.itoa (((13 : Nat) : Int) + 1) = [49, 52] from by kernel_rfl]; rfl
    unfold lvOk; rw [h1]; simp [isName, ByteArray.toList_eq, inSet, nameBA]; decide
  · have h1 : lvT vId1 (((14 : Nat) : Int) + 1) = ⟨#[108, 118, 45, 118, 45, 49, 53]⟩ := by unfold lvT; rw [show Lib.itoa (((14 : Nat) : Int) + 1) = [49, 53] from by kernel_rfl]; rfl
    unfold lvOk; rw [h1]; simp [isName, ByteArray.toList_eq, inSet, nameBA]; decide
  · have h1 : lvT vId1 (((15 : Nat) : Int) + 1) = ⟨#[108, 118, 45, 118, 45, 49, 54]⟩ := by unfold lvT; rw [show Lib.itoa (((15 : Nat) : Int) + 1) = [49, 54] from by kernel_rfl]; rfl
    unfold lvOk; rw [h1]; simp [isName, ByteArray.toList_eq, inSet, nameBA]; decide
theorem vi_want {l : List ByteArray} (h : l.length ≤ 16) (r : Int) : wantL vId1 1 1 l r = (List.range l.length).map (wantAt vId1 l r) := by
  unfold wantL wantF
  rw [if_pos rfl, List.filter_eq_self.2 (fun k hk => vi_ok k (by have := List.mem_range.1 hk; omega))]
theorem vi_want_at {l : List ByteArray} (h : l.length ≤ 16) (r : Int) {j : Nat} {v : Vir} (hv : (wantL vId1 1 1 l r)[j]? = some v) : ∃ x, l[j]? = some x ∧ v.c = x := by
  rw [vi_want h, List.getElem?_map] at hv
  rcases hj : (List.range l.length)[j]? with _ | q
  · rw [hj] at hv; cases hv
  · rw [hj] at hv
    obtain ⟨h1, h2⟩ := List.getElem?_eq_some_iff.1 hj
    rw [List.getElem_range] at h2
    subst h2
    rw [List.length_range] at h1
    obtain rfl := Option.some.inj hv
    exact ⟨l[j], List.getElem?_eq_getElem h1, by show (l[j]?).getD _ = _; rw [List.getElem?_eq_getElem h1]; rfl⟩
end Go.Proofs.YtbblkknndaoefaaGreatDoor
namespace Go.Proofs.YtbblkknndaoefaaGreatDoor
open Go.RowKit Go.Maps
set_option linter.unusedVariables false

/-- What content.Same answers on equal contents of fewer than m contents. -/
def SameEqC (m : Nat) : Prop := ∀ (k s t e : Int) (i l : ByteArray) (n : List Ct) (a a2 : Option Addr) (cap cap2 : Nat) (w : World) (X X2 : Nat → Prop), Ct.counts n < m → InAt w X a cap n → InAt w X2 a2 cap2 n →
    Calls Tryz.prog 41 #[.agg #[.int .i64 k, .string i, .string l, .int .i64 s, .int .i64 t, .int .i64 e, .slice a n.length cap], .agg #[.int .i64 k, .string i, .string l, .int .i64 s, .int .i64 t, .int .i64 e, .slice a2 n.length cap2]] w fun en w2 => en = .returned (.bool true) ∧ Fr No w w2

set_option maxRecDepth 100000 in
set_option maxHeartbeats 1000000 in
theorem c_eqf_eq (m : Nat) (hm : m ≤ 10000) (ih : SameEqC m) (n : List Ct) (a a2 : Option Addr) (cap cap2 : Nat) (w : World) (X X2 : Nat → Prop) (hcn : Ct.counts n < m + 1) (hin : InAt w X a cap n) (hin2 : InAt w X2 a2 cap2 n) :
    Calls Tryz.prog 91 #[.slice a n.length cap, .slice a2 n.length cap2, .func (.func 41) #[] #[]] w fun en w2 => en = .returned (.bool true) ∧ Fr No w w2 := by
  have hnl := len_counts n
  have Ih := Lib.hid ih
  clear ih
  go_enter Tryz.func91, Tryz.ntmps91
  go_wp2_with fail
  go_loopw [17] (fun i wr => ∃ j : Nat, j ≤ n.length ∧ i = .int .i64 (j : Int) ∧ Fr No w wr) (fun i _ => n.length - (intOf i).toNat)
  case atStart => exact ⟨0, by omega, rfl, Fr.refl _ _⟩
  case round =>
    obtain ⟨j, hj, rfl, hfr⟩ := hrel
    by_cases hlt : j < n.length
    · have hlt' : (j : Int) < n.length := by omega
      obtain ⟨d, hd⟩ : ∃ d, n[j]? = some d := ⟨_, List.getElem?_eq_getElem hlt⟩
      have hdc := mem_count (List.mem_of_getElem? hd)
      obtain ⟨k1, i1, l1, s1, t1, e1, n1⟩ := d
      rw [Ct.count] at hdc
      obtain ⟨b, off, a', cap', rfl, hb, _, ⟨y0, y1, y2, y3, y4, y5, y6⟩, hin1⟩ := (hin.fr hfr (fun _ _ => id)).at hd
      obtain ⟨b2, off2, a2', cap2', rfl, hb2, _, ⟨z0, z1, z2, z3, z4, z5, z6⟩, hin3⟩ := (hin2.fr hfr (fun _ _ => id)).at hd
      clear hd
      have hx : Fr No wr ((wr.alloc (.cells #[.int .i64 k1, .string i1, .string l1, .int .i64 s1, .int .i64 t1, .int .i64 e1, .slice a' n1.length cap'] 54)).alloc (.cells #[.int .i64 k1, .string i1, .string l1, .int .i64 s1, .int .i64 t1, .int .i64 e1, .slice a2' n1.length cap2'] 54)) := ((Fr.refl _ _).alloc _).alloc _
      have hc := Ih.out k1 s1 t1 e1 i1 l1 n1 a' a2' cap' cap2' _ X X2 (by omega) (hin1.fr hx (fun _ _ => id)) (hin3.fr hx (fun _ _ => id))
      go_wp2_with fail
      refine hc.mono ?_
      rintro en w2 ⟨rfl, hf2⟩
      have hfr2 := (hfr.step hx (fun _ _ h => h)).step hf2 (fun _ _ h => h)
      clear hc hx hf2 hfr y0 y1 y2 y3 y4 y5 y6 z0 z1 z2 z3 z4 z5 z6 hin1 hin3
      go_wp2_with fail
      go_roundw
      case rel => exact ⟨j + 1, by omega, by go_num, hfr2⟩
      case measure => simp [intOf]; omega
    · obtain rfl : j = n.length := by omega
      have hge : ¬ (n.length : Int) < n.length := by omega
      clear hin hin2
      go_wp2_with fail
      go_ret
      exact ⟨rfl, hfr⟩

set_option maxRecDepth 100000 in
set_option maxHeartbeats 1000000 in
theorem c_same_eq_n (m : Nat) : m ≤ 10000 → SameEqC m := by
  induction m with
  | zero => intro _ k s t e i l n a a2 cap cap2 w X X2 h; omega
  | succ m ih =>
    intro hm k s t e i l n a a2 cap cap2 w X X2 hcn hin hin2
    have hnl := len_counts n
    have hx : Fr No w ((w.alloc (.cells #[.int .i64 k, .string i, .string l, .int .i64 s, .int .i64 t, .int .i64 e, .slice a n.length cap] 54)).alloc (.cells #[.int .i64 k, .string i, .string l, .int .i64 s, .int .i64 t, .int .i64 e, .slice a2 n.length cap2] 54)) := ((Fr.refl _ _).alloc _).alloc _
    have hc := c_eqf_eq m (by omega) (ih (by omega)) n a a2 cap cap2 _ X X2 hcn (hin.fr hx (fun _ _ => id)) (hin2.fr hx (fun _ _ => id))
    clear ih hin hin2
    go_enter Tryz.func41, Tryz.ntmps41
    go_wp2_with fail
    refine hc.mono ?_
    rintro en w2 ⟨rfl, hf2⟩
    have hfin := hx.step hf2 (fun _ _ h => h)
    clear hc hx hf2
    go_wp2_with fail
    go_ret
    exact ⟨rfl, hfin⟩
theorem c_same_eq {w : World} {X X2 : Nat → Prop} {vs vs2 : Array Value} {c : Ct} (h : CAt w X vs c) (h2 : CAt w X2 vs2 c) (hc : c.count ≤ 10000) :
    Calls Tryz.prog 41 #[.agg vs, .agg vs2] w fun en w2 => en = .returned (.bool true) ∧ Fr No w w2 := by
  obtain ⟨k, i, l, s, t, e, n⟩ := c
  obtain ⟨a, cap, rfl, h1⟩ := h.inAt
  obtain ⟨a2, cap2, rfl, h3⟩ := h2.inAt
  exact c_same_eq_n _ hc k s t e i l n a a2 cap cap2 w X X2 (by rw [Ct.count]; omega) h1 h3
end Go.Proofs.YtbblkknndaoefaaGreatDoor
namespace Go.Proofs.YtbblkknndaoefaaGreatDoor
open Go.RowKit Go.Maps
set_option linter.unusedVariables false

def pvPre : ByteArray := ⟨#[112, 118, 58, 118, 58, 49, 47, 49, 40]⟩
theorem commas_byte {x : List UInt8} {b : UInt8} (hb : b ∈ x) : ∀ {l : List (List UInt8)}, x ∈ l → b ∈ commas l
  | [], h => by simp at h
  | [y], h => by
    obtain rfl : x = y := by simpa using h
    simpa [commas] using hb
  | y :: z :: r, h => by
    rcases List.mem_cons.1 h with rfl | h
    · simp [commas, hb]
    · have := commas_byte hb (l := z :: r) h
      simp [commas] at this ⊢
      simp [this]
theorem inner_asc {s : ByteArray} {i l : ByteArray} {sl t e : Int} {n : List Ct} (hX : parseC s = some (.mk 4 i l sl t e n)) (hs : Ascii s) : ∀ d ∈ n, Ascii d.txt := by
  intro d hd j b hb
  obtain ⟨_, _, ht⟩ := (parse_iff _ _).1 hX
  have h1 : b ∈ bl d.txt := List.mem_of_getElem? hb
  rw [bl_txt] at h1
  have h2 := commas_byte h1 (List.mem_map_of_mem (f := Ct.text) hd)
  have h3 : b ∈ bl s := by rw [← ht, text4]; simp [h2]
  obtain ⟨q, hq⟩ := List.getElem?_of_mem h3
  exact hs q b hq
theorem vi_small {a : Option Addr} {c : Nat} {l : List ByteArray} (h : l.length ≤ 1000000) : MemSmall2 [viM a c l, viN] := by
  refine ⟨by simp, ?_, ?_, ?_, ?_⟩ <;> intro m hm <;> simp only [List.mem_cons, List.not_mem_nil, or_false] at hm <;> rcases hm with rfl | rfl
  · exact (by decide : kPb.size ≤ 1000000)
  · exact (by decide : kPa.size ≤ 1000000)
  · exact (by decide : vId1.size ≤ 1000000)
  · exact (by decide : vId1.size ≤ 1000000)
  · exact h
  · simp [viN]
  · exact WalkArith.wf_i64 (by simp [viM])
  · exact WalkArith.wf_i64 (by simp [viN])
theorem contents_asc : ∀ s ∈ contents, ∀ b ∈ s.data.toList, b.toNat < 128 := by decide

set_option maxRecDepth 100000 in
set_option maxHeartbeats 2000000 in
theorem vinner_walk (la : Option Addr) (lc : Nat) (l : List Int) (w : World) (hl : Ints w la lc l) (hE : Env w) :
    Calls Tryz.prog 6 #[.slice la l.length lc] w fun e w' => e = .returned (.bool true) ∧ Fr No w w' := by
  have hx : Fr No w (w.alloc (.cells #[.slice la l.length lc, .int .i64 0] 29)) := (Fr.refl _ _).alloc _
  have ht := Tape.make hl 29
  have hE0 := hE.no hx
  have hs0 : (w.alloc (.cells #[.slice la l.length lc, .int .i64 0] 29)).heap.size = w.heap.size + 1 := by simp
  have hsz := hE.sz
  go_enter Tryz.func6, Tryz.ntmps6
  go_upto_region 2 with (fail)
  generalize w.alloc (.cells #[.slice la l.length lc, .int .i64 0] 29) = W0 at *
  have hs0' : w.heap.size < W0.heap.size := by omega
  clear hs0 hE hl
  go_wp2_with fail
  refine (made_contents W0).mono ?_
  rintro en w1 ⟨rfl, hC1, hf1⟩
  have hs1 := hf1.size
  have ht1 := ht.fr hf1 (fun _ _ => id) id
  have hE1 := hE0.no hf1
  have hfw1 := hx.step hf1 (fun _ _ h => h)
  clear ht hE0 hx hf1
  go_wp2_with fail
  refine region_sig (Is w.heap.size) [(0, false), (1, false), (2, false), (3, false), (9, false), (10, false), (11, false), (12, false), (4, true), (5, false), (6, false), (7, false), (8, false), (13, true), (14, false), (15, false), (16, false), (17, false), (18, false)] (by kernel_rfl) (by kernel_rfl) (fun w0 hf0 => ?_)
  have ht2 := ht1.fr hf0 (fun _ _ => id) id
  have hC2 := hC1.no hf0 (fun _ => id)
  have hE2 := hE1.no hf0
  have Hw2 := Lib.hid (hfw1.step hf0 (fun _ _ h => h))
  have hs2 := hf0.size
  clear ht1 hC1 hE1 hfw1 hf0
  repeat (first | (apply sig_q; exact rfl; exact rfl; exact rfl; intro K hK; go_big_quiet_op; go_big_quiet_on) | (apply sig_skip; exact rfl; exact rfl; exact rfl; intro K hK; go_big_quiet_op; go_big_quiet_on))
  have hn1 := tape_next w.heap.size w.heap.size 0 16 w0 ht2 (by omega) (by omega) (by omega)
  apply sig_m
  exact rfl
  go_wp2_with fail
  refine hn1.mono ?_
  rintro en w3 ⟨r, rfl, hr1, hr2, ht3, hf3⟩
  have hf3' := Lib.hid hf3
  have hC3 := hC2.fr hf3 (fun ad e _ h => by cases e; unfold Is at h; simp only at h; omega)
  have HE3 := Lib.hid (hE2.fr hf3 (fun b hb h => by unfold Is at h; omega))
  have Hw3 : Hid (Fr No w w3) := Hw2.out.trans hf3 (fun _ _ h => h) (fun b hb h => by unfold Is at h; omega)
  have hs3 := hf3.size
  clear hn1 ht2 hC2 hE2
  go_wp2_with fail
  refine OnlyN.mk ⟨hf3, ?_⟩
  clear hf3
  obtain ⟨r, rfl⟩ := Int.eq_ofNat_of_zero_le hr1
  have hrl : r < contents.length := by rw [contents_len]; omega
  have hr16 : (r : Int) < 16 := hr2
  obtain ⟨b, off, c1, hb, hc1, hcc⟩ := hC3.at hrl
  cases hb
  have hcm1 := List.mem_of_getElem? hc1
  have hcs1 := contents_size c1 hcm1
  have Hca1 := Lib.hid (contents_asc c1 hcm1)
  rw [Nat.zero_add] at hcc
  have g0 : ∀ g : Gr (Is w.heap.size) w3, g.W.cell? ⟨W0.heap.size, r, none⟩ = some (.string c1) := fun g => g.fr.cell hcc (by intro h; unfold Is at h; simp only at h; omega)
  have hz1 : ¬ 9223372036854775807 < 9 + c1.size := by omega
  have hz2 : ¬ 9223372036854775807 < 9 + c1.size + 1 := by omega
  clear hc1 hcm1 hcc hr1
  repeat (first | (apply sig_q; exact rfl; exact rfl; exact rfl; intro K hK; go_big_quiet_op; go_big_quiet_on) | (apply sig_skip; exact rfl; exact rfl; exact rfl; intro K hK; go_big_quiet_op; go_big_quiet_on))
  clear g0
  have hn2 := tape_next w.heap.size w.heap.size (0 + 1) 16 w3 ht3 (by omega) (by omega) (by omega)
  apply sig_m
  exact rfl
  go_wp2_with fail
  refine hn2.mono ?_
  rintro en w4 ⟨r2, rfl, hq1, hq2, _, hf4⟩
  have hC4 := hC3.fr hf4 (fun ad e _ h => by cases e; unfold Is at h; simp only at h; omega)
  have HE4 := Lib.hid (HE3.out.fr hf4 (fun b hb h => by unfold Is at h; omega))
  have Hw4 : Hid (Fr No w w4) := Hw3.out.trans hf4 (fun _ _ h => h) (fun b hb h => by unfold Is at h; omega)
  have hs4 := hf4.size
  clear hn2 ht3 hC3
  go_wp2_with fail
  refine OnlyN.mk ⟨hf4, ?_⟩
  clear hf4
  obtain ⟨r2, rfl⟩ := Int.eq_ofNat_of_zero_le hq1
  have hrl2 : r2 < contents.length := by rw [contents_len]; omega
  have hr216 : (r2 : Int) < 16 := hq2
  obtain ⟨b, off, c2, hb, hc2, hcc⟩ := hC4.at hrl2
  cases hb
  have hcm2 := List.mem_of_getElem? hc2
  have hcs2 := contents_size c2 hcm2
  have Hca2 := Lib.hid (contents_asc c2 hcm2)
  rw [Nat.zero_add] at hcc
  have g0 : ∀ g : Gr (Is w.heap.size) w4, g.W.cell? ⟨W0.heap.size, r2, none⟩ = some (.string c2) := fun g => g.fr.cell hcc (by intro h; unfold Is at h; simp only at h; omega)
  have hz3 : ¬ 9223372036854775807 < 9 + c1.size + 1 + c2.size := by omega
  have hz4 : ¬ 9223372036854775807 < 9 + c1.size + 1 + c2.size + 1 := by omega
  clear hc2 hcm2 hcc hq1
  repeat (first | (apply sig_q; exact rfl; exact rfl; exact rfl; intro K hK; go_big_quiet_op; go_big_quiet_on) | (apply sig_skip; exact rfl; exact rfl; exact rfl; intro K hK; go_big_quiet_op; go_big_quiet_on))
  clear g0
  refine sig_end ?_
  obtain ⟨s, hs⟩ : ∃ s, s = (⟨#[112, 118, 58, 118, 58, 49, 47, 49, 40]⟩ : ByteArray) ++ c1 ++ ⟨#[44]⟩ ++ c2 ++ ⟨#[41]⟩ := ⟨_, rfl⟩
  rw [← hs]
  have hsl : s.size = 9 + c1.size + 1 + c2.size + 1 := by rw [hs]; simp only [ByteArray.size_append]; rfl
  have hsa : Ascii s := fun j b hb => by
    have h1 := List.mem_of_getElem? hb
    rw [hs] at h1
    simp only [ByteArray.data_append, Array.toList_append, List.mem_append] at h1
    rcases h1 with (((h | h) | h) | h) | h
    · exact (by decide : ∀ b ∈ (⟨#[112, 118, 58, 118, 58, 49, 47, 49, 40]⟩ : ByteArray).data.toList, b.toNat < 128) b h
    · exact Hca1.out b h
    · exact (by decide : ∀ b ∈ (⟨#[44]⟩ : ByteArray).data.toList, b.toNat < 128) b h
    · exact Hca2.out b h
    · exact (by decide : ∀ b ∈ (⟨#[41]⟩ : ByteArray).data.toList, b.toNat < 128) b h
  have Hb : Hid (bl s = [112, 118, 58, 118, 58, 49, 47, 49, 40] ++ (bl c1 ++ ([44] ++ (bl c2 ++ [41])))) := by
    unfold Hid
    rw [hs, bl_append, bl_append, bl_append, bl_append, List.append_assoc, List.append_assoc, List.append_assoc]
  have hss : s.size ≤ 100000 := by omega
  have hE4 := HE4.out
  have hfw4 := Hw4.out
  clear hs hsl hz1 hz2 hz3 hz4 Hca1 Hca2 hC4 HE3 HE4 Hw2 Hw3 Hw4 hf3'
  have hpa := c_parse s w4 hsa hE4 hss
  go_wp2_with fail
  refine hpa.mono ?_
  rintro en w5 ⟨hres, hf5⟩
  have hE5 := hE4.no hf5
  have hfw5 := hfw4.step hf5 (fun _ _ h => h)
  clear hpa hf5 hE4 hfw4
  rcases hres with ⟨er, hpn, hne, rfl⟩ | ⟨vs, X, hpX, rfl, hAt⟩
  · have her : (er != 0) = true := by simp [hne]
    clear hne
    go_upto_region 5 with (fail)
    have hx5 : Fr No w5 (w5.alloc (.cells #[.int .i64 0, .string ⟨#[]⟩, .string ⟨#[]⟩, .int .i64 0, .int .i64 0, .int .i64 0, .slice none 0 0] 54)) := (Fr.refl _ _).alloc _
    have hE6 := hE5.no hx5
    have hfw6 := hfw5.step hx5 (fun _ _ h => h)
    generalize w5.alloc (.cells #[.int .i64 0, .string ⟨#[]⟩, .string ⟨#[]⟩, .int .i64 0, .int .i64 0, .int .i64 0, .slice none 0 0] 54) = W5 at *
    clear hx5 hE5 hfw5
    have hof := volume_of kPb s 0 W5 hsa hE6 hss
    go_wp2_with fail
    refine hof.mono ?_
    rintro en w6 ⟨hr, hf6⟩
    have hE7 := hE6.no hf6
    have hfw7 := hfw6.step hf6 (fun _ _ h => h)
    clear hof hf6 hE6 hfw6
    rcases hr with ⟨_, rfl⟩ | ⟨c', a', cap', h1, _⟩
    · have hx7 : Fr No w6 (w6.alloc (.cells #[.string ⟨#[]⟩, .string ⟨#[]⟩, .int .i64 0, .int .i64 0, .int .i64 0, .int .i64 0, .slice none 0 0] 58)) := (Fr.refl _ _).alloc _
      have hkn := known34 _ (hE7.no hx7)
      have Hfw := Lib.hid (hfw7.step hx7 (fun _ _ h => h))
      clear hx7 hE7 hfw7
      go_wp2_with fail
      refine hkn.mono ?_
      rintro en wf ⟨rfl, hff⟩
      have hfin := Hfw.out.step hff (fun _ _ h => h)
      go_wp2_with fail
      go_ret
      exact ⟨rfl, hfin⟩
    · rw [hpn] at h1; cases h1
  · obtain ⟨hkX, hidX, hsX, htX, hn1, hn16, hdX⟩ := pv_parse hpX Hb.out
    have HfX := Lib.hid (parse_fit hpX).1
    obtain ⟨k1, i1, l1, s1, t1, e1, n1⟩ := X
    obtain rfl : k1 = 4 := hkX
    obtain rfl : i1 = vId1 := hidX
    obtain rfl : s1 = 1 := hsX
    obtain rfl : t1 = 1 := htX
    have hn1 : 1 ≤ n1.length := hn1
    have hn16 : n1.length ≤ 16 := hn16
    have HdX : Hid (∀ d ∈ n1, parseC d.txt = some d ∧ d.depth < (Ct.mk 4 vId1 l1 1 1 e1 n1).depth) := hdX
    have HdA : Hid (∀ d ∈ n1, Ascii d.txt) := inner_asc hpX hsa
    have HpX := Lib.hid hpX
    obtain ⟨xa, xc, rfl, _⟩ := hAt.inAt
    clear hdX hpX Hb
    go_upto_region 5 with (fail)
    have hx5 : Fr No w5 (w5.alloc (.cells #[.int .i64 4, .string vId1, .string l1, .int .i64 1, .int .i64 1, .int .i64 e1, .slice xa n1.length xc] 54)) := (Fr.refl _ _).alloc _
    have q5 := block_alloc w5 (.cells #[.int .i64 4, .string vId1, .string l1, .int .i64 1, .int .i64 1, .int .i64 e1, .slice xa n1.length xc] 54)
    have hE6 := hE5.no hx5
    have hfw6 := hfw5.step hx5 (fun _ _ h => h)
    have hAt6 := hAt.no hx5
    generalize w5.alloc (.cells #[.int .i64 4, .string vId1, .string l1, .int .i64 1, .int .i64 1, .int .i64 e1, .slice xa n1.length xc] 54) = W5 at *
    clear hx5 hE5 hfw5 hAt
    obtain ⟨lt, hlt⟩ : ∃ lt, lt = n1.map Ct.txt := ⟨_, rfl⟩
    have hltl : lt.length = n1.length := by rw [hlt]; simp
    have hof := volume_of kPb s 0 W5 hsa hE6 hss
    go_wp2_with fail
    refine hof.mono ?_
    rintro en w6 ⟨hr, hf6⟩
    obtain ⟨ma, mc, rfl, hS6, _⟩ := of_known4 (i := vId1) (sl := 1) (t := 1) (l := lt) hr HpX.out rfl rfl rfl rfl hlt.symm
    have Hlt := Lib.hid hlt
    have hE7 := hE6.no hf6
    have hfw7 := hfw6.step hf6 (fun _ _ h => h)
    have hAt7 := hAt6.no hf6
    have q6 := hf6.heap q5 id
    clear hof hr hf6 hE6 hfw6 hAt6 q5 hlt
    have Hltl := Lib.hid hltl
    have hlt16 : lt.length ≤ 16 := by omega
    clear hltl
    go_upto_region 6 with (fail)
    have hx7 : Fr No w6 (w6.alloc (.cells #[.string kPb, .string vId1, .int .i64 0, .int .i64 1, .int .i64 1, .int .i64 1, .slice ma lt.length mc] 58)) := (Fr.refl _ _).alloc _
    have q7m := block_alloc w6 (.cells #[.string kPb, .string vId1, .int .i64 0, .int .i64 1, .int .i64 1, .int .i64 1, .slice ma lt.length mc] 58)
    have hE8 := hE7.no hx7
    have hfw8 := hfw7.step hx7 (fun _ _ h => h)
    have hAt8 := hAt7.no hx7
    have q7 := hx7.heap q6 id
    have hS7 := hS6.no hx7 (fun _ => id)
    generalize w6.alloc (.cells #[.string kPb, .string vId1, .int .i64 0, .int .i64 1, .int .i64 1, .int .i64 1, .slice ma lt.length mc] 58) = W7 at *
    clear hx7 hE7 hfw7 hAt7 q6 hS6
    have y0 : W7.cell? ⟨w6.heap.size, 0, none⟩ = some (.string kPb) := cell_of_block q7m 0
    have y1 : W7.cell? ⟨w6.heap.size, 1, none⟩ = some (.string vId1) := cell_of_block q7m 1
    have y2 : W7.cell? ⟨w6.heap.size, 2, none⟩ = some (.int .i64 0) := cell_of_block q7m 2
    have y3 : W7.cell? ⟨w6.heap.size, 3, none⟩ = some (.int .i64 1) := cell_of_block q7m 3
    have y4 : W7.cell? ⟨w6.heap.size, 4, none⟩ = some (.int .i64 1) := cell_of_block q7m 4
    have y5 : W7.cell? ⟨w6.heap.size, 5, none⟩ = some (.int .i64 1) := cell_of_block q7m 5
    have y6 : W7.cell? ⟨w6.heap.size, 6, none⟩ = some (.slice ma lt.length mc) := cell_of_block q7m 6
    have hx8 : Fr No W7 (W7.alloc (.cells (mflat [viM ma mc lt, viN]).toArray 58)) := (Fr.refl _ _).alloc _
    have hM : Mems (W7.alloc (.cells (mflat [viM ma mc lt, viN]).toArray 58)) (some ⟨W7.heap.size, 0, none⟩) 2 [viM ma mc lt, viN] := Mems.of_block (block_alloc _ _) (by unfold maxLen; simp) (fun m hm => by
      simp only [List.mem_cons, List.not_mem_nil, or_false] at hm
      rcases hm with rfl | rfl
      · exact hS7.no hx8 (fun _ => id)
      · exact Strs.nil _)
    have hE9 := hE8.no hx8
    obtain ⟨m0, hm0⟩ := hE9.len
    have hsz9 := hE9.sz
    have hfw9 := hfw8.step hx8 (fun _ _ h => h)
    have hAt9 := hAt8.no hx8
    have q8 := hx8.heap q7 id
    have hg := v_group (some ⟨W7.heap.size, 0, none⟩) 2 [viM ma mc lt, viN] m0 _ hM (vi_small (by omega)) hm0 (by omega)
    clear q7m q7 hS7 hE8 hfw8 hAt8
    go_wp2_with fail
    refine hg.mono ?_
    rintro en w8 ⟨⟨ga, gc, O, ids, rfl, hO, _, _, hids, hOe, _⟩, hf8⟩
    rw [vi_best] at hids hOe
    obtain ⟨pa, pc, la2, lc2, rfl⟩ := one_arr hOe hids (vi_ids ma mc lt) (vi_arr ma mc lt)
    have hE10 := hE9.no hf8
    have hfw10 := hfw9.step hf8 (fun _ _ h => h)
    have hAt10 := hAt9.no hf8
    have q9 := hf8.heap q8 id
    clear hg hids hOe hf8 hM hm0 hx8 hE9 hfw9 hAt9 q8 y0 y1 y2 y3 y4 y5 y6
    obtain ⟨gb, go, m, rfl, hme, ⟨_, hL1⟩, ⟨u0, u1, u2, u3, u4, u5⟩, _⟩ := hO.elem (k := 0) (by simp)
    obtain rfl : (⟨⟨vId1, [kPb], 1, 1, 1, lt⟩, pa, pc, la2, lc2⟩ : ArrM) = m := by simpa using hme
    simp only [Nat.zero_mul, Nat.add_zero, List.length_cons, List.length_nil, Nat.zero_add] at u0 u1 u2 u3 u4 u5 hL1
    have hwa := v_want vId1 1 1 1 1 pa 1 pc la2 lc2 lt w8 hE10 (by decide) hL1 (by omega)
    clear hme hO
    go_wp2_with fail
    refine hwa.mono ?_
    rintro en w9 ⟨⟨va, vc, V, rfl, hV, hVe⟩, hf9⟩
    have HVe := Lib.hid hVe
    have hVl : V.length = n1.length := by rw [hVe, vi_want (by omega)]; simp; exact Hltl.out
    have hE11 := hE10.no hf9
    have hfw11 := hfw10.step hf9 (fun _ _ h => h)
    have hAt11 := hAt10.no hf9
    have q10 := hf9.heap q9 id
    have x6 : w9.cell? ⟨w5.heap.size, 6, none⟩ = some (.slice xa n1.length xc) := cell_of_block q10 6
    clear hwa hVe hf9 hE10 hfw10 hAt10 q9 u0 u1 u2 u3 u4 u5 hL1
    rw [hVl]
    have HVl := Lib.hid hVl
    obtain ⟨xa', xc', he, hIn⟩ := hAt11.inAt
    simp at he
    obtain ⟨rfl, rfl⟩ := he
    clear hVl
    go_wp2_with fail
    go_loopw [12] (fun i wr => ∃ j : Nat, j ≤ n1.length ∧ i = .int .i64 (j : Int) ∧ Fr No w9 wr) (fun i _ => n1.length - (intOf i).toNat)
    case atStart => exact ⟨0, by omega, rfl, Fr.refl _ _⟩
    case round =>
      obtain ⟨j, hj, rfl, hfr⟩ := hrel
      by_cases hlt : j < n1.length
      · have hlt' : (j : Int) < n1.length := by omega
        obtain ⟨vb, vo, v, rfl, hv, ⟨_, _, v2, _⟩, _⟩ := (hV.no hfr (fun _ => id)).elem (k := j) (by rw [HVl.out]; exact hlt)
        obtain ⟨d, hd⟩ : ∃ d, n1[j]? = some d := ⟨_, List.getElem?_eq_getElem hlt⟩
        obtain ⟨x, hx, hxe⟩ := vi_want_at hlt16 1 (by rw [← HVe.out]; exact hv)
        have hvd : v.c = d.txt := by
          rw [hxe]
          rw [Hlt.out, List.getElem?_map, hd] at hx
          exact (Option.some.inj hx).symm
        rw [hvd] at v2
        have hdm := List.mem_of_getElem? hd
        obtain ⟨hp, hdl⟩ := HdX.out d hdm
        have hsz2 : d.txt.size ≤ 100000 := by
          have h : d.txt.size ≤ 256 := ((parse_iff _ _).1 hp).1
          omega
        have Hp := Lib.hid hp
        have Hdl := Lib.hid hdl
        have hpc := c_parse d.txt wr (HdA.out d hdm) (hE11.no hfr) hsz2
        clear hv hx hxe hvd hdm hp hdl
        go_wp2_with fail
        refine hpc.mono ?_
        rintro en w12 ⟨hres, hf12⟩
        rcases hres with ⟨er, hpn, _, _⟩ | ⟨vs, D, hpD, rfl, hAtD⟩
        · rw [Hp.out] at hpn; cases hpn
        · obtain rfl : d = D := by rw [Hp.out] at hpD; exact Option.some.inj hpD
          have HfD := Lib.hid (parse_fit Hp.out).1
          obtain ⟨k2, i2, l2, s2, t2, e2, n2⟩ := d
          obtain ⟨ya, yc, rfl, _⟩ := hAtD.inAt
          have hfr2 := hfr.step hf12 (fun _ _ h => h)
          clear hpD hpc hf12 hfr v2
          go_upto_region 18 with (fail)
          have hx13 : Fr No w12 (w12.alloc (.cells #[.int .i64 k2, .string i2, .string l2, .int .i64 s2, .int .i64 t2, .int .i64 e2, .slice ya n2.length yc] 54)) := (Fr.refl _ _).alloc _
          have q13 := block_alloc w12 (.cells #[.int .i64 k2, .string i2, .string l2, .int .i64 s2, .int .i64 t2, .int .i64 e2, .slice ya n2.length yc] 54)
          have hfr3 := hfr2.step hx13 (fun _ _ h => h)
          have hAtD3 := hAtD.no hx13
          generalize w12.alloc (.cells #[.int .i64 k2, .string i2, .string l2, .int .i64 s2, .int .i64 t2, .int .i64 e2, .slice ya n2.length yc] 54) = W13 at *
          clear hx13 hfr2 hAtD
          refine region_sig No [(0, false), (1, false), (2, false), (3, false), (4, false), (5, false), (6, false), (7, false), (8, false), (9, true), (10, false), (11, false), (12, false), (13, false), (15, false), (14, true), (16, true), (17, false), (18, false)] (by kernel_rfl) (by kernel_rfl) (fun w0 hf0 => ?_)
          have hfr4 := hfr3.step hf0 (fun _ _ h => h)
          have hAtD4 := hAtD3.no hf0
          have q14 := hf0.heap q13 id
          have qX := hfr4.heap q10 id
          have hAtX := hAt11.no hfr4
          obtain ⟨b2, off2, a2, cap2, e9, _, _, ⟨z0, z1, z2, z3, z4, z5, z6⟩, hin2⟩ := (hIn.fr hfr4 (fun _ _ => id)).at hd
          subst e9
          obtain ⟨ya', yc', he2, hinD⟩ := hAtD4.inAt
          simp at he2
          obtain ⟨rfl, rfl⟩ := he2
          have hcn : Ct.counts n2 < 10000 := by have h := HfD.out.count; rw [Ct.count] at h; omega
          have hsm := c_same_eq_n 10000 (Nat.le_refl _) k2 s2 t2 e2 i2 l2 n2 ya a2 yc cap2 w0 _ _ hcn hinD hin2
          have gD0 : ∀ g : Gr No w0, g.W.cell? ⟨w12.heap.size, 0, none⟩ = some (.int .i64 k2) := fun g => g.fr.cell (cell_of_block q14 0) id
          have gD1 : ∀ g : Gr No w0, g.W.cell? ⟨w12.heap.size, 1, none⟩ = some (.string i2) := fun g => g.fr.cell (cell_of_block q14 1) id
          have gD2 : ∀ g : Gr No w0, g.W.cell? ⟨w12.heap.size, 2, none⟩ = some (.string l2) := fun g => g.fr.cell (cell_of_block q14 2) id
          have gD3 : ∀ g : Gr No w0, g.W.cell? ⟨w12.heap.size, 3, none⟩ = some (.int .i64 s2) := fun g => g.fr.cell (cell_of_block q14 3) id
          have gD4 : ∀ g : Gr No w0, g.W.cell? ⟨w12.heap.size, 4, none⟩ = some (.int .i64 t2) := fun g => g.fr.cell (cell_of_block q14 4) id
          have gD5 : ∀ g : Gr No w0, g.W.cell? ⟨w12.heap.size, 5, none⟩ = some (.int .i64 e2) := fun g => g.fr.cell (cell_of_block q14 5) id
          have gD6 : ∀ g : Gr No w0, g.W.cell? ⟨w12.heap.size, 6, none⟩ = some (.slice ya n2.length yc) := fun g => g.fr.cell (cell_of_block q14 6) id
          have gX6 : ∀ g : Gr No w0, g.W.cell? ⟨w5.heap.size, 6, none⟩ = some (.slice (some ⟨b2, off2, none⟩) n1.length xc) := fun g => g.fr.cell (cell_of_block qX 6) id
          have gZ0 : ∀ g : Gr No w0, g.W.cell? ⟨b2, off2 + j * 7, none⟩ = some (.int .i64 k2) := fun g => g.fr.cell z0 id
          have gZ1 : ∀ g : Gr No w0, g.W.cell? ⟨b2, off2 + j * 7 + 1, none⟩ = some (.string i2) := fun g => g.fr.cell z1 id
          have gZ2 : ∀ g : Gr No w0, g.W.cell? ⟨b2, off2 + j * 7 + 2, none⟩ = some (.string l2) := fun g => g.fr.cell z2 id
          have gZ3 : ∀ g : Gr No w0, g.W.cell? ⟨b2, off2 + j * 7 + 3, none⟩ = some (.int .i64 s2) := fun g => g.fr.cell z3 id
          have gZ4 : ∀ g : Gr No w0, g.W.cell? ⟨b2, off2 + j * 7 + 4, none⟩ = some (.int .i64 t2) := fun g => g.fr.cell z4 id
          have gZ5 : ∀ g : Gr No w0, g.W.cell? ⟨b2, off2 + j * 7 + 5, none⟩ = some (.int .i64 e2) := fun g => g.fr.cell z5 id
          have gZ6 : ∀ g : Gr No w0, g.W.cell? ⟨b2, off2 + j * 7 + 6, none⟩ = some (.slice a2 n2.length cap2) := fun g => g.fr.cell z6 id
          have HR := Lib.hid (And.intro hfr4 (And.intro hAtD4 (And.intro hAtX (And.intro q14 qX))))
          clear hfr3 hfr4 hAtD3 hAtD4 hAtX q13 q14 qX z0 z1 z2 z3 z4 z5 z6 hin2 hinD hf0 hd
          repeat (first | (apply sig_q; exact rfl; exact rfl; exact rfl; intro K hK; go_big_quiet_op; go_big_quiet_on) | (apply sig_skip; exact rfl; exact rfl; exact rfl; intro K hK; go_big_quiet_op; go_big_quiet_on))
          clear gD0 gD1 gD2 gD3 gD4 gD5 gD6 gX6 gZ0 gZ1 gZ2 gZ3 gZ4 gZ5 gZ6
          apply sig_m
          exact rfl
          go_wp2_with fail
          refine hsm.mono ?_
          rintro en wa ⟨rfl, hfa⟩
          have Hfa := Lib.hid hfa
          clear hsm
          go_wp2_with fail
          refine OnlyN.mk ⟨hfa, ?_⟩
          clear hfa
          have gD0 : ∀ g : Gr No wa, g.W.cell? ⟨w12.heap.size, 0, none⟩ = some (.int .i64 k2) := fun g => g.fr.cell (cell_of_block (Hfa.out.heap HR.out.2.2.2.1 id) 0) id
          have gD1 : ∀ g : Gr No wa, g.W.cell? ⟨w12.heap.size, 1, none⟩ = some (.string i2) := fun g => g.fr.cell (cell_of_block (Hfa.out.heap HR.out.2.2.2.1 id) 1) id
          have gD2 : ∀ g : Gr No wa, g.W.cell? ⟨w12.heap.size, 2, none⟩ = some (.string l2) := fun g => g.fr.cell (cell_of_block (Hfa.out.heap HR.out.2.2.2.1 id) 2) id
          have gD3 : ∀ g : Gr No wa, g.W.cell? ⟨w12.heap.size, 3, none⟩ = some (.int .i64 s2) := fun g => g.fr.cell (cell_of_block (Hfa.out.heap HR.out.2.2.2.1 id) 3) id
          have gD4 : ∀ g : Gr No wa, g.W.cell? ⟨w12.heap.size, 4, none⟩ = some (.int .i64 t2) := fun g => g.fr.cell (cell_of_block (Hfa.out.heap HR.out.2.2.2.1 id) 4) id
          have gD5 : ∀ g : Gr No wa, g.W.cell? ⟨w12.heap.size, 5, none⟩ = some (.int .i64 e2) := fun g => g.fr.cell (cell_of_block (Hfa.out.heap HR.out.2.2.2.1 id) 5) id
          have gD6 : ∀ g : Gr No wa, g.W.cell? ⟨w12.heap.size, 6, none⟩ = some (.slice ya n2.length yc) := fun g => g.fr.cell (cell_of_block (Hfa.out.heap HR.out.2.2.2.1 id) 6) id
          have gX0 : ∀ g : Gr No wa, g.W.cell? ⟨w5.heap.size, 0, none⟩ = some (.int .i64 4) := fun g => g.fr.cell (cell_of_block (Hfa.out.heap HR.out.2.2.2.2 id) 0) id
          have gX1 : ∀ g : Gr No wa, g.W.cell? ⟨w5.heap.size, 1, none⟩ = some (.string vId1) := fun g => g.fr.cell (cell_of_block (Hfa.out.heap HR.out.2.2.2.2 id) 1) id
          have gX2 : ∀ g : Gr No wa, g.W.cell? ⟨w5.heap.size, 2, none⟩ = some (.string l1) := fun g => g.fr.cell (cell_of_block (Hfa.out.heap HR.out.2.2.2.2 id) 2) id
          have gX3 : ∀ g : Gr No wa, g.W.cell? ⟨w5.heap.size, 3, none⟩ = some (.int .i64 1) := fun g => g.fr.cell (cell_of_block (Hfa.out.heap HR.out.2.2.2.2 id) 3) id
          have gX4 : ∀ g : Gr No wa, g.W.cell? ⟨w5.heap.size, 4, none⟩ = some (.int .i64 1) := fun g => g.fr.cell (cell_of_block (Hfa.out.heap HR.out.2.2.2.2 id) 4) id
          have gX5 : ∀ g : Gr No wa, g.W.cell? ⟨w5.heap.size, 5, none⟩ = some (.int .i64 e1) := fun g => g.fr.cell (cell_of_block (Hfa.out.heap HR.out.2.2.2.2 id) 5) id
          have gX6 : ∀ g : Gr No wa, g.W.cell? ⟨w5.heap.size, 6, none⟩ = some (.slice (some ⟨b2, off2, none⟩) n1.length xc) := fun g => g.fr.cell (cell_of_block (Hfa.out.heap HR.out.2.2.2.2 id) 6) id
          repeat (first | (apply sig_q; exact rfl; exact rfl; exact rfl; intro K hK; go_big_quiet_op; go_big_quiet_on) | (apply sig_skip; exact rfl; exact rfl; exact rfl; intro K hK; go_big_quiet_op; go_big_quiet_on))
          clear gD0 gD1 gD2 gD3 gD4 gD5 gD6 gX0 gX1 gX2 gX3 gX4 gX5 gX6
          have hd1 := c_depth (HR.out.2.1.no Hfa.out) HfD.out.count
          obtain ⟨dd, hdd⟩ : ∃ dd, dd = (Ct.mk k2 i2 l2 s2 t2 e2 n2).depth := ⟨_, rfl⟩
          rw [← hdd] at hd1
          have HDd := Lib.hid hdd
          clear hdd
          apply sig_m
          exact rfl
          go_wp2_with fail
          refine hd1.mono ?_
          rintro en wb ⟨rfl, hfb⟩
          have Hfb := Lib.hid (Hfa.out.step hfb (fun _ _ h => h))
          clear hd1
          go_wp2_with fail
          refine OnlyN.mk ⟨hfb, ?_⟩
          clear hfb
          have hd2 := c_depth (HR.out.2.2.1.no Hfb.out) HfX.out.count
          obtain ⟨dx, hdx⟩ : ∃ dx, dx = (Ct.mk 4 vId1 l1 1 1 e1 n1).depth := ⟨_, rfl⟩
          rw [← hdx] at hd2
          have hlss : (dd : Int) < dx := by have h := Hdl.out; rw [← HDd.out, ← hdx] at h; omega
          have hlsn : ¬ (dx : Int) ≤ dd := by omega
          clear hdx
          apply sig_m
          exact rfl
          go_wp2_with fail
          refine hd2.mono ?_
          rintro en wc ⟨rfl, hfc⟩
          have Hfc := Lib.hid (HR.out.1.step (Hfb.out.step hfc (fun _ _ h => h)) (fun _ _ h => h))
          clear hd2
          go_wp2_with fail
          refine OnlyN.mk ⟨hfc, ?_⟩
          clear hfc
          repeat (first | (apply sig_q; exact rfl; exact rfl; exact rfl; intro K hK; go_big_quiet_op; go_big_quiet_on) | (apply sig_skip; exact rfl; exact rfl; exact rfl; intro K hK; go_big_quiet_op; go_big_quiet_on))
          refine sig_end ?_
          go_wp2_with fail
          go_roundw
          case rel => exact ⟨j + 1, by omega, by go_num, Hfc.out⟩
          case measure => simp [intOf]; omega
      · obtain rfl : j = n1.length := by omega
        have hge : ¬ (n1.length : Int) < n1.length := by omega
        have hk := known34 wr (hE11.no hfr)
        have hfz := hfw11.step hfr (fun _ _ h => h)
        clear hfr hE11 hfw11 hAt11 hIn hV q10
        go_wp2_with fail
        refine hk.mono ?_
        rintro en w7 ⟨rfl, hf7⟩
        have hfin := hfz.step hf7 (fun _ _ h => h)
        clear hk hf7 hfz
        go_wp2_with fail
        go_ret
        exact ⟨rfl, hfin⟩
end Go.Proofs.YtbblkknndaoefaaGreatDoor
namespace Go.Proofs.YtbblkknndaoefaaGreatDoor.volumeInner
open Go.ChangeShapes Go.WideShapes Go.ChangeAt Go.RowKit
open Go.ChangeMaps (open_string shut_string)
set_option linter.unusedVariables false

theorem own : ownKnob Tryz.prog.godebug = none := by kernel_rfl
theorem laidOut : laidOutB Tryz.prog = true := by kernel_rfl

set_option maxRecDepth 100000 in
theorem lifted (os : Os) (started : os.Started) (H : Type) (enc : TypeId × Value → H) :
    ReturnsInHanded {} Tryz.checked os 6 .any (fun w args => (Rows.volumeInnerSpec.pre enc Tryz.prog Tryz.f6 Rows.volumeInnerRow.domain false w args ∧ laidMetH Tryz.prog Rows.volumeInnerRow.laid w) ∧ sizedMet enc Tryz.prog Tryz.f6 (OpenSpec.ofChange Rows.volumeInnerSpec) false w args)
      (Rows.volumeInnerSpec.post enc Tryz.prog Tryz.f6 false true false false) := by
  refine returns_laid_sized (C := Tryz.checked) (X := fun w _ => laidMetH Tryz.prog Rows.volumeInnerRow.laid w) (fun _ _ _ hh h => h.of_heap hh) own started (by kernel_rfl) Tryz.func6
    (ChangeSpec.witness_shaped (enc := enc) (C := Tryz.checked) (os := os) (X := fun w _ => laidMetH Tryz.prog Rows.volumeInnerRow.laid w) false (World.laidAll Tryz.prog os Rows.volumeInnerRow.laid) #[.slice none 0 0] 8 (World.laidAll_os _ _ _)
      (World.shaped_of_ZipB (by kernel_rfl) (by kernel_rfl)) (by kernel_rfl) (by kernel_rfl) (by kernel_rfl)
      (by rw [MakeChecks.laidMetH_plain _ _ _ (by kernel_rfl)]; exact laidMet_laidAll _ (by kernel_rfl) (by kernel_rfl))) ?_
  intro W base args ds gs before hval0 hW hz hL hsh
  have hval : ∀ (j : Nat) t v, Tryz.f6.params[j]? = some t → args[j]? = some v → Value.okWide Tryz.prog W .any base t v := hval0
  have hW' := hW
  obtain ⟨p, q, hA0, hV, rfl, hfz, hnd⟩ := hW
  have hA : DataW.TrodAll enc Tryz.prog W 0 (fun _ => true) true Tryz.f6.params.toList args.toList ds p := hA0
  have hsz : ∀ (j : Nat) (t : TypeId) (d : DataW H), (Tryz.f6.params.toList ++ (OpenSpec.ofChange Rows.volumeInnerSpec).bare.plain.varTypes Tryz.prog)[j]? = some t → (ds ++ gs)[j]? = some d → Wt t d := fun j t d h1 h2 => wt_each hz h1 h2
  rw [Tryz.params6] at hA hval hsz
  obtain ⟨v0, vs0, d0, ds0, p0, q0, hargs, rfl, rfl, h0, r0⟩ := trodAll_cons hA
  obtain ⟨rfl, rfl, rfl⟩ := trodAll_nil r0
  obtain rfl : args = #[v0] := by cases args; simp_all
  obtain ⟨rfl, rfl⟩ := trodVars_none hV
  have z0 : Wt 22 d0 := hsz 0 _ _ rfl rfl
  clear hsz hz
  obtain ⟨a0, len0, cap0, rfl⟩ := okWide_slice Tryz.underlying22 (hval 0 22 v0 rfl rfl)
  have k0 := h0
  have lt0 : ∀ x ∈ p0, x.block < W.heap.size := by obtain ⟨m, hm⟩ := k0; exact DataW.trod_lt m _ _ _ hm
  obtain ⟨l0, rfl, hl0⟩ : ∃ l : List Int, l.length = len0 ∧ Ints W a0 cap0 l := by
    obtain ⟨fuel, hf⟩ := h0
    rcases open_ints Tryz.underlying22 Tryz.underlying3 (by kernel_rfl) hf with ⟨hcs, _⟩ | ⟨x, l, c, zs, hcs, _, hl, hm, hz, _, hcell, hwz⟩
    · simp [Value.cells] at hcs
      obtain ⟨rfl, rfl, rfl⟩ := hcs
      exact Ints.of_isRow (zs := []) (.inl ⟨rfl, rfl, rfl, rfl⟩)
    · simp [Value.cells] at hcs
      obtain ⟨rfl, rfl, rfl⟩ := hcs
      exact Ints.of_isRow (zs := zs) (.inr ⟨_, rfl, hl, hm, by simpa using hz, hcell, hwz⟩)
  rw [MakeChecks.laidMetH_plain _ _ _ (by kernel_rfl)] at hL
  have hE := env_of hsh hL
  clear hA0 hval0
  refine (vinner_walk a0 cap0 l0 W hl0 hE).mono fun e W' ⟨he, hfr⟩ => ?_
  have bel : Below W.heap.size W W' := hfr.below (Nat.le_refl _) (fun b hb e => e)
  subst he
  exact ⟨_, rfl, _, _, _, [], _, [], hW', trodAll_mk1 (shut_bool Tryz.underlying4 _), (trodAll_cons_mk (Below.trod laidOut (by kernel_rfl) (of_decide_eq_true (by kernel_rfl)) k0 bel lt0) trodAll_mk0), rfl, bel.frame _, fun h => by cases h⟩

theorem isNamed : Tryz.pinned.checked.prog.funcNamed Rows.volumeInnerRow.func = some 6 := by kernel_rfl
theorem and2 {a b : Bool} (h : a = true) (k : b = true) : (a && b) = true := by rw [h, k]; rfl
theorem c0 : (Rows.volumeInnerRow.wf (OpenSpec.ofChange Rows.volumeInnerSpec)) = true := by kernel_rfl
theorem c1 : (laidOutB Tryz.pinned.checked.prog) = true := by kernel_rfl
theorem c2 : (mapsRowed Tryz.pinned.checked.prog) = true := by kernel_rfl
theorem c3 : (Tryz.f6.params.all (Tryz.pinned.checked.prog.readableRec ·)) = true := by kernel_rfl
theorem c4 : (namedTie Tryz.pinned.checked.prog Rows.volumeInnerRow.named Rows.volumeInnerSpec.vars) = true := by kernel_rfl
theorem c5 : ((Rows.volumeInnerRow.stops == [])) = true := by kernel_rfl
theorem c6 : ((Tryz.pinned.checked.prog.stops == [])) = true := by kernel_rfl
theorem c7 : ((Rows.volumeInnerRow.knobs == [])) = true := by kernel_rfl
theorem c8 : ((Tryz.pinned.checked.prog.stopKnobs == [])) = true := by kernel_rfl
theorem c9 : ((Rows.volumeInnerRow.inPlace == Tryz.pinned.checked.prog.inPlace 6)) = true := by kernel_rfl
theorem c10 : ((Rows.volumeInnerRow.unfollowed == Tryz.pinned.checked.prog.unfollowed 6)) = true := by kernel_rfl
theorem c11 : ((Rows.volumeInnerRow.recurses == Tryz.pinned.checked.prog.recurses 6)) = true := by kernel_rfl
theorem c12 : ((Rows.volumeInnerRow.named == Tryz.pinned.checked.prog.varsNamed 6)) = true := by kernel_rfl
theorem c13 : ((Rows.volumeInnerRow.maps == (Tryz.f6.params.toList ++ Rows.volumeInnerSpec.plain.varTypes Tryz.pinned.checked.prog).any (Tryz.pinned.checked.prog.mapsRec ·))) = true := by kernel_rfl
theorem c14 : ((Rows.volumeInnerRow.ifaces == (Tryz.f6.params.toList ++ Rows.volumeInnerSpec.plain.varTypes Tryz.pinned.checked.prog).any (Tryz.pinned.checked.prog.ifacesRec ·))) = true := by kernel_rfl
theorem c15 : ((Rows.volumeInnerRow.mapsOut == Tryz.pinned.checked.prog.mapsAmong Tryz.f6.resultTypes.toList)) = true := by kernel_rfl
theorem c16 : ((Rows.volumeInnerRow.loops == (Tryz.f6.params.toList ++ Rows.volumeInnerSpec.plain.varTypes Tryz.pinned.checked.prog).any (Tryz.pinned.checked.prog.loopsFrom ·))) = true := by kernel_rfl
theorem c17 : ((Rows.volumeInnerRow.wideKeys == (Tryz.f6.params.toList ++ Rows.volumeInnerSpec.plain.varTypes Tryz.pinned.checked.prog ++ Tryz.f6.resultTypes.toList).any (Tryz.pinned.checked.prog.wideKeysFrom ·))) = true := by kernel_rfl
theorem c18 : (Rows.volumeInnerSpec.vars.all (Tryz.pinned.checked.prog.varReadable ·)) = true := by kernel_rfl
theorem c19 : (Tryz.f6.resultTypes.all (fun t => Tryz.pinned.checked.prog.readableRec t && decide (t < Tryz.pinned.checked.prog.types.size))) = true := by kernel_rfl
theorem c20 : ((Rows.volumeInnerRow.ifacesOut == Tryz.f6.resultTypes.toList.any (Tryz.pinned.checked.prog.ifacesRec ·))) = true := by kernel_rfl
theorem c21 : ((Rows.volumeInnerRow.loopsOut == Tryz.f6.resultTypes.toList.any (Tryz.pinned.checked.prog.loopsFrom ·))) = true := by kernel_rfl
theorem c22 : ((Rows.volumeInnerRow.plainKeys == Tryz.pinned.checked.prog.plainKeys)) = true := by kernel_rfl
theorem c23 : (Rows.volumeInnerRow.shortTexts.isNone) = true := by kernel_rfl
theorem c24 : (Tryz.pinned.checked.prog.stopsHeard) = true := by kernel_rfl
theorem c25 : (Tryz.pinned.checked.prog.mayEnter) = true := by kernel_rfl
theorem c26 : ((Rows.volumeInnerRow.lifted == Tryz.pinned.checked.prog.liftsFinal)) = true := by kernel_rfl
theorem c27 : ((Tryz.pinned.checked.prog.make == some Rows.volumeInnerRow.make)) = true := by kernel_rfl
theorem c28 : ((Rows.volumeInnerRow.kinds == (if Rows.volumeInnerRow.domain.isEmpty then [] else Tryz.f6.params.toList.map fun t => match Tryz.pinned.checked.prog.underlying t with | some (.int k) => some k | _ => none))) = true := by kernel_rfl
theorem c29 : ((Rows.volumeInnerRow.pinned == Rows.volumeInnerRow.pinnedBy)) = true := by kernel_rfl
theorem c30 : ((Rows.volumeInnerRow.veiled == (Tryz.f6.params.toList ++ Rows.volumeInnerSpec.plain.varTypes Tryz.pinned.checked.prog ++ Tryz.f6.resultTypes.toList).any (Tryz.pinned.checked.prog.veiledRec ·))) = true := by kernel_rfl
theorem c31 : (Rows.volumeInnerRow.veiledFits Tryz.pinned.checked.prog Tryz.f6.params.toList (Tryz.f6.params.toList ++ Rows.volumeInnerSpec.plain.varTypes Tryz.pinned.checked.prog ++ Tryz.f6.resultTypes.toList)) = true := by kernel_rfl
set_option maxRecDepth 100000 in
theorem closed : joinedFacts Tryz.pinned.checked.prog 6 Tryz.f6 Rows.volumeInnerSpec Rows.volumeInnerRow = true := by
  unfold joinedFacts
  exact (and2 (and2 (and2 (and2 (and2 (and2 (and2 (and2 (and2 (and2 (and2 (and2 (and2 (and2 (and2 (and2 (and2 (and2 (and2 (and2 (and2 (and2 (and2 (and2 (and2 (and2 (and2 (and2 (and2 (and2 (and2 c0 c1) c2) c3) c4) c5) c6) c7) c8) c9) c10) c11) c12) c13) c14) c15) c16) c17) c18) c19) c20) c21) c22) c23) c24) c25) c26) c27) c28) c29) c30) c31)
theorem inst : Tryz.f6.isInstance Tryz.pinned.checked.prog Rows.volumeInnerRow.origin Rows.volumeInnerRow.targs := of_decide_eq_true (by kernel_rfl)
theorem wrap : Tryz.f6.isWrapper Tryz.pinned.checked.prog Rows.volumeInnerRow.wrapper Rows.volumeInnerRow.mainSum := by
  unfold Func.isWrapper; first | (rw [if_pos (by decide +kernel)]; kernel_rfl) | (rw [if_neg (by decide +kernel)]; exact ⟨rfl, rfl⟩)
theorem over : Rows.volumeInnerRow.holds Tryz.pinned (OpenSpec.ofChange Rows.volumeInnerSpec) :=
  OpenClaim.holds_of_wide 6 Tryz.f6 rfl rfl rfl rfl rfl rfl rfl ⟨rfl, rfl, rfl, rfl, rfl⟩ rfl rfl rfl rfl rfl isNamed Tryz.func6 closed inst wrap
    (fun os started H enc _ => lifted os started H enc)

theorem t1 : Rows.volumeInnerRow.wfByText (OpenSpec.ofChange Rows.volumeInnerSpec) = true := by kernel_rfl
theorem t2 : Tryz.pinned.checked.prog.mainIs = some ((true, "7c35bbe876a6797357c7d4d4c7eda80dfa3d5b512daa5cf20d9229a0a48d5af4").1, (true, "7c35bbe876a6797357c7d4d4c7eda80dfa3d5b512daa5cf20d9229a0a48d5af4").2.toList) := by kernel_rfl
theorem t3 : true = Tryz.pinned.checked.prog.looks [] := by kernel_rfl
theorem t4 : false = Rows.volumeInnerRow.goesBy Tryz.pinned.checked.prog := by kernel_rfl
theorem t5 : Tryz.prog.funcNamed "coldplug/coldpluglaw34.VolumeInner" = some 6 := by kernel_rfl
theorem t6 : ([22].all fun u => !Tryz.prog.wantsStandIn u) = true := by kernel_rfl
theorem proved : Rows.VolumeInnerCardSaid :=
  Claim7.holds_tied_plain_at .later [] [.data, .data, .data, .data, .sentinel, .sentinel, .pinned, .pinned] true (true, "7c35bbe876a6797357c7d4d4c7eda80dfa3d5b512daa5cf20d9229a0a48d5af4") true over (fun _ h => by cases h) t1 (fun _ h => by cases h) volumeInner_row_tie rfl ⟨rfl, rfl⟩ t2 rfl
    (fun f fn hf hfn => by
      obtain rfl : f = 6 := Option.some.inj (t5.symm.trans hf) |>.symm
      obtain rfl : fn = Tryz.f6 := (Option.some.inj (Tryz.func6.symm.trans hfn)).symm
      exact ⟨t3, fun j t ht => by
        rw [Tryz.params6] at ht
        have hm : t ∈ [22] := by simpa using Array.mem_of_getElem? ht
        have hall : ([22].all fun u => !Tryz.prog.wantsStandIn u) = true := t6
        exact (show Tryz.prog.wantsStandIn t = false by simpa using List.all_eq_true.1 hall t hm)⟩)
    t4
#print axioms proved
end Go.Proofs.YtbblkknndaoefaaGreatDoor.volumeInner
