/- Arrays as the reference builds them. Plain. The example of the chapter of arrays. Plain. Watch. -/
import Derived.Test.YtcibciippghooaaGreatDoorZP6
import Derived.Test.YtcibciippghooaaGreatDoorZP2
import Derived.Test.YtcibciippghooaaGreatDoorZP3
import Derived.Test.YtcibciippghooaaGreatDoorZL2
import Derived.Test.YtcibciippghooaaGreatDoorZL22
import Derived.Test.YtcibciippghooaaGreatDoorZL19
import Derived.Test.YtcibciippghooaaGreatDoorZP5
import Derived.Test.YtcibciippghooaaGreatDoorZL8
import Derived.Test.YtcibciippghooaaGreatDoorZL4
namespace Go.Proofs.YtcibciippghooaaGreatDoor
open Go.RowKit
set_option linter.unusedVariables false

def allG : Mem → Bool := fun _ => true
section
variable {good : Mem → Bool}
theorem best2_all (L : List Mem) : best2 allG (L.filter good) = best2 good L := by
  refine rev_ind (P := fun L => best2 allG (L.filter good) = best2 good L) rfl ?_ L
  intro l m ih
  rw [List.filter_append, best2_snoc]
  cases h : good m with
  | true =>
    rw [show [m].filter good = [m] from by simp [h], best2_snoc, ih]
    funext x
    unfold best2S
    rw [h]; rfl
  | false =>
    rw [show [m].filter good = [] from by simp [h], List.append_nil, ih, best2S_skip h]
theorem best2S_other {g : ByteArray × Int → Option Mem} {m : Mem} {x : ByteArray × Int} (h : ¬ (m.i = x.1 ∧ m.s = x.2)) : best2S good g m x = g x := by
  unfold best2S
  rw [if_neg]
  intro e
  simp only [Bool.and_eq_true, decide_eq_true_eq] at e
  have e2 := e.1.2
  exact h ⟨by rw [e2], by rw [e2]⟩
theorem best2S_first {g : ByteArray × Int → Option Mem} {m : Mem} (h1 : good m = true) (hg : g (m.i, m.s) = none) : best2S good g m (m.i, m.s) = some m := by
  rw [best2S_take h1 (fun o ho => by rw [hg] at ho; cases ho)]
  exact if_pos rfl
theorem ids34 (L : List Mem) : IsIds2 (best2 good L) (idsW (L.filter good)) := by
  refine ⟨asc_of (idsW_ok _).1, fun x => ?_⟩
  rw [(idsW_ok _).2.1]
  constructor
  · rintro ⟨m, hm, rfl⟩
    obtain ⟨h1, h2⟩ := List.mem_filter.1 hm
    obtain ⟨o, ho⟩ := best2_some L m h1 h2
    exact ⟨m.s, by rw [ho]; rfl⟩
  · rintro ⟨s, hs⟩
    obtain ⟨m, hm⟩ := Option.isSome_iff_exists.1 hs
    obtain ⟨h1, h2, h3⟩ := best2_mem L _ m hm
    simp only [Prod.mk.injEq] at h3
    exact ⟨m, List.mem_filter.2 ⟨h1, h2⟩, h3.1⟩
end
/-- The member at the least slot, when the slots from 16 - n + 1 on have been looked at. -/
def upM (b : ByteArray × Int → Option Mem) (id : ByteArray) : Nat → Option Mem
  | 0 => none
  | n + 1 => match b (id, 16 - (n : Int)) with
    | some m => some m
    | none => upM b id n
theorem upM_some {b : ByteArray × Int → Option Mem} {id : ByteArray} {n : Nat} {m : Mem} (h : b (id, 16 - (n : Int)) = some m) : upM b id (n + 1) = some m := by unfold upM; rw [h]
theorem upM_none {b : ByteArray × Int → Option Mem} {id : ByteArray} {n : Nat} (h : b (id, 16 - (n : Int)) = none) : upM b id (n + 1) = upM b id n := by rw [upM, h]
theorem upM_inv (b : ByteArray × Int → Option Mem) (id : ByteArray) : ∀ n : Nat, n ≤ 16 →
    (∃ k : Nat, 16 - n ≤ k ∧ k < 16 ∧ (b (id, (k : Int) + 1)).isSome = true ∧ (∀ j : Nat, 16 - n ≤ j → j < k → (b (id, (j : Int) + 1)).isSome = false) ∧ upM b id n = b (id, (k : Int) + 1)) ∨
    ((∀ k : Nat, 16 - n ≤ k → k < 16 → (b (id, (k : Int) + 1)).isSome = false) ∧ upM b id n = none)
  | 0, _ => .inr ⟨fun k h1 h2 => by omega, rfl⟩
  | n + 1, hn => by
    have ih := upM_inv b id n (by omega)
    have e : (16 - (n : Int)) = ((15 - n : Nat) : Int) + 1 := by omega
    rcases hb : b (id, 16 - (n : Int)) with _ | m
    · rw [upM_none hb]
      have hb' : (b (id, ((15 - n : Nat) : Int) + 1)).isSome = false := by rw [← e, hb]; rfl
      rcases ih with ⟨k, h1, h2, h3, h4, h5⟩ | ⟨h1, h2⟩
      · refine .inl ⟨k, by omega, h2, h3, fun j hj1 hj2 => ?_, h5⟩
        by_cases hj : j = 15 - n
        · rw [hj]; exact hb'
        · exact h4 j (by omega) hj2
      · refine .inr ⟨fun k hk1 hk2 => ?_, h2⟩
        by_cases hk : k = 15 - n
        · rw [hk]; exact hb'
        · exact h1 k (by omega) hk2
    · rw [upM_some hb]
      refine .inl ⟨15 - n, by omega, by omega, ?_, fun j h1 h2 => by omega, ?_⟩
      · rw [← e, hb]; rfl
      · rw [← e, hb]
theorem upM_first (b : ByteArray × Int → Option Mem) (id : ByteArray) : (upM b id 16).getD Mem.zero = firstOf b id := by
  rcases upM_inv b id 16 (Nat.le_refl _) with ⟨k, _, h2, h3, h4, h5⟩ | ⟨h1, h2⟩
  · have hf : (List.range 16).find? (fun (k : Nat) => (b (id, (k : Int) + 1)).isSome) = some k := by
      rw [List.find?_range_eq_some]
      exact ⟨h3, List.mem_range.2 h2, fun j hj => by rw [h4 j (by omega) hj]; rfl⟩
    rw [h5]
    unfold firstOf leastSlot
    rw [hf]; rfl
  · have hf : (List.range 16).find? (fun (k : Nat) => (b (id, (k : Int) + 1)).isSome) = none := by
      rw [List.find?_eq_none]
      intro k hk
      rw [h1 k (by omega) (List.mem_range.1 hk)]
      decide
    rw [h2]
    unfold firstOf leastSlot
    rw [hf]
    have h3 := h1 0 (by omega) (by omega)
    simp only [Option.getD_none]
    rcases hb : b (id, ((0 : Nat) : Int) + 1) with _ | m
    · rfl
    · rw [hb] at h3; cases h3
/-- Paths and count of the first n slots. -/
def pathsN (b : ByteArray × Int → Option Mem) (id : ByteArray) (n : Nat) : List ByteArray := (List.range n).map (pathAt b id)
def cntN (b : ByteArray × Int → Option Mem) (id : ByteArray) (n : Nat) : Nat := ((List.range n).filter fun (k : Nat) => (b (id, (k : Int) + 1)).isSome).length
theorem pathsN_succ (b : ByteArray × Int → Option Mem) (id : ByteArray) (n : Nat) : pathsN b id (n + 1) = pathsN b id n ++ [pathAt b id n] := by
  unfold pathsN; rw [List.range_succ, List.map_append]; rfl
theorem pathsN_len (b : ByteArray × Int → Option Mem) (id : ByteArray) (n : Nat) : (pathsN b id n).length = n := by simp [pathsN]
theorem cntN_some {b : ByteArray × Int → Option Mem} {id : ByteArray} {n : Nat} {m : Mem} (h : b (id, (n : Int) + 1) = some m) : cntN b id (n + 1) = cntN b id n + 1 := by
  unfold cntN; rw [List.range_succ, List.filter_append]; simp [h]
theorem cntN_none {b : ByteArray × Int → Option Mem} {id : ByteArray} {n : Nat} (h : b (id, (n : Int) + 1) = none) : cntN b id (n + 1) = cntN b id n := by
  unfold cntN; rw [List.range_succ, List.filter_append]; simp [h]
theorem cntN_le (b : ByteArray × Int → Option Mem) (id : ByteArray) (n : Nat) : cntN b id n ≤ n := by
  unfold cntN
  exact Nat.le_trans (List.length_filter_le _ _) (by simp)
theorem pathAt_some {b : ByteArray × Int → Option Mem} {id : ByteArray} {n : Nat} {m : Mem} (h : b (id, (n : Int) + 1) = some m) : pathAt b id n = m.p := by unfold pathAt; rw [h]
theorem pathAt_none {b : ByteArray × Int → Option Mem} {id : ByteArray} {n : Nat} (h : b (id, (n : Int) + 1) = none) : pathAt b id n = ⟨#[]⟩ := by unfold pathAt; rw [h]
theorem buildA_eq (b : ByteArray × Int → Option Mem) (id : ByteArray) {T : Nat} (hT : (firstOf b id).t = (T : Int)) : buildA b id = ⟨id, pathsN b id T, (T : Int), (firstOf b id).e, (cntN b id T : Nat), (firstOf b id).l⟩ := by
  unfold buildA pathsN cntN
  rw [hT]
  simp only [Int.toNat_natCast]
end Go.Proofs.YtcibciippghooaaGreatDoor
namespace Go.Proofs.YtcibciippghooaaGreatDoor
open Go.RowKit
set_option linter.unusedVariables false

def rdT1 : ByteArray := ⟨#[114, 97, 105, 100, 58, 114, 58, 49, 47, 51, 47, 50, 40, 102, 115, 58, 120, 58, 41]⟩
def rdT2 : ByteArray := ⟨#[114, 97, 105, 100, 58, 114, 58, 51, 47, 51, 47, 50, 40, 102, 115, 58, 121, 58, 41]⟩
def rdT3 : ByteArray := ⟨#[114, 97, 105, 100, 58, 114, 58, 51, 47, 51, 47, 49, 40, 102, 115, 58, 122, 58, 41]⟩
def rdI : ByteArray := ⟨#[114]⟩
def rdPc : ByteArray := ⟨#[47, 99]⟩
def rdFz : ByteArray := ⟨#[102, 115, 58, 122, 58]⟩
def rdC1 : Ct := .mk 2 rdI ⟨#[]⟩ 1 3 2 [.mk 1 kIx ⟨#[]⟩ 0 0 0 []]
def rdC2 : Ct := .mk 2 rdI ⟨#[]⟩ 3 3 2 [.mk 1 ⟨#[121]⟩ ⟨#[]⟩ 0 0 0 []]
def rdC3 : Ct := .mk 2 rdI ⟨#[]⟩ 3 3 1 [.mk 1 ⟨#[122]⟩ ⟨#[]⟩ 0 0 0 []]
theorem rd_it1 : Lib.itoa 1 = [49] := by kernel_rfl
theorem rd_it2 : Lib.itoa 2 = [50] := by kernel_rfl
theorem rd_it3 : Lib.itoa 3 = [51] := by kernel_rfl
theorem rdP1 : parseC rdT1 = some rdC1 := (parse_iff _ _).2 ⟨by decide, by decide, by rw [rdC1, text2]; simp [text1, commas, rdT1, rdI, kIx, rd_it1, rd_it2, rd_it3]; rfl⟩
theorem rdP2 : parseC rdT2 = some rdC2 := (parse_iff _ _).2 ⟨by decide, by decide, by rw [rdC2, text2]; simp [text1, commas, rdT2, rdI, rd_it2, rd_it3]; rfl⟩
theorem rdP3 : parseC rdT3 = some rdC3 := (parse_iff _ _).2 ⟨by decide, by decide, by rw [rdC3, text2]; simp [text1, commas, rdT3, rdI, rd_it1, rd_it3]; rfl⟩
theorem rdX1 : rdC1.inner.map Ct.txt = [kFx] := by simp [rdC1, Ct.inner, txt1, kIx, kFx]; rfl
theorem rdX2 : rdC2.inner.map Ct.txt = [kFy] := by simp [rdC2, Ct.inner, txt1, kFy]; rfl
theorem rdX3 : rdC3.inner.map Ct.txt = [rdFz] := by simp [rdC3, Ct.inner, txt1, rdFz]; rfl
theorem rdA1 : Ascii rdT1 := fun j b h => (by decide : ∀ b ∈ rdT1.data.toList, b.toNat < 128) b (List.mem_of_getElem? h)
theorem rdA2 : Ascii rdT2 := fun j b h => (by decide : ∀ b ∈ rdT2.data.toList, b.toNat < 128) b (List.mem_of_getElem? h)
theorem rdA3 : Ascii rdT3 := fun j b h => (by decide : ∀ b ∈ rdT3.data.toList, b.toNat < 128) b (List.mem_of_getElem? h)
def rdM1 (a : Option Addr) (c : Nat) : Mem := ⟨kPb, rdI, 0, 1, 3, 2, a, [kFx], c⟩
def rdM2 (a : Option Addr) (c : Nat) : Mem := ⟨kPa, rdI, 0, 3, 3, 2, a, [kFy], c⟩
def rdM3 (a : Option Addr) (c : Nat) : Mem := ⟨rdPc, rdI, 0, 3, 3, 1, a, [rdFz], c⟩
def rdAr : Arr := ⟨rdI, [kPb, ⟨#[]⟩, kPa], 3, 2, 2, [kFx]⟩
section
variable (a1 a2 a3 : Option Addr) (c1 c2 c3 : Nat)
def rdG2 : ByteArray × Int → Option Mem := fun x => if x = (rdI, 3) then some (rdM2 a2 c2) else none
def rdG3 : ByteArray × Int → Option Mem := fun x => if x = (rdI, 1) then some (rdM1 a1 c1) else rdG2 a2 c2 x
theorem rd_s1 : soundA (rdM1 a1 c1) = true := by simp [soundA, soundB, rdM1, ByteArray.toList_eq, kPb]
theorem rd_s2 : soundA (rdM2 a2 c2) = true := by simp [soundA, soundB, rdM2, ByteArray.toList_eq, kPa]
theorem rd_s3 : soundA (rdM3 a3 c3) = true := by simp [soundA, soundB, rdM3, ByteArray.toList_eq, rdPc]
theorem rd_ah : aheadB kPa 0 rdPc 0 = true := by kernel_rfl
theorem rd_b3 : best2 soundA [rdM3 a3 c3, rdM2 a2 c2, rdM1 a1 c1] = rdG3 a1 a2 c1 c2 := by
  have e3 : best2S soundA (fun _ => none) (rdM3 a3 c3) = fun x => if x = (rdI, 3) then some (rdM3 a3 c3) else none := by
    rw [best2S_take (rd_s3 a3 c3) (fun o h => by cases h)]; rfl
  have e2 : best2S soundA (fun x => if x = (rdI, 3) then some (rdM3 a3 c3) else none) (rdM2 a2 c2) = rdG2 a2 c2 := by
    rw [best2S_take (rd_s2 a2 c2) (fun o h => ?_)]
    · funext x
      show (if x = (rdI, 3) then some (rdM2 a2 c2) else if x = (rdI, 3) then some (rdM3 a3 c3) else none) = if x = (rdI, 3) then some (rdM2 a2 c2) else none
      by_cases e : x = (rdI, 3)
      · simp only [if_pos e]
      · simp only [if_neg e]
    · rw [show ((rdM2 a2 c2).i, (rdM2 a2 c2).s) = (rdI, (3 : Int)) from rfl, if_pos rfl] at h
      cases h
      exact rd_ah
  show best2S soundA (best2S soundA (best2S soundA (fun _ => none) (rdM3 a3 c3)) (rdM2 a2 c2)) (rdM1 a1 c1) = _
  rw [e3, e2, best2S_take (rd_s1 a1 c1) (fun o h => ?_)]
  · rfl
  · have : rdG2 a2 c2 (rdI, 1) = none := by unfold rdG2; rw [if_neg (by simp)]
    rw [show ((rdM1 a1 c1).i, (rdM1 a1 c1).s) = (rdI, (1 : Int)) from rfl, this] at h
    cases h
theorem rd_ids : IsIds2 (rdG3 a1 a2 c1 c2) [rdI] := by
  refine ⟨by unfold AscS; decide, fun x => ⟨fun h => ?_, fun ⟨s, h⟩ => ?_⟩⟩
  · obtain rfl : x = rdI := by simpa using h
    exact ⟨1, by unfold rdG3; rw [if_pos rfl]; rfl⟩
  · unfold rdG3 rdG2 at h
    split at h
    · rename_i e; simp at e; simp [e.1]
    · split at h
      · rename_i e; simp at e; simp [e.1]
      · cases h
theorem rd_arr : buildA (rdG3 a1 a2 c1 c2) rdI = rdAr := by
  have h1 : rdG3 a1 a2 c1 c2 (rdI, 1) = some (rdM1 a1 c1) := by unfold rdG3; rw [if_pos rfl]
  have h2 : rdG3 a1 a2 c1 c2 (rdI, 2) = none := by unfold rdG3 rdG2; rw [if_neg (by simp), if_neg (by simp)]
  have h3 : rdG3 a1 a2 c1 c2 (rdI, 3) = some (rdM2 a2 c2) := by unfold rdG3 rdG2; rw [if_neg (by simp), if_pos rfl]
  have hl : leastSlot (rdG3 a1 a2 c1 c2) rdI = 1 := by unfold leastSlot; simp [List.range_succ_eq_map, h1]
  have hf : firstOf (rdG3 a1 a2 c1 c2) rdI = rdM1 a1 c1 := by unfold firstOf; rw [hl, h1]; rfl
  unfold buildA
  rw [hf]
  simp [rdAr, rdM1, List.range_succ_eq_map, pathAt, h1, h2, h3, rdM2]
end
theorem rd_watch : watchL [] [rdAr] [] 5 10 = [⟨rdI, 15⟩] := by
  simp [watchL, watchF, rdAr, hasS, dlOf, laterV]
theorem rd_next : nextV [⟨rdI, 15⟩] 5 = some 15 := by simp [nextV, nxS]
theorem rd_exp (now : Int) : ExpIds [⟨rdI, 15⟩] now (if 15 ≤ now then [rdI] else []) := by
  by_cases h : 15 ≤ now
  · rw [if_pos h]
    refine ⟨by unfold AscS; decide, fun x => ?_⟩
    constructor
    · intro hx
      obtain rfl : x = rdI := by simpa using hx
      exact ⟨_, by simp; rfl, h, rfl⟩
    · rintro ⟨d, hd, _, rfl⟩
      obtain rfl : d = ⟨rdI, 15⟩ := by simpa using hd
      simp
  · rw [if_neg h]
    refine ⟨by unfold AscS; decide, fun x => ?_⟩
    constructor
    · intro hx; simp at hx
    · rintro ⟨d, hd, h2, rfl⟩
      obtain rfl : d = ⟨rdI, 15⟩ := by simpa using hd
      exact absurd h2 h
end Go.Proofs.YtcibciippghooaaGreatDoor
namespace Go.Proofs.YtcibciippghooaaGreatDoor
open Go.RowKit Go.Maps
set_option linter.unusedVariables false

theorem set2 {W : World} {b : Nat} {cs : Array Value} {T : TypeId} (h : W.heap[b]? = some (.cells cs T)) (hs : cs.size = 2) (v0 v1 : Value) :
    ((W.setCell ⟨b, 0, none⟩ v0).setCell ⟨b, 1, none⟩ v1).heap[b]? = some (.cells #[v0, v1] T) ∧ Fr (Is b) W ((W.setCell ⟨b, 0, none⟩ v0).setCell ⟨b, 1, none⟩ v1) := by
  have fs : ∀ {a w : World} (h : Fr (Is b) a w) (i : Nat) (v : Value), Fr (Is b) a (w.setCell ⟨b, i, none⟩ v) := fun h i v => h.setCell (p := ⟨b, i, none⟩) (fun _ => rfl) v
  refine ⟨?_, fs (fs (Fr.refl _ _) _ _) _ _⟩
  obtain ⟨l⟩ := cs
  match l, hs with
  | [_, _], _ =>
    have h0 := block_setCell h 0 v0
    exact block_setCell h0 1 v1
theorem dlOf_some {D : List Dl} {gi : ByteArray} {d : Dl} (now wait : Int) (h : D.find? (isD gi) = some d) : dlOf D now wait gi = d := by unfold dlOf; rw [h]; rfl
theorem dlOf_none {D : List Dl} {gi : ByteArray} (now wait : Int) (h : D.find? (isD gi) = none) : dlOf D now wait gi = ⟨gi, laterV now wait⟩ := by unfold dlOf; rw [h]; rfl
theorem watchF_no {D : List Dl} {ex : List ByteArray} {now wait : Int} {A : Arr} (h : (decide (A.n = A.t) || hasS ex A.i) = true) : watchF D ex now wait A = [] := by unfold watchF; rw [if_pos h]
theorem watchF_yes {D : List Dl} {ex : List ByteArray} {now wait : Int} {A : Arr} (h : (decide (A.n = A.t) || hasS ex A.i) = false) : watchF D ex now wait A = [dlOf D now wait A.i] := by unfold watchF; rw [h]; rfl

set_option maxRecDepth 100000 in
set_option maxHeartbeats 8000000 in
theorem a_watch (da : Option Addr) (dc : Nat) (D : List Dl) (aa : Option Addr) (ac : Nat) (L : List ArrM) (xa : Option Addr) (xc : Nat) (ex : List ByteArray) (now wait : Int) (w : World) (hD : Dls w da dc D) (hL : Arrs w aa ac L) (hX : Strs w xa xc ex) (hDl : D.length ≤ 100000) (hLl : L.length ≤ 100000)
    (hn1 : 0 ≤ now) (hn2 : now ≤ 1073741824) (hw1 : 0 ≤ wait) (hw2 : wait ≤ 2147483648) :
    Calls Tryz.prog 33 #[.slice da D.length dc, .slice aa L.length ac, .slice xa ex.length xc, .int .i64 now, .int .i64 wait] w fun e w' => WatchR D (L.map ArrM.toArr) ex now wait e w' ∧ Fr No w w' := by
  obtain ⟨i0, hi0, hz0, hz1, hz2⟩ := info_parts infoDl
  have hlm := hL.lenmax
  obtain ⟨lv, hlve⟩ : ∃ lv, lv = laterV now wait := ⟨_, rfl⟩
  have Hlv := Lib.hid hlve
  clear hlve
  go_enter Tryz.func33, Tryz.ntmps33
  go_wp2_with fail
  go_loopw [11, 18] (fun v i wr => ∃ (k : Nat) (V : List Dl) (av : Option Addr) (cv : Nat), k ≤ L.length ∧ V.length ≤ k ∧ v = .slice av V.length cv ∧ i = .int .i64 (k : Int) ∧ wr.ownsRow w.heap.size 68 2 (.slice av V.length cv) V.length (dflat V) ∧ Hid (V = watchL D ((L.take k).map ArrM.toArr) ex now wait) ∧ Fr (From w.heap.size) w wr) (fun _ i _ => L.length - (intOf i).toNat)
  case atStart => exact ⟨0, [], none, 0, by omega, by simp, rfl, rfl, World.ownsRow_nil _ _ _ _, by unfold Hid; rfl, Fr.refl _ _⟩
  case round =>
    obtain ⟨k, V, av, cv, hk, hVk, rfl, rfl, hown, HV, hf⟩ := hrel
    have hsr := hf.size
    by_cases hlt : k < L.length
    · have hlt' : (k : Int) < L.length := by omega
      obtain ⟨b, off, A, rfl, hAk, _, ⟨c0, c1, c2, c3, c4, c5⟩, _⟩ := (hL.keep hf (fun b hb h => by unfold From at h; omega)).elem hlt
      have Htk : Hid ((L.take (k + 1)).map ArrM.toArr = (L.take k).map ArrM.toArr ++ [A.toArr]) := by unfold Hid; rw [List.take_add_one, hAk]; simp
      clear hAk
      obtain ⟨⟨gi, ps, t, e, n, ins⟩, pa, pc, la, lc⟩ := A
      simp only at c0 c1 c2 c3 c4 c5
      have hal : Fr No wr (wr.alloc (.cells #[.string gi, .slice pa ps.length pc, .int .i64 t, .int .i64 e, .int .i64 n, .slice la ins.length lc] 58)) := (Fr.refl _ _).alloc _
      have q13 := block_alloc wr (.cells #[.string gi, .slice pa ps.length pc, .int .i64 t, .int .i64 e, .int .i64 n, .slice la ins.length lc] 58)
      obtain ⟨W1, hW1⟩ : ∃ W1, W1 = wr.alloc (.cells #[.string gi, .slice pa ps.length pc, .int .i64 t, .int .i64 e, .int .i64 n, .slice la ins.length lc] 58) := ⟨_, rfl⟩
      rw [← hW1] at hal q13
      have hsa := hal.size
      have hl13 := lt_of_block q13
      have hf1 := hf.step hal (fun _ _ h => h.elim)
      have hown1 := ownsRow_at hown hal (fun _ _ h => h)
      have Hf1 := Lib.hid hf1
      have Hown1 := Lib.hid hown1
      have Hq := Lib.hid q13
      clear hal hf hown hf1 hown1
      go_upto_region 5 with (fail)
      rw [← hW1]
      clear hW1 c0 c1 c2 c3 c4 c5
      have y0 : W1.cell? ⟨wr.heap.size, 0, none⟩ = some (.string gi) := cell_of_block q13 0
      have y1 : W1.cell? ⟨wr.heap.size, 1, none⟩ = some (.slice pa ps.length pc) := cell_of_block q13 1
      have y2 : W1.cell? ⟨wr.heap.size, 2, none⟩ = some (.int .i64 t) := cell_of_block q13 2
      have y3 : W1.cell? ⟨wr.heap.size, 3, none⟩ = some (.int .i64 e) := cell_of_block q13 3
      have y4 : W1.cell? ⟨wr.heap.size, 4, none⟩ = some (.int .i64 n) := cell_of_block q13 4
      have y5 : W1.cell? ⟨wr.heap.size, 5, none⟩ = some (.slice la ins.length lc) := cell_of_block q13 5
      have hwh := a_whole gi t e n pa ps.length pc la lc ins W1
      clear q13
      go_wp2_with fail
      refine hwh.mono ?_
      rintro en w2 ⟨rfl, hf2⟩
      have q2 := hf2.heap Hq.out id
      have Hf2 := Lib.hid (Hf1.out.step hf2 (fun _ _ h => h.elim))
      have Hown2 := Lib.hid (ownsRow_at Hown1.out hf2 (fun _ _ h => h))
      have hs2 := hf2.size
      clear hwh y0 y1 y2 y3 y4 y5 hf2 Hq Hf1 Hown1
      cases hd : decide (n = t) with
      | true =>
        have HV' : Hid (V = watchL D ((L.take (k + 1)).map ArrM.toArr) ex now wait) := by
          unfold Hid; rw [Htk.out, watchL_snoc, watchF_no (by simp only; rw [hd]; rfl), List.append_nil, HV.out]
        clear hd
        go_wp2_with fail
        go_roundw
        case rel => exact ⟨k + 1, V, av, cv, by omega, by omega, rfl, by go_num, Hown2.out, HV', Hf2.out⟩
        case measure => simp [intOf]; omega
      | false =>
        have x0 : w2.cell? ⟨wr.heap.size, 0, none⟩ = some (.string gi) := cell_of_block q2 0
        have hco := strs_contains xa xc ex gi w2 (hX.keep Hf2.out (fun b hb h => by unfold From at h; omega))
        go_wp2_with fail
        refine hco.mono ?_
        rintro en w3 ⟨rfl, hf3⟩
        have q3 := hf3.heap q2 id
        have Hf3 := Lib.hid (Hf2.out.step hf3 (fun _ _ h => h.elim))
        have Hown3 := Lib.hid (ownsRow_at Hown2.out hf3 (fun _ _ h => h))
        have hs3 := hf3.size
        clear hco x0 q2 hf3 Hf2 Hown2
        cases hh : hasS ex gi with
        | true =>
          have HV' : Hid (V = watchL D ((L.take (k + 1)).map ArrM.toArr) ex now wait) := by
            unfold Hid; rw [Htk.out, watchL_snoc, watchF_no (by simp only; rw [hd, hh]; rfl), List.append_nil, HV.out]
          clear hd hh
          go_wp2_with fail
          go_roundw
          case rel => exact ⟨k + 1, V, av, cv, by omega, by omega, rfl, by go_num, Hown3.out, HV', Hf3.out⟩
          case measure => simp [intOf]; omega
        | false =>
          have HV' : Hid (V ++ [dlOf D now wait gi] = watchL D ((L.take (k + 1)).map ArrM.toArr) ex now wait) := by
            unfold Hid; rw [Htk.out, watchL_snoc, watchF_yes (by simp only; rw [hd, hh]; rfl), HV.out]
          clear hd hh
          go_upto_region 6 with (fail)
          refine region_tree (From w3.heap.size) (.q 0 (.q 1 (.q 2 (.q 3 (.m2 4 (.q 5 (.m1 6 (.m1 7 .fin))) 6 (.m1 4 (.q 5 (.m1 7 .fin)))))))) _ (by kernel_rfl) (by kernel_rfl) (fun w0 hf0 => ?_) (fun _ _ h => h)
          have q4 := hf0.heap q3 id
          have hl4 := lt_of_block q3
          have g0 : ∀ g : Gr (From w3.heap.size) w0, g.W.cell? ⟨wr.heap.size, 0, none⟩ = some (.string gi) := fun g => g.fr.cell (cell_of_block q4 0) (by intro h; unfold From at h; simp only at h; omega)
          have Hf4 := Lib.hid (Hf3.out.step hf0 (fun _ _ h => h.elim))
          have Hown4 := Lib.hid (ownsRow_at Hown3.out hf0 (fun _ _ h => h))
          have hs4 := hf0.size
          have Hq4 := Lib.hid q4
          clear hf0 q3 q4 Hf3 Hown3
          repeat (first | (apply tree_q; exact rfl; exact rfl; exact rfl; intro K hK; go_big_quiet_op; go_big_quiet_on) | (apply tree_skip; exact rfl; exact rfl; exact rfl; intro K hK; go_big_quiet_op; go_big_quiet_on))
          clear g0
          refine tree_m2 rfl rfl ?_ ?_
          · have hlv := a_later now wait w0 hn1 hn2 hw1 hw2
            rw [← Hlv.out] at hlv
            go_wp2_with fail
            refine hlv.mono ?_
            rintro en w6 ⟨rfl, hw6⟩
            have hw6 := hw6.symm
            subst hw6
            clear hlv
            go_wp2_with fail
            refine OnlyN.mk ⟨Fr.refl _ _, ?_⟩
            repeat (first | (apply tree_q; exact rfl; exact rfl; exact rfl; intro K hK; go_big_quiet_op; go_big_quiet_on) | (apply tree_skip; exact rfl; exact rfl; exact rfl; intro K hK; go_big_quiet_op; go_big_quiet_on))
            refine tree_m1 rfl ?_
            go_wp2_with fail
            refine OnlyN.mk ⟨(Fr.refl _ _).alloc _, ?_⟩
            have qz := block_alloc w0 (.cells #[.string ⟨#[]⟩, .int .i64 0] 68)
            have hzz : Fr No w0 (w0.alloc (.cells #[.string ⟨#[]⟩, .int .i64 0] 68)) := (Fr.refl _ _).alloc _
            generalize w0.alloc (.cells #[.string ⟨#[]⟩, .int .i64 0] 68) = WA at *
            refine tree_m1 rfl ?_
            have b0 : WA.cell? ⟨w0.heap.size, 0, none⟩ = some (.string ⟨#[]⟩) := cell_of_block qz 0
            have b1 : WA.cell? ⟨w0.heap.size, 1, none⟩ = some (.int .i64 0) := cell_of_block qz 1
            have f0 : WA.frozen? ⟨w0.heap.size, 0, none⟩ = false := free_of_block qz 0
            have f1 : WA.frozen? ⟨w0.heap.size, 1, none⟩ = false := free_of_block qz 1
            have h2 := set2 qz rfl (.string gi) (.int .i64 lv)
            have hlz : w0.heap.size < WA.heap.size := lt_of_block qz
            go_wp2_with fail
            refine OnlyN.mk ⟨h2.2.mono (fun b _ h => by unfold Is at h; unfold From; omega), ?_⟩
            have HX2 := Lib.hid (And.intro h2.1 (hzz.trans h2.2 (fun _ _ h => h) (fun b hb h => by unfold Is at h; omega) : Fr No w0 (((WA).setCell ⟨w0.heap.size, 0, none⟩ (.string gi)).setCell ⟨w0.heap.size, 1, none⟩ (.int .i64 lv))))
            have hsx2 : w0.heap.size < (((WA).setCell ⟨w0.heap.size, 0, none⟩ (.string gi)).setCell ⟨w0.heap.size, 1, none⟩ (.int .i64 lv)).heap.size := lt_of_block h2.1
            obtain ⟨W6, hW6⟩ : ∃ W6, W6 = ((WA).setCell ⟨w0.heap.size, 0, none⟩ (.string gi)).setCell ⟨w0.heap.size, 1, none⟩ (.int .i64 lv) := ⟨_, rfl⟩
            rw [← hW6] at HX2 hsx2 ⊢
            clear b0 b1 f0 f1 h2 qz hW6 hlz hzz
            refine tree_end ?_
            have Hf6 := Lib.hid (Hf4.out.step HX2.out.2 (fun _ _ h => h.elim))
            have Hown6 := Lib.hid (ownsRow_at Hown4.out HX2.out.2 (fun _ _ h => h))
            have q6 := HX2.out.2.heap Hq4.out id
            have hix := watch_idx wr.heap.size da dc D gi W6 (cell_of_block q6 0) (hD.keep Hf6.out (fun b hb h => by unfold From at h; omega))
            go_wp2_with fail
            refine hix.mono ?_
            rintro en w7 ⟨hres, hf7⟩
            have Hf7 := Lib.hid (Hf6.out.step hf7 (fun _ _ h => h.elim))
            have Hown7 := Lib.hid (ownsRow_at Hown6.out hf7 (fun _ _ h => h))
            have q7 := hf7.heap HX2.out.1 id
            have hs7 := hf7.size
            clear hix hf7 q6
            rcases hres with ⟨rfl, hno⟩ | ⟨kd, d, rfl, hdk, hsome⟩
            · have Hno := Lib.hid hno
              clear hno
              have u0 : w7.cell? ⟨w0.heap.size, 0, none⟩ = some (.string gi) := cell_of_block q7 0
              have u1 : w7.cell? ⟨w0.heap.size, 1, none⟩ = some (.int .i64 lv) := cell_of_block q7 1
              have HV2 : Hid (V ++ [⟨gi, lv⟩] = watchL D ((L.take (k + 1)).map ArrM.toArr) ex now wait) := by unfold Hid; rw [← HV'.out, dlOf_none now wait Hno.out, ← Hlv.out]
              have hal : Fr No w7 (w7.alloc (.cells #[.string gi, .int .i64 lv] 68)) := (Fr.refl _ _).alloc _
              go_wp2_with (at_builtin; refine wpList_append_own _ rfl _ _ 62 rfl w.heap.size 68 i0 (.agg #[.string ByteArray.empty, .int .i64 0]) 2 24 Tryz.underlying62 hi0 hz0 hz1 hz2 rfl (by decide) _ _ _ rfl (Hown7.out.alloc _) ⟨w7.heap.size, 0, none⟩ 1 1 (Dl.vals ⟨gi, lv⟩).toList rfl rfl (cells_new _ (Dl.vals ⟨gi, lv⟩) _ rfl) (dvals_one _) (by unfold maxLen; omega) (by omega) (by first | omega | (simp; done) | (simp; omega)) ?_; intro v' w9 hown9 hgrow9 _; obtain ⟨av', cv', rfl⟩ := ownsRow_slice hown9)
              have hgf : Fr (fun b => (Value.slice av V.length cv).ownBlock = some b) (w7.alloc (.cells #[.string gi, .int .i64 lv] 68)) w9 := Fr.of_grown hgrow9
              have HF9 := Lib.hid (And.intro hown9 ((Hf7.out.step hal (fun _ _ h => h.elim)).step hgf (fun b _ h => ownsRow_blk Hown7.out h)))
              clear hown9 hgf hal hgrow9 u0 u1
              go_roundw
              case rel => exact ⟨k + 1, V ++ [⟨gi, lv⟩], av', cv', by omega, by simp; omega, by simp, by go_num, by rw [List.length_append, dflat_snoc]; exact HF9.out.1, HV2, HF9.out.2⟩
              case measure => simp [intOf]; omega
            · have Hsome := Lib.hid hsome
              have hkd : kd < D.length := (List.getElem?_eq_some_iff.1 hdk).1
              have hkd' : (kd : Int) < D.length := by omega
              obtain ⟨db, doff, d', rfl, hdk', ⟨d0, d1⟩, _⟩ := (hD.keep Hf7.out (fun b hb h => by unfold From at h; omega)).elem hkd
              obtain rfl : d = d' := by rw [hdk] at hdk'; exact Option.some.inj hdk'
              have b0 : w7.cell? ⟨w0.heap.size, 0, none⟩ = some (.string gi) := cell_of_block q7 0
              have b1 : w7.cell? ⟨w0.heap.size, 1, none⟩ = some (.int .i64 lv) := cell_of_block q7 1
              have f0 : w7.frozen? ⟨w0.heap.size, 0, none⟩ = false := free_of_block q7 0
              have f1 : w7.frozen? ⟨w0.heap.size, 1, none⟩ = false := free_of_block q7 1
              have h2 := set2 q7 rfl (.string d.i) (.int .i64 d.a)
              have q8 := h2.1
              have hnb : ∀ b, (Value.slice av V.length cv).ownBlock = some b → b ≠ w0.heap.size := fun b h e => by have h1 := ownsRow_lt Hown4.out h; omega
              have Hown8 := Lib.hid (ownsRow_at Hown7.out h2.2 (fun b h e => by have := hnb b h; unfold Is at e; omega))
              have Hf8 := Lib.hid (Hf7.out.step h2.2 (fun b _ h => by unfold Is at h; unfold From; omega))
              have hs8 := h2.2.size
              clear hdk hdk' hsome h2 q7 hnb
              go_upto_region 10 with (fail)
              generalize (w7.setCell ⟨w0.heap.size, 0, none⟩ (.string d.i)).setCell ⟨w0.heap.size, 1, none⟩ (.int .i64 d.a) = W8 at *
              clear b0 b1 f0 f1 d0 d1
              have u0 : W8.cell? ⟨w0.heap.size, 0, none⟩ = some (.string d.i) := cell_of_block q8 0
              have u1 : W8.cell? ⟨w0.heap.size, 1, none⟩ = some (.int .i64 d.a) := cell_of_block q8 1
              have HV2 : Hid (V ++ [⟨d.i, d.a⟩] = watchL D ((L.take (k + 1)).map ArrM.toArr) ex now wait) := by unfold Hid; rw [← HV'.out, dlOf_some now wait Hsome.out]
              have hal : Fr No W8 (W8.alloc (.cells #[.string d.i, .int .i64 d.a] 68)) := (Fr.refl _ _).alloc _
              go_wp2_with (at_builtin; refine wpList_append_own _ rfl _ _ 62 rfl w.heap.size 68 i0 (.agg #[.string ByteArray.empty, .int .i64 0]) 2 24 Tryz.underlying62 hi0 hz0 hz1 hz2 rfl (by decide) _ _ _ rfl (Hown8.out.alloc _) ⟨W8.heap.size, 0, none⟩ 1 1 (Dl.vals ⟨d.i, d.a⟩).toList rfl rfl (cells_new _ (Dl.vals ⟨d.i, d.a⟩) _ rfl) (dvals_one _) (by unfold maxLen; omega) (by omega) (by first | omega | (simp; done) | (simp; omega)) ?_; intro v' w9 hown9 hgrow9 _; obtain ⟨av', cv', rfl⟩ := ownsRow_slice hown9)
              have hgf : Fr (fun b => (Value.slice av V.length cv).ownBlock = some b) (W8.alloc (.cells #[.string d.i, .int .i64 d.a] 68)) w9 := Fr.of_grown hgrow9
              have HF9 := Lib.hid (And.intro hown9 ((Hf8.out.step hal (fun _ _ h => h.elim)).step hgf (fun b _ h => ownsRow_blk Hown8.out h)))
              clear hown9 hgf hal hgrow9 u0 u1
              go_roundw
              case rel => exact ⟨k + 1, V ++ [⟨d.i, d.a⟩], av', cv', by omega, by simp; omega, by simp, by go_num, by rw [List.length_append, dflat_snoc]; exact HF9.out.1, HV2, HF9.out.2⟩
              case measure => simp [intOf]; omega
          · go_wp2_with fail
            refine OnlyN.mk ⟨(Fr.refl _ _).alloc _, ?_⟩
            have qz := block_alloc w0 (.cells #[.string ⟨#[]⟩, .int .i64 0] 68)
            have hzz : Fr No w0 (w0.alloc (.cells #[.string ⟨#[]⟩, .int .i64 0] 68)) := (Fr.refl _ _).alloc _
            generalize w0.alloc (.cells #[.string ⟨#[]⟩, .int .i64 0] 68) = WA at *
            refine tree_m1 rfl ?_
            have hlv := a_later now wait WA hn1 hn2 hw1 hw2
            rw [← Hlv.out] at hlv
            go_wp2_with fail
            refine hlv.mono ?_
            rintro en w6 ⟨rfl, hw6⟩
            have hw6 := hw6.symm
            subst hw6
            clear hlv
            go_wp2_with fail
            refine OnlyN.mk ⟨Fr.refl _ _, ?_⟩
            repeat (first | (apply tree_q; exact rfl; exact rfl; exact rfl; intro K hK; go_big_quiet_op; go_big_quiet_on) | (apply tree_skip; exact rfl; exact rfl; exact rfl; intro K hK; go_big_quiet_op; go_big_quiet_on))
            refine tree_m1 rfl ?_
            have b0 : WA.cell? ⟨w0.heap.size, 0, none⟩ = some (.string ⟨#[]⟩) := cell_of_block qz 0
            have b1 : WA.cell? ⟨w0.heap.size, 1, none⟩ = some (.int .i64 0) := cell_of_block qz 1
            have f0 : WA.frozen? ⟨w0.heap.size, 0, none⟩ = false := free_of_block qz 0
            have f1 : WA.frozen? ⟨w0.heap.size, 1, none⟩ = false := free_of_block qz 1
            have h2 := set2 qz rfl (.string gi) (.int .i64 lv)
            have hlz : w0.heap.size < WA.heap.size := lt_of_block qz
            go_wp2_with fail
            refine OnlyN.mk ⟨h2.2.mono (fun b _ h => by unfold Is at h; unfold From; omega), ?_⟩
            have HX2 := Lib.hid (And.intro h2.1 (hzz.trans h2.2 (fun _ _ h => h) (fun b hb h => by unfold Is at h; omega) : Fr No w0 (((WA).setCell ⟨w0.heap.size, 0, none⟩ (.string gi)).setCell ⟨w0.heap.size, 1, none⟩ (.int .i64 lv))))
            have hsx2 : w0.heap.size < (((WA).setCell ⟨w0.heap.size, 0, none⟩ (.string gi)).setCell ⟨w0.heap.size, 1, none⟩ (.int .i64 lv)).heap.size := lt_of_block h2.1
            obtain ⟨W6, hW6⟩ : ∃ W6, W6 = ((WA).setCell ⟨w0.heap.size, 0, none⟩ (.string gi)).setCell ⟨w0.heap.size, 1, none⟩ (.int .i64 lv) := ⟨_, rfl⟩
            rw [← hW6] at HX2 hsx2 ⊢
            clear b0 b1 f0 f1 h2 qz hW6 hlz hzz
            refine tree_end ?_
            have Hf6 := Lib.hid (Hf4.out.step HX2.out.2 (fun _ _ h => h.elim))
            have Hown6 := Lib.hid (ownsRow_at Hown4.out HX2.out.2 (fun _ _ h => h))
            have q6 := HX2.out.2.heap Hq4.out id
            have hix := watch_idx wr.heap.size da dc D gi W6 (cell_of_block q6 0) (hD.keep Hf6.out (fun b hb h => by unfold From at h; omega))
            go_wp2_with fail
            refine hix.mono ?_
            rintro en w7 ⟨hres, hf7⟩
            have Hf7 := Lib.hid (Hf6.out.step hf7 (fun _ _ h => h.elim))
            have Hown7 := Lib.hid (ownsRow_at Hown6.out hf7 (fun _ _ h => h))
            have q7 := hf7.heap HX2.out.1 id
            have hs7 := hf7.size
            clear hix hf7 q6
            rcases hres with ⟨rfl, hno⟩ | ⟨kd, d, rfl, hdk, hsome⟩
            · have Hno := Lib.hid hno
              clear hno
              have u0 : w7.cell? ⟨w0.heap.size, 0, none⟩ = some (.string gi) := cell_of_block q7 0
              have u1 : w7.cell? ⟨w0.heap.size, 1, none⟩ = some (.int .i64 lv) := cell_of_block q7 1
              have HV2 : Hid (V ++ [⟨gi, lv⟩] = watchL D ((L.take (k + 1)).map ArrM.toArr) ex now wait) := by unfold Hid; rw [← HV'.out, dlOf_none now wait Hno.out, ← Hlv.out]
              have hal : Fr No w7 (w7.alloc (.cells #[.string gi, .int .i64 lv] 68)) := (Fr.refl _ _).alloc _
              go_wp2_with (at_builtin; refine wpList_append_own _ rfl _ _ 62 rfl w.heap.size 68 i0 (.agg #[.string ByteArray.empty, .int .i64 0]) 2 24 Tryz.underlying62 hi0 hz0 hz1 hz2 rfl (by decide) _ _ _ rfl (Hown7.out.alloc _) ⟨w7.heap.size, 0, none⟩ 1 1 (Dl.vals ⟨gi, lv⟩).toList rfl rfl (cells_new _ (Dl.vals ⟨gi, lv⟩) _ rfl) (dvals_one _) (by unfold maxLen; omega) (by omega) (by first | omega | (simp; done) | (simp; omega)) ?_; intro v' w9 hown9 hgrow9 _; obtain ⟨av', cv', rfl⟩ := ownsRow_slice hown9)
              have hgf : Fr (fun b => (Value.slice av V.length cv).ownBlock = some b) (w7.alloc (.cells #[.string gi, .int .i64 lv] 68)) w9 := Fr.of_grown hgrow9
              have HF9 := Lib.hid (And.intro hown9 ((Hf7.out.step hal (fun _ _ h => h.elim)).step hgf (fun b _ h => ownsRow_blk Hown7.out h)))
              clear hown9 hgf hal hgrow9 u0 u1
              go_roundw
              case rel => exact ⟨k + 1, V ++ [⟨gi, lv⟩], av', cv', by omega, by simp; omega, by simp, by go_num, by rw [List.length_append, dflat_snoc]; exact HF9.out.1, HV2, HF9.out.2⟩
              case measure => simp [intOf]; omega
            · have Hsome := Lib.hid hsome
              have hkd : kd < D.length := (List.getElem?_eq_some_iff.1 hdk).1
              have hkd' : (kd : Int) < D.length := by omega
              obtain ⟨db, doff, d', rfl, hdk', ⟨d0, d1⟩, _⟩ := (hD.keep Hf7.out (fun b hb h => by unfold From at h; omega)).elem hkd
              obtain rfl : d = d' := by rw [hdk] at hdk'; exact Option.some.inj hdk'
              have b0 : w7.cell? ⟨w0.heap.size, 0, none⟩ = some (.string gi) := cell_of_block q7 0
              have b1 : w7.cell? ⟨w0.heap.size, 1, none⟩ = some (.int .i64 lv) := cell_of_block q7 1
              have f0 : w7.frozen? ⟨w0.heap.size, 0, none⟩ = false := free_of_block q7 0
              have f1 : w7.frozen? ⟨w0.heap.size, 1, none⟩ = false := free_of_block q7 1
              have h2 := set2 q7 rfl (.string d.i) (.int .i64 d.a)
              have q8 := h2.1
              have hnb : ∀ b, (Value.slice av V.length cv).ownBlock = some b → b ≠ w0.heap.size := fun b h e => by have h1 := ownsRow_lt Hown4.out h; omega
              have Hown8 := Lib.hid (ownsRow_at Hown7.out h2.2 (fun b h e => by have := hnb b h; unfold Is at e; omega))
              have Hf8 := Lib.hid (Hf7.out.step h2.2 (fun b _ h => by unfold Is at h; unfold From; omega))
              have hs8 := h2.2.size
              clear hdk hdk' hsome h2 q7 hnb
              go_upto_region 10 with (fail)
              generalize (w7.setCell ⟨w0.heap.size, 0, none⟩ (.string d.i)).setCell ⟨w0.heap.size, 1, none⟩ (.int .i64 d.a) = W8 at *
              clear b0 b1 f0 f1 d0 d1
              have u0 : W8.cell? ⟨w0.heap.size, 0, none⟩ = some (.string d.i) := cell_of_block q8 0
              have u1 : W8.cell? ⟨w0.heap.size, 1, none⟩ = some (.int .i64 d.a) := cell_of_block q8 1
              have HV2 : Hid (V ++ [⟨d.i, d.a⟩] = watchL D ((L.take (k + 1)).map ArrM.toArr) ex now wait) := by unfold Hid; rw [← HV'.out, dlOf_some now wait Hsome.out]
              have hal : Fr No W8 (W8.alloc (.cells #[.string d.i, .int .i64 d.a] 68)) := (Fr.refl _ _).alloc _
              go_wp2_with (at_builtin; refine wpList_append_own _ rfl _ _ 62 rfl w.heap.size 68 i0 (.agg #[.string ByteArray.empty, .int .i64 0]) 2 24 Tryz.underlying62 hi0 hz0 hz1 hz2 rfl (by decide) _ _ _ rfl (Hown8.out.alloc _) ⟨W8.heap.size, 0, none⟩ 1 1 (Dl.vals ⟨d.i, d.a⟩).toList rfl rfl (cells_new _ (Dl.vals ⟨d.i, d.a⟩) _ rfl) (dvals_one _) (by unfold maxLen; omega) (by omega) (by first | omega | (simp; done) | (simp; omega)) ?_; intro v' w9 hown9 hgrow9 _; obtain ⟨av', cv', rfl⟩ := ownsRow_slice hown9)
              have hgf : Fr (fun b => (Value.slice av V.length cv).ownBlock = some b) (W8.alloc (.cells #[.string d.i, .int .i64 d.a] 68)) w9 := Fr.of_grown hgrow9
              have HF9 := Lib.hid (And.intro hown9 ((Hf8.out.step hal (fun _ _ h => h.elim)).step hgf (fun b _ h => ownsRow_blk Hown8.out h)))
              clear hown9 hgf hal hgrow9 u0 u1
              go_roundw
              case rel => exact ⟨k + 1, V ++ [⟨d.i, d.a⟩], av', cv', by omega, by simp; omega, by simp, by go_num, by rw [List.length_append, dflat_snoc]; exact HF9.out.1, HV2, HF9.out.2⟩
              case measure => simp [intOf]; omega
    · obtain rfl : k = L.length := by omega
      obtain ⟨a', c', hv, hR, _⟩ := Dls.of_own hown
      cases hv
      have hVe := HV.out
      rw [List.take_length] at hVe
      have H := Lib.hid (And.intro hR (And.intro hVe (hf.mono (T := No) (fun b hb h => by unfold From at h; omega))))
      clear hown hf hR hVe HV
      go_wp2_with fail
      go_ret
      exact ⟨⟨_, _, V, rfl, H.out.1, H.out.2.1⟩, H.out.2.2⟩

end Go.Proofs.YtcibciippghooaaGreatDoor
