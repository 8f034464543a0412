/- array.Of. The example of the chapter of layers. Plain. Slices of texts and of members that came in, opened, with the bounds of their sizes. Deadlines in memory: slices of api.Deadline. The next deadline. -/
import Derived.Test.YtbblkknndaoefaaGreatDoorZA19
import Derived.Test.YtbblkknndaoefaaGreatDoorZA7
import Derived.Test.YtbblkknndaoefaaGreatDoorZA15
import Derived.Test.YtbblkknndaoefaaGreatDoorZA5
import Derived.Deep.Slices
import Derived.SliceStrings
import Derived.ChangeArms
import Derived.SizedLaws
namespace Go.Proofs.YtbblkknndaoefaaGreatDoor
open Go.RowKit Go.Maps
set_option linter.unusedVariables false

/-- What Of answers. -/
def OfRes2 (w : World) (p s : ByteArray) (rd : Int) (e : Ending) (w' : World) : Prop :=
  ((∀ c, parseC s = some c → c.kind ≠ 2) ∧ e = .returned (.tuple #[.agg #[.string ⟨#[]⟩, .string ⟨#[]⟩, .int .i64 0, .int .i64 0, .int .i64 0, .int .i64 0, .slice none 0 0], .bool false])) ∨
  (∃ (c : Ct) (a' : Option Addr) (cap' : Nat), parseC s = some c ∧ c.kind = 2 ∧ e = .returned (.tuple #[.agg #[.string p, .string c.id, .int .i64 rd, .int .i64 c.slot, .int .i64 c.total, .int .i64 c.least, .slice a' c.inner.length cap'], .bool true]) ∧ Strs w' a' cap' (c.inner.map Ct.txt) ∧ ∀ ad, a' = some ad → w.heap.size ≤ ad.block)

set_option maxRecDepth 100000 in
set_option maxHeartbeats 3000000 in
theorem array_of (p s : ByteArray) (rd : Int) (w : World) (ha : Ascii s) (hE : Env w) (hs : s.size ≤ 100000) :
    Calls Tryz.prog 94 #[.string p, .int .i64 rd, .string s] w fun en w2 => OfRes2 w p s rd en w2 ∧ Fr No w w2 := by
  have h0 : Fr No w (w.alloc (.cells #[.string ⟨#[]⟩, .string ⟨#[]⟩, .int .i64 0, .int .i64 0, .int .i64 0, .int .i64 0, .slice none 0 0] 58)) := (Fr.refl _ _).alloc _
  have q0 := block_alloc w (.cells #[.string ⟨#[]⟩, .string ⟨#[]⟩, .int .i64 0, .int .i64 0, .int .i64 0, .int .i64 0, .slice none 0 0] 58)
  have hsz : w.heap.size < (w.alloc (.cells #[.string ⟨#[]⟩, .string ⟨#[]⟩, .int .i64 0, .int .i64 0, .int .i64 0, .int .i64 0, .slice none 0 0] 58)).heap.size := by simp
  obtain ⟨W0, hW0⟩ : ∃ W0, W0 = w.alloc (.cells #[.string ⟨#[]⟩, .string ⟨#[]⟩, .int .i64 0, .int .i64 0, .int .i64 0, .int .i64 0, .slice none 0 0] 58) := ⟨_, rfl⟩
  rw [← hW0] at h0 q0 hsz
  have hrd := c_read s 2 W0 ha (hE.no h0) hs
  have H0 := Lib.hid h0
  clear h0 hE ha
  go_enter Tryz.func94, Tryz.ntmps94
  go_upto_region 1 with (fail)
  rw [← hW0]
  clear hW0
  go_wp2_with fail
  refine hrd.mono ?_
  rintro en w1 ⟨hres, hf1⟩
  have hs1 := hf1.size
  have q1 := hf1.heap q0 id
  have Hf1 := Lib.hid (H0.out.step hf1 (fun _ _ h => h))
  clear hrd q0 hf1
  rcases hres with ⟨hno, rfl⟩ | ⟨k, sl, t, le, i, l, n, a, a', cap, cap', hpc, hk, rfl, hin, hst, hfresh⟩
  · have Hn : Hid (∀ c, parseC s = some c → c.kind ≠ 2) := hno
    have hx : Fr No w1 (w1.alloc (.cells #[.int .i64 0, .string ⟨#[]⟩, .string ⟨#[]⟩, .int .i64 0, .int .i64 0, .int .i64 0, .slice none 0 0] 54)) := (Fr.refl _ _).alloc _
    have q2 := hx.heap q1 id
    have Hf2 := Lib.hid (Hf1.out.step hx (fun _ _ h => h))
    have Hq2 := Lib.hid q2
    clear q1 hx hno q2
    go_upto_region 3 with (fail)
    generalize w1.alloc (.cells #[.int .i64 0, .string ⟨#[]⟩, .string ⟨#[]⟩, .int .i64 0, .int .i64 0, .int .i64 0, .slice none 0 0] 54) = W2 at *
    have q2 := Hq2.out
    have b0 : W2.cell? ⟨w.heap.size, 0, none⟩ = some (.string ⟨#[]⟩) := cell_of_block q2 0
    have b1 : W2.cell? ⟨w.heap.size, 1, none⟩ = some (.string ⟨#[]⟩) := cell_of_block q2 1
    have b2 : W2.cell? ⟨w.heap.size, 2, none⟩ = some (.int .i64 0) := cell_of_block q2 2
    have b3 : W2.cell? ⟨w.heap.size, 3, none⟩ = some (.int .i64 0) := cell_of_block q2 3
    have b4 : W2.cell? ⟨w.heap.size, 4, none⟩ = some (.int .i64 0) := cell_of_block q2 4
    have b5 : W2.cell? ⟨w.heap.size, 5, none⟩ = some (.int .i64 0) := cell_of_block q2 5
    have b6 : W2.cell? ⟨w.heap.size, 6, none⟩ = some (.slice none 0 0) := cell_of_block q2 6
    have f0 : W2.frozen? ⟨w.heap.size, 0, none⟩ = false := free_of_block q2 0
    have f1 : W2.frozen? ⟨w.heap.size, 1, none⟩ = false := free_of_block q2 1
    have f2 : W2.frozen? ⟨w.heap.size, 2, none⟩ = false := free_of_block q2 2
    have f3 : W2.frozen? ⟨w.heap.size, 3, none⟩ = false := free_of_block q2 3
    have f4 : W2.frozen? ⟨w.heap.size, 4, none⟩ = false := free_of_block q2 4
    have f5 : W2.frozen? ⟨w.heap.size, 5, none⟩ = false := free_of_block q2 5
    have f6 : W2.frozen? ⟨w.heap.size, 6, none⟩ = false := free_of_block q2 6
    have h7 := set7 q2 rfl (.string ⟨#[]⟩) (.string ⟨#[]⟩) (.int .i64 0) (.int .i64 0) (.int .i64 0) (.int .i64 0) (.slice none 0 0)
    have Hfin := Lib.hid (Hf2.out.step h7.2 (fun b hb h => by unfold Is at h; omega))
    have Hq := Lib.hid h7.1
    clear h7 q2
    go_wp2_with fail
    have y0 := cell_of_block Hq.out 0
    have y1 := cell_of_block Hq.out 1
    have y2 := cell_of_block Hq.out 2
    have y3 := cell_of_block Hq.out 3
    have y4 := cell_of_block Hq.out 4
    have y5 := cell_of_block Hq.out 5
    have y6 := cell_of_block Hq.out 6
    refine bodyPost_ret (v := .tuple #[.agg #[.string ⟨#[]⟩, .string ⟨#[]⟩, .int .i64 0, .int .i64 0, .int .i64 0, .int .i64 0, .slice none 0 0], .bool false]) (by simp [results, Tryz.results94, go_sem, y0, y1, y2, y3, y4, y5, y6]) rfl ?_
    exact ⟨.inl ⟨Hn.out, rfl⟩, Hfin.out⟩
  · subst hk
    have Hpc : Hid (parseC s = some (.mk 2 i l sl t le n)) := hpc
    have Hfresh := Lib.hid hfresh
    have hx : Fr No w1 (w1.alloc (.cells #[.int .i64 2, .string i, .string l, .int .i64 sl, .int .i64 t, .int .i64 le, .slice a n.length cap] 54)) := (Fr.refl _ _).alloc _
    have Hq2 := Lib.hid (hx.heap q1 id)
    have qt := block_alloc w1 (.cells #[.int .i64 2, .string i, .string l, .int .i64 sl, .int .i64 t, .int .i64 le, .slice a n.length cap] 54)
    have Hf2 := Lib.hid (Hf1.out.step hx (fun _ _ h => h))
    have Hst := Lib.hid (hst.no hx (fun _ => id))
    clear q1 hx hst hpc hfresh hin
    go_upto_region 4 with (fail)
    generalize w1.alloc (.cells #[.int .i64 2, .string i, .string l, .int .i64 sl, .int .i64 t, .int .i64 le, .slice a n.length cap] 54) = W2 at *
    have zt1 : W2.cell? ⟨w1.heap.size, 1, none⟩ = some (.string i) := cell_of_block qt 1
    have zt3 : W2.cell? ⟨w1.heap.size, 3, none⟩ = some (.int .i64 sl) := cell_of_block qt 3
    have zt4 : W2.cell? ⟨w1.heap.size, 4, none⟩ = some (.int .i64 t) := cell_of_block qt 4
    have zt5 : W2.cell? ⟨w1.heap.size, 5, none⟩ = some (.int .i64 le) := cell_of_block qt 5
    have q2 := Hq2.out
    clear qt
    have b0 : W2.cell? ⟨w.heap.size, 0, none⟩ = some (.string ⟨#[]⟩) := cell_of_block q2 0
    have b1 : W2.cell? ⟨w.heap.size, 1, none⟩ = some (.string ⟨#[]⟩) := cell_of_block q2 1
    have b2 : W2.cell? ⟨w.heap.size, 2, none⟩ = some (.int .i64 0) := cell_of_block q2 2
    have b3 : W2.cell? ⟨w.heap.size, 3, none⟩ = some (.int .i64 0) := cell_of_block q2 3
    have b4 : W2.cell? ⟨w.heap.size, 4, none⟩ = some (.int .i64 0) := cell_of_block q2 4
    have b5 : W2.cell? ⟨w.heap.size, 5, none⟩ = some (.int .i64 0) := cell_of_block q2 5
    have b6 : W2.cell? ⟨w.heap.size, 6, none⟩ = some (.slice none 0 0) := cell_of_block q2 6
    have f0 : W2.frozen? ⟨w.heap.size, 0, none⟩ = false := free_of_block q2 0
    have f1 : W2.frozen? ⟨w.heap.size, 1, none⟩ = false := free_of_block q2 1
    have f2 : W2.frozen? ⟨w.heap.size, 2, none⟩ = false := free_of_block q2 2
    have f3 : W2.frozen? ⟨w.heap.size, 3, none⟩ = false := free_of_block q2 3
    have f4 : W2.frozen? ⟨w.heap.size, 4, none⟩ = false := free_of_block q2 4
    have f5 : W2.frozen? ⟨w.heap.size, 5, none⟩ = false := free_of_block q2 5
    have f6 : W2.frozen? ⟨w.heap.size, 6, none⟩ = false := free_of_block q2 6
    have h7 := set7 q2 rfl (.string p) (.string i) (.int .i64 rd) (.int .i64 sl) (.int .i64 t) (.int .i64 le) (.slice a' n.length cap')
    have Hfin := Lib.hid (Hf2.out.step h7.2 (fun b hb h => by unfold Is at h; omega))
    have Hst4 := Lib.hid (Hst.out.fr h7.2 (fun ad e hne h => by have := Hfresh.out ad e; unfold Is at h; omega))
    have Hq := Lib.hid h7.1
    clear h7 q2
    go_wp2_with fail
    have y0 := cell_of_block Hq.out 0
    have y1 := cell_of_block Hq.out 1
    have y2 := cell_of_block Hq.out 2
    have y3 := cell_of_block Hq.out 3
    have y4 := cell_of_block Hq.out 4
    have y5 := cell_of_block Hq.out 5
    have y6 := cell_of_block Hq.out 6
    refine bodyPost_ret (v := .tuple #[.agg #[.string p, .string i, .int .i64 rd, .int .i64 sl, .int .i64 t, .int .i64 le, .slice a' n.length cap'], .bool true]) (by simp [results, Tryz.results94, go_sem, y0, y1, y2, y3, y4, y5, y6]) rfl ?_
    exact ⟨.inr ⟨.mk 2 i l sl t le n, a', cap', Hpc.out, rfl, rfl, Hst4.out, fun ad e => by have := Hfresh.out ad e; omega⟩, Hfin.out⟩
end Go.Proofs.YtbblkknndaoefaaGreatDoor
namespace Go.Proofs.YtbblkknndaoefaaGreatDoor
open Go.RowKit
set_option linter.unusedVariables false

def kT1 : ByteArray := ⟨#[99, 114, 121, 112, 116, 58, 99, 40, 102, 115, 58, 120, 58, 41]⟩
def kT2 : ByteArray := ⟨#[99, 114, 121, 112, 116, 58, 99, 40, 102, 115, 58, 121, 58, 41]⟩
def kT3 : ByteArray := ⟨#[99, 114, 121, 112, 116, 58, 101, 40, 41]⟩
def kPa : ByteArray := ⟨#[47, 98]⟩
def kPb : ByteArray := ⟨#[47, 97]⟩
def kPd : ByteArray := ⟨#[47, 100]⟩
def kIc : ByteArray := ⟨#[99]⟩
def kIe : ByteArray := ⟨#[101]⟩
def kIx : ByteArray := ⟨#[120]⟩
def kFx : ByteArray := ⟨#[102, 115, 58, 120, 58]⟩
def kFy : ByteArray := ⟨#[102, 115, 58, 121, 58]⟩
def kOc : ByteArray := ⟨#[111, 112, 101, 110, 45, 99]⟩
def kC1 : Ct := .mk 3 kIc ⟨#[]⟩ 0 0 0 [.mk 1 kIx ⟨#[]⟩ 0 0 0 []]
def kC2 : Ct := .mk 3 kIc ⟨#[]⟩ 0 0 0 [.mk 1 ⟨#[121]⟩ ⟨#[]⟩ 0 0 0 []]
def kC3 : Ct := .mk 3 kIe ⟨#[]⟩ 0 0 0 [.mk 0 ⟨#[]⟩ ⟨#[]⟩ 0 0 0 []]
theorem kP1 : parseC kT1 = some kC1 := (parse_iff _ _).2 ⟨by decide, by decide, by rw [kC1, text3]; simp [text1, commas, kT1, kIc, kIx]; rfl⟩
theorem kP2 : parseC kT2 = some kC2 := (parse_iff _ _).2 ⟨by decide, by decide, by rw [kC2, text3]; simp [text1, commas, kT2, kIc]; rfl⟩
theorem kP3 : parseC kT3 = some kC3 := (parse_iff _ _).2 ⟨by decide, by decide, by rw [kC3, text3]; simp [text0, commas, kT3, kIe]; rfl⟩
theorem kX1 : kC1.inner.map Ct.txt = [kFx] := by simp [kC1, Ct.inner, txt1, kIx, kFx]; rfl
theorem kX2 : kC2.inner.map Ct.txt = [kFy] := by simp [kC2, Ct.inner, txt1, kFy]; rfl
theorem kX3 : kC3.inner.map Ct.txt = [⟨#[]⟩] := by simp [kC3, Ct.inner]; rfl

/-- The three layers of the example. -/
def kL (a1 a2 a3 : Option Addr) (c1 c2 c3 : Nat) : List Mem := [⟨kPa, kIc, 0, 0, 0, 0, a1, [kFx], c1⟩, ⟨kPb, kIc, 1, 0, 0, 0, a2, [kFy], c2⟩, ⟨kPd, kIe, 0, 0, 0, 0, a3, [⟨#[]⟩], c3⟩]
section
variable (a1 a2 a3 : Option Addr) (c1 c2 c3 : Nat)
theorem k_best_c : best (kL a1 a2 a3 c1 c2 c3) (kb kIc) = some ⟨kPa, kIc, 0, 0, 0, 0, a1, [kFx], c1⟩ := by
  have h2 : ahead ⟨kPb, kIc, 1, 0, 0, 0, a2, [kFy], c2⟩ ⟨kPa, kIc, 0, 0, 0, 0, a1, [kFx], c1⟩ = false := by
    unfold ahead aheadB orI cmpI
    simp
  have e : (kb kIc == kb kIe) = false := by decide
  unfold best kL
  simp only [List.foldl_cons, List.foldl_nil]
  simp [bestS, h2, e]
theorem k_best_e : best (kL a1 a2 a3 c1 c2 c3) (kb kIe) = some ⟨kPd, kIe, 0, 0, 0, 0, a3, [⟨#[]⟩], c3⟩ := by
  have e : (kb kIe == kb kIc) = false := by decide
  unfold best kL
  simp only [List.foldl_cons, List.foldl_nil]
  simp [bestS, e]
theorem k_ids : IsIds (kL a1 a2 a3 c1 c2 c3) [kIc, kIe] := by
  refine ⟨by unfold AscS; decide, fun x => ?_⟩
  rw [best_some_iff]
  constructor
  · intro h
    simp only [List.mem_cons, List.not_mem_nil, or_false] at h
    rcases h with rfl | rfl
    · exact ⟨⟨kPa, kIc, 0, 0, 0, 0, a1, [kFx], c1⟩, by simp [kL], rfl, rfl⟩
    · exact ⟨⟨kPd, kIe, 0, 0, 0, 0, a3, [⟨#[]⟩], c3⟩, by simp [kL], rfl, rfl⟩
  · rintro ⟨m, hm, _, h⟩
    rw [← kb_inj h]
    simp only [kL, List.mem_cons, List.not_mem_nil, or_false] at hm
    rcases hm with rfl | rfl | rfl <;> simp
theorem k_ids_is {ids : List ByteArray} (h : IsIds (kL a1 a2 a3 c1 c2 c3) ids) : ids = [kIc, kIe] := h.unique (k_ids a1 a2 a3 c1 c2 c3) (fun _ => rfl)
theorem k_opened : (opened [kIc, kIe] [kIc, kIx]).map (virOf (kL a1 a2 a3 c1 c2 c3) 2) = [⟨⟨#[]⟩, kOc, kFx, 2⟩] := by
  have h1 : opened [kIc, kIe] [kIc, kIx] = [kIc] := by simp [opened, hasS, ByteArray.toList_eq, kIc, kIe, kIx]
  rw [h1]
  simp only [List.map_cons, List.map_nil, virOf, inner0, k_best_c]
  rfl
theorem k_asked : asked [kIc, kIe] [kIc, kIx] = [kIe] := by simp [asked, hasS, ByteArray.toList_eq, kIc, kIe, kIx]
end
end Go.Proofs.YtbblkknndaoefaaGreatDoor
namespace Go.Proofs.YtbblkknndaoefaaGreatDoor
open Go.RowKit Go.Maps Go.ChangeShapes
set_option linter.unusedVariables false

/-- What a row's size bound says of one argument. -/
def Wt {H : Type} (t : TypeId) (d : DataW H) : Prop := ∀ n ∈ d.weights Tryz.prog t, n ≤ reachBytes
theorem wt_all {H : Type} (e : TypeId) : ∀ (l : List (DataW H)) (d : DataW H), d ∈ l → ∀ n ∈ d.weights Tryz.prog e, n ∈ DataW.weightsAll Tryz.prog e l
  | x :: t, d, h, n, hn => by
    simp only [DataW.weightsAll, List.mem_append]
    rcases List.mem_cons.1 h with rfl | h
    · exact .inl hn
    · exact .inr (wt_all e t d h n hn)
  | [], d, h, _, _ => by cases h
theorem wt_string {H : Type} {t : TypeId} {s : ByteArray} (h : Wt t (.lit (.string s.data.toList) : DataW H)) : s.size ≤ reachBytes := by
  have h1 := h s.data.toList.length (by simp [DataW.weights])
  rwa [Array.length_toList] at h1
theorem wt_slice {H : Type} {t e : TypeId} {el sp : List (DataW H)} (hu : Tryz.prog.underlying t = some (.slice e)) (h : Wt t (.slice el sp)) :
    (el.length + sp.length) * Tryz.prog.bytesOf e ≤ reachBytes ∧ ∀ d ∈ el, Wt e d := by
  refine ⟨h _ (by simp [DataW.weights, hu]), fun d hd n hn => h n ?_⟩
  simp only [DataW.weights, hu, List.mem_cons, List.mem_append]
  exact .inr (.inl (wt_all e el d hd n hn))
theorem wt_struct {H : Type} {t : TypeId} {fs : Array Field} {parts : List (DataW H)} (hu : Tryz.prog.underlying t = some (.struct fs)) (h : Wt t (.agg parts)) {j : Nat} {f : Field} {d : DataW H} (hf : fs[j]? = some f) (hd : parts[j]? = some d) : Wt f.type d := fun n hn => h n (by
  simp only [DataW.weights, hu]
  exact DataW.weights_mem_each (j := j) (by rw [List.getElem?_map, Array.getElem?_toList, hf]; rfl) hd n hn)
theorem wt_each {H : Type} {ts : List TypeId} {ds : List (DataW H)} (h : (DataW.weightsEach Tryz.prog ts ds).all (· ≤ reachBytes) = true) {j : Nat} {t : TypeId} {d : DataW H} (ht : ts[j]? = some t) (hd : ds[j]? = some d) : Wt t d := fun n hn => by
  have := List.all_eq_true.1 h n (DataW.weights_mem_each ht hd n hn)
  simpa using this

section
variable {H : Type} {enc : TypeId × Value → H} {w : World} {base : Nat} {spare : Nat → Bool} {held : Bool}
theorem lt_of_cell {w : World} {p : Addr} {v : Value} (h : w.cell? p = some v) : p.block < w.heap.size := by
  unfold World.cell? at h
  cases hh : w.heap[p.block]? with
  | none => simp [hh] at h
  | some o => exact (Array.getElem?_eq_some_iff.1 hh).1
/-- The bounds of texts that came in. -/
structure StrsIn (l : List ByteArray) : Prop where
  n : l.length * 16 ≤ reachBytes
  s : ∀ x ∈ l, x.size ≤ reachBytes
set_option maxRecDepth 100000 in
theorem open_strs_raw {fuel : Nat} {cs : List Value} {x : DataW H × List MemPlace} (h : DataW.trod enc Tryz.prog w base spare held fuel 33 cs = some x) (hz : Wt 33 x.1) :
    ∃ a c l, cs = [.slice a (l : List ByteArray).length c] ∧ Strs w a c l ∧ StrsIn l := by
  rcases open_strings Tryz.underlying33 Tryz.underlying9 (by kernel_rfl) h with ⟨rfl, _⟩ | ⟨a, len, cap, ss, rfl, hb, h1, h2, h3, rfl, h4, h5⟩
  · exact ⟨none, 0, [], rfl, Strs.nil w, ⟨by simp, by simp⟩⟩
  · have hle : len ≤ ss.length := by rw [h3]; split <;> omega
    have hl : (ss.take len).length = len := by rw [List.length_take]; omega
    obtain ⟨z1, z2⟩ := wt_slice Tryz.underlying33 hz
    have hbs : Tryz.prog.bytesOf 9 = 16 := by kernel_rfl
    rw [hbs] at z1
    have z3 : (strs (H := H) (ss.take len)).length = (ss.take len).length := by simp [strs]
    refine ⟨some a, cap, ss.take len, by rw [hl], ⟨by omega, h2, (fun e => by cases e), fun ad e hne => ?_⟩, ⟨by rw [z3] at z1; omega, fun s hs => wt_string (z2 _ (List.mem_map.2 ⟨s, hs, rfl⟩))⟩⟩
    cases e
    have hpos : 0 < (ss.take len).length := List.length_pos_iff.2 hne
    have h0 := h4 0 (by omega)
    have hsp : a.spot = none := by simpa [Addr.add] using World.cell?_spot h0
    have hbl := lt_of_cell h0
    obtain ⟨b, off, sp⟩ := a
    simp at hsp
    subst hsp
    rw [Addr.add_lit] at hbl
    refine ⟨rfl, hbl, fun i y hi => ?_⟩
    have hlt : i < (ss.take len).length := (List.getElem?_eq_some_iff.1 hi).1
    have h6 := h4 i (by omega)
    rw [List.getElem?_take_of_lt (by omega)] at hi
    rw [List.getD_eq_getElem?_getD, hi, Addr.add_lit] at h6
    simpa using h6
set_option maxRecDepth 100000 in
theorem structMem : ∃ f0 f1 f2 f3 f4 f5 f6 : Field, Tryz.prog.underlying 58 = some (.struct #[f0, f1, f2, f3, f4, f5, f6]) ∧ (f0.offset = 0 ∧ f0.type = 9) ∧ (f1.offset = 1 ∧ f1.type = 9) ∧ (f2.offset = 2 ∧ f2.type = 3) ∧ (f3.offset = 3 ∧ f3.type = 3) ∧ (f4.offset = 4 ∧ f4.type = 3) ∧ (f5.offset = 5 ∧ f5.type = 3) ∧ (f6.offset = 6 ∧ f6.type = 33) :=
  ⟨_, _, _, _, _, _, _, Tryz.underlying58, ⟨rfl, rfl⟩, ⟨rfl, rfl⟩, ⟨rfl, rfl⟩, ⟨rfl, rfl⟩, ⟨rfl, rfl⟩, ⟨rfl, rfl⟩, ⟨rfl, rfl⟩⟩
/-- The bounds of a member that came in. -/
structure MemIn (m : Mem) : Prop where
  p : m.p.size ≤ reachBytes
  i : m.i.size ≤ reachBytes
  r : (Lit.int .i64 m.r).wf = true
  s : (Lit.int .i64 m.s).wf = true
  t : (Lit.int .i64 m.t).wf = true
  e : (Lit.int .i64 m.e).wf = true
  l : StrsIn m.l
set_option maxRecDepth 100000 in
theorem open_mem_raw {fuel : Nat} {cs : List Value} {x : DataW H × List MemPlace} (h : DataW.trod enc Tryz.prog w base spare held fuel 58 cs = some x) (hz : Wt 58 x.1) :
    ∃ m : Mem, cs = m.vals.toList ∧ Strs w m.a m.c m.l ∧ MemIn m := by
  obtain ⟨f0, f1, f2, f3, f4, f5, f6, hu, ⟨o0, t0⟩, ⟨o1, t1⟩, ⟨o2, t2⟩, ⟨o3, t3⟩, ⟨o4, t4⟩, ⟨o5, t5⟩, ⟨o6, t6⟩⟩ := structMem
  obtain ⟨xs, k, hk, hxy, hlen, hxl, hf⟩ := DataW.trod_struct hu h
  have hc : Tryz.prog.cellsOf 58 = 7 := by kernel_rfl
  have hcs : Tryz.prog.cellsOf 9 = 1 := by kernel_rfl
  have hci : Tryz.prog.cellsOf 3 = 1 := by kernel_rfl
  have hcl : Tryz.prog.cellsOf 33 = 1 := by kernel_rfl
  rw [hc] at hlen
  match xs, hxl, cs, hlen with
  | [y0, y1, y2, y3, y4, y5, y6], _, [v0, v1, v2, v3, v4, v5, v6], _ =>
    have g0 := hf 0 f0 rfl
    have g1 := hf 1 f1 rfl
    have g2 := hf 2 f2 rfl
    have g3 := hf 3 f3 rfl
    have g4 := hf 4 f4 rfl
    have g5 := hf 5 f5 rfl
    have g6 := hf 6 f6 rfl
    rw [o0, t0, hcs] at g0
    rw [o1, t1, hcs] at g1
    rw [o2, t2, hci] at g2
    rw [o3, t3, hci] at g3
    rw [o4, t4, hci] at g4
    rw [o5, t5, hci] at g5
    rw [o6, t6, hcl] at g6
    subst hxy
    have zz := fun (j : Nat) (f : Field) (d : DataW H) h1 h2 => wt_struct (j := j) (f := f) (d := d) hu hz h1 h2
    have z0 := zz 0 f0 y0.1 rfl rfl
    have z1 := zz 1 f1 y1.1 rfl rfl
    have z6 := zz 6 f6 y6.1 rfl rfl
    rw [t0] at z0
    rw [t1] at z1
    rw [t6] at z6
    obtain ⟨s0, e0, d0, b0⟩ := DataW.trod_string Tryz.underlying9 (show DataW.trod enc Tryz.prog w base spare held k 9 [v0] = some y0 from g0)
    obtain ⟨s1, e1, d1, b1⟩ := DataW.trod_string Tryz.underlying9 (show DataW.trod enc Tryz.prog w base spare held k 9 [v1] = some y1 from g1)
    obtain ⟨n2, e2, _, b2⟩ := DataW.trod_int Tryz.underlying3 (show DataW.trod enc Tryz.prog w base spare held k 3 [v2] = some y2 from g2)
    obtain ⟨n3, e3, _, b3⟩ := DataW.trod_int Tryz.underlying3 (show DataW.trod enc Tryz.prog w base spare held k 3 [v3] = some y3 from g3)
    obtain ⟨n4, e4, _, b4⟩ := DataW.trod_int Tryz.underlying3 (show DataW.trod enc Tryz.prog w base spare held k 3 [v4] = some y4 from g4)
    obtain ⟨n5, e5, _, b5⟩ := DataW.trod_int Tryz.underlying3 (show DataW.trod enc Tryz.prog w base spare held k 3 [v5] = some y5 from g5)
    obtain ⟨a, c, l, e6, hS, hl⟩ := open_strs_raw (show DataW.trod enc Tryz.prog w base spare held k 33 [v6] = some y6 from g6) z6
    rw [d0] at z0
    rw [d1] at z1
    cases e0; cases e1; cases e2; cases e3; cases e4; cases e5; cases e6
    exact ⟨⟨s0, s1, n2, n3, n4, n5, a, l, c⟩, rfl, hS, ⟨wt_string z0, wt_string z1, b2, b3, b4, b5, hl⟩⟩

set_option maxRecDepth 100000 in
theorem open_mems_raw {fuel : Nat} {cs : List Value} {x : DataW H × List MemPlace} (h : DataW.trod enc Tryz.prog w base spare held fuel 23 cs = some x) (hz : Wt 23 x.1) :
    ∃ a c L, cs = [.slice a (L : List Mem).length c] ∧ Mems w a c L ∧ ∀ m ∈ L, MemIn m := by
  rcases Go.Deep.open_slice Tryz.underlying23 h with ⟨rfl, _⟩ | ⟨a, len, cap, m, n, D, Pl, rfl, hb, hl, hm, hmm, rfl, hx⟩
  · exact ⟨none, 0, [], rfl, Mems.nil w, by simp⟩
  · have hc : Tryz.prog.cellsOf 58 = 7 := by kernel_rfl
    rw [hc] at hx
    have hlm : len ≤ m := by rw [hmm]; split <;> omega
    have each : ∀ i, i < len → ∃ M : Mem, (∀ j, j < 7 → w.cell? ((a.add (i * 7)).add j) = M.vals[j]?) ∧ Strs w M.a M.c M.l ∧ MemIn M := fun i hi => by
      obtain ⟨cs', h1, h2⟩ := hx i (by omega)
      obtain ⟨M, rfl, hS, hM⟩ := open_mem_raw h2 ((wt_slice Tryz.underlying23 hz).2 _ (List.mem_map.2 ⟨i, List.mem_range.2 hi, rfl⟩))
      obtain ⟨_, _, h3⟩ := World.cells?_some h1
      exact ⟨M, fun j hj => by rw [h3 j hj]; simp, hS, hM⟩
    obtain ⟨F, hF⟩ : ∃ F : Nat → Mem, ∀ i, i < len → (∀ j, j < 7 → w.cell? ((a.add (i * 7)).add j) = (F i).vals[j]?) ∧ Strs w (F i).a (F i).c (F i).l ∧ MemIn (F i) := by
      refine ⟨fun i => if hi : i < len then Classical.choose (each i hi) else Mem.zero, fun i hi => ?_⟩
      simp only [hi, dif_pos]
      exact Classical.choose_spec (each i hi)
    have hL : ((List.range len).map F).length = len := by simp
    refine ⟨some a, cap, (List.range len).map F, by rw [hL], ⟨by rw [hL]; exact hl, hm, (fun e => by cases e), fun M hM => ?_, fun ad e hne => ?_⟩, fun M hM => ?_⟩
    · obtain ⟨i, hi, rfl⟩ := List.mem_map.1 hM
      exact (hF i (List.mem_range.1 hi)).2.1
    · cases e
      have hpos : 0 < len := by rw [← hL]; exact List.length_pos_iff.2 hne
      have h0 := (hF 0 hpos).1 0 (by omega)
      have h0' : w.cell? ((a.add (0 * 7)).add 0) = some (.string (F 0).p) := by rw [h0]; rfl
      have hsp : a.spot = none := by simpa [Addr.add] using World.cell?_spot h0'
      have hbl := lt_of_cell h0'
      obtain ⟨b, off, sp⟩ := a
      simp at hsp
      subst hsp
      rw [Addr.add_lit, Addr.add_lit] at hbl
      refine ⟨rfl, hbl, fun i M hi j hj => ?_⟩
      have hil : i < len := by rw [← hL]; exact (List.getElem?_eq_some_iff.1 hi).1
      have h6 := (hF i hil).1 j hj
      rw [List.getElem?_map, List.getElem?_range hil] at hi
      obtain rfl : F i = M := by simpa using hi
      rw [Addr.add_lit, Addr.add_lit] at h6
      rw [← h6]
      rw [← Nat.add_assoc]
    · obtain ⟨i, hi, rfl⟩ := List.mem_map.1 hM
      exact (hF i (List.mem_range.1 hi)).2.2
end
end Go.Proofs.YtbblkknndaoefaaGreatDoor
namespace Go.Proofs.YtbblkknndaoefaaGreatDoor
open Go.RowKit Go.Maps
set_option linter.unusedVariables false

structure Dl where
  i : ByteArray
  a : Int
def Dl.vals (v : Dl) : Array Value := #[.string v.i, .int .i64 v.a]
structure Dls (w : World) (a : Option Addr) (cap : Nat) (L : List Dl) : Prop where
  len : L.length ≤ cap
  max : cap ≤ maxLen
  isNil : a = none → L = [] ∧ cap = 0
  cell : ∀ ad, a = some ad → L ≠ [] → ad.spot = none ∧ ad.block < w.heap.size ∧ ∀ i m, L[i]? = some m → ∀ j, j < 2 → w.cell? ⟨ad.block, ad.off + (i * 2 + j), none⟩ = m.vals[j]?
/-- The two cells of a deadline at (b, o). -/
structure DlAt (w : World) (b o : Nat) (m : Dl) : Prop where
  c0 : w.cell? ⟨b, o, none⟩ = some (.string m.i)
  c1 : w.cell? ⟨b, o + 1, none⟩ = some (.int .i64 m.a)
theorem Dls.elem {w : World} {a : Option Addr} {cap : Nat} {L : List Dl} (h : Dls w a cap L) {k : Nat} (hk : k < L.length) :
    ∃ b off m, a = some ⟨b, off, none⟩ ∧ L[k]? = some m ∧ DlAt w b (off + k * 2) m ∧ b < w.heap.size := by
  cases a with
  | none => obtain ⟨rfl, _⟩ := h.isNil rfl; simp at hk
  | some ad =>
    obtain ⟨b, off, sp⟩ := ad
    obtain ⟨h1, h2, h3⟩ := h.cell _ rfl (by intro e; subst e; simp at hk)
    simp at h1; subst h1
    have hc := h3 k _ (List.getElem?_eq_getElem hk)
    exact ⟨b, off, L[k], rfl, List.getElem?_eq_getElem hk, ⟨hc 0 (by omega), hc 1 (by omega)⟩, h2⟩
theorem Dls.lenmax {w : World} {a : Option Addr} {cap : Nat} {L : List Dl} (h : Dls w a cap L) : L.length ≤ 9223372036854775807 := by
  have h1 := h.len; have h2 := h.max; unfold maxLen at h2; omega
theorem Dls.fr {S : Nat → Prop} {w w' : World} {a : Option Addr} {cap : Nat} {L : List Dl} (h : Dls w a cap L) (hf : Fr S w w') (hS : ∀ ad, a = some ad → L ≠ [] → ¬ S ad.block) : Dls w' a cap L :=
  ⟨h.len, h.max, h.isNil, fun ad e hne => by
    obtain ⟨h1, h2, h3⟩ := h.cell ad e hne
    refine ⟨h1, Nat.lt_of_lt_of_le h2 hf.size, fun i m hi j hj => ?_⟩
    rw [← h3 i m hi j hj]
    exact World.cell?_of_block (hf.block _ h2 (hS ad e hne))⟩
theorem Dls.no {S : Nat → Prop} {w w' : World} {a : Option Addr} {cap : Nat} {L : List Dl} (h : Dls w a cap L) (hf : Fr S w w') (hS : ∀ k, ¬ S k) : Dls w' a cap L := h.fr hf (fun _ _ _ => hS _)
theorem Dls.nil (w : World) : Dls w none 0 [] := ⟨by simp, by simp, fun _ => ⟨rfl, rfl⟩, fun _ e _ => by cases e⟩
theorem infoDl : (Tryz.prog.info? 81).map (fun i => (i.zero, i.size, i.bytes)) = some (some (.agg #[.string ByteArray.empty, .int .i64 0]), 2, 24) := by kernel_rfl
def dflat (L : List Dl) : List Value := L.flatMap (fun m => m.vals.toList)
theorem dflat_snoc (L : List Dl) (m : Dl) : dflat (L ++ [m]) = dflat L ++ m.vals.toList := by simp [dflat]
theorem dvals_one (m : Dl) : ∀ u ∈ m.vals.toList, u.oneCell' = true := by
  intro u hu
  simp [Dl.vals] at hu
  rcases hu with rfl | rfl <;> rfl
theorem dflat_at : ∀ (L : List Dl) (i : Nat) (m : Dl), L[i]? = some m → ∀ j, j < 2 → (dflat L)[i * 2 + j]? = m.vals[j]?
  | [], i, m, h, j, hj => by simp at h
  | x :: t, 0, m, h, j, hj => by
    simp at h; subst h
    have : dflat (x :: t) = x.vals.toList ++ dflat t := by simp [dflat]
    rw [this, List.getElem?_append_left (by simp [Dl.vals]; omega)]
    simp
  | x :: t, i + 1, m, h, j, hj => by
    have : dflat (x :: t) = x.vals.toList ++ dflat t := by simp [dflat]
    rw [this, List.getElem?_append_right (by simp [Dl.vals]; omega), show (i + 1) * 2 + j - x.vals.toList.length = i * 2 + j from by simp [Dl.vals]; omega]
    exact dflat_at t i m (by simpa using h) j hj
theorem Dls.of_own {w : World} {base : Nat} {e : TypeId} {v : Value} {L : List Dl} (h : w.ownsRow base e 2 v L.length (dflat L)) :
    ∃ a cap, v = .slice a L.length cap ∧ Dls w a cap L ∧ ∀ ad, a = some ad → base ≤ ad.block := by
  obtain ⟨_, ⟨rfl, h2⟩ | ⟨g, cap, cur, rfl, hg, hb, h1, h2, h3, h4⟩⟩ := h
  · have : L = [] := List.eq_nil_of_length_eq_zero h2
    subst this
    exact ⟨none, 0, rfl, Dls.nil w, fun _ e => by cases e⟩
  · refine ⟨some ⟨g, 0, none⟩, cap, rfl, ⟨h1, h2, (fun e => by cases e), ?_⟩, fun ad e => by cases e; exact hg⟩
    intro ad e hne
    cases e
    refine ⟨rfl, lt_of_block hb, fun i m hi j hj => ?_⟩
    rw [cell_of_block hb]
    simp only [Nat.zero_add]
    have hlt : i < L.length := (List.getElem?_eq_some_iff.1 hi).1
    have e1 : (cur.toList.take (L.length * 2))[i * 2 + j]? = (dflat L)[i * 2 + j]? := by rw [h4]
    rw [List.getElem?_take_of_lt (by omega), dflat_at L i m hi j hj] at e1
    rw [← Array.getElem?_toList, e1]
theorem dflat_len (L : List Dl) : (dflat L).length = L.length * 2 := by
  induction L with
  | nil => rfl
  | cons d t ih =>
    have : dflat (d :: t) = d.vals.toList ++ dflat t := by simp [dflat]
    rw [this, List.length_append, ih]
    simp [Dl.vals]; omega
theorem dflat_one (L : List Dl) : ∀ u ∈ dflat L, u.oneCell' = true := by
  intro u hu
  obtain ⟨m, _, h⟩ := List.mem_flatMap.1 hu
  exact dvals_one m u h
theorem dflat_append (L M : List Dl) : dflat (L ++ M) = dflat L ++ dflat M := by simp [dflat]
theorem Dls.keep {S : Nat → Prop} {w w' : World} {a : Option Addr} {cap : Nat} {L : List Dl} (h : Dls w a cap L) (hf : Fr S w w') (hS : ∀ b, b < w.heap.size → ¬ S b) : Dls w' a cap L :=
  h.fr hf (fun ad e hne => hS _ (h.cell ad e hne).2.1)
theorem dflat_get : ∀ (L : List Dl) (j : Nat) (u : Value), (dflat L)[j]? = some u → ∃ m, L[j / 2]? = some m ∧ m.vals[j % 2]? = some u
  | [], j, u, h => by simp [dflat] at h
  | x :: t, j, u, h => by
    have e : dflat (x :: t) = x.vals.toList ++ dflat t := by simp [dflat]
    have hl : x.vals.toList.length = 2 := by simp [Dl.vals]
    rw [e] at h
    by_cases hj : j < 2
    · rw [List.getElem?_append_left (by omega)] at h
      refine ⟨x, by rw [show j / 2 = 0 by omega]; rfl, ?_⟩
      rw [show j % 2 = j by omega, ← Array.getElem?_toList]; exact h
    · rw [List.getElem?_append_right (by omega), hl] at h
      obtain ⟨m, h1, h2⟩ := dflat_get t (j - 2) u h
      refine ⟨m, ?_, ?_⟩
      · rw [show j / 2 = (j - 2) / 2 + 1 by omega]; simpa using h1
      · rw [show j % 2 = (j - 2) % 2 by omega]; exact h2
theorem Dls.all {w : World} {a : Option Addr} {cap : Nat} {L : List Dl} (h : Dls w a cap L) :
    (∀ ad, a = some ad → ∀ j u, (dflat L)[j]? = some u → w.cell? (ad.add j) = some u) ∧ (a = none → L.length = 0 ∧ cap = 0) := by
  constructor
  · intro ad e j u hu
    obtain ⟨m, h1, h2⟩ := dflat_get _ _ _ hu
    obtain ⟨hsp, _, h3⟩ := h.cell ad e (by intro e; subst e; simp at h1)
    have h4 := h3 (j / 2) m h1 (j % 2) (by omega)
    obtain ⟨b, o, sp⟩ := ad
    simp only at hsp h4
    subst hsp
    rw [Addr.add_lit, show o + j = o + (j / 2 * 2 + j % 2) by omega, h4]
    exact h2
  · intro e
    obtain ⟨h1, h2⟩ := h.isNil e
    rw [h1]; exact ⟨rfl, h2⟩

open Go.ChangeShapes
section
variable {H : Type} {enc : TypeId × Value → H} {w : World} {base : Nat} {spare : Nat → Bool} {held : Bool}
set_option maxRecDepth 100000 in
theorem structDl : ∃ f0 f1 : Field, Tryz.prog.underlying 81 = some (.struct #[f0, f1]) ∧ (f0.offset = 0 ∧ f0.type = 9) ∧ (f1.offset = 1 ∧ f1.type = 3) :=
  ⟨_, _, Tryz.underlying81, ⟨rfl, rfl⟩, ⟨rfl, rfl⟩⟩
/-- The bounds of deadlines that came in. -/
structure DlsIn (L : List Dl) : Prop where
  n : L.length * 24 ≤ reachBytes
  i : ∀ m ∈ L, m.i.size ≤ reachBytes
  a : ∀ m ∈ L, (Lit.int .i64 m.a).wf = true
set_option maxRecDepth 100000 in
theorem open_dl_raw {fuel : Nat} {cs : List Value} {x : DataW H × List MemPlace} (h : DataW.trod enc Tryz.prog w base spare held fuel 81 cs = some x) (hz : Wt 81 x.1) :
    ∃ m : Dl, cs = m.vals.toList ∧ m.i.size ≤ reachBytes ∧ (Lit.int .i64 m.a).wf = true := by
  obtain ⟨f0, f1, hu, ⟨o0, t0⟩, ⟨o1, t1⟩⟩ := structDl
  obtain ⟨xs, k, hk, hxy, hlen, hxl, hf⟩ := DataW.trod_struct hu h
  have hc : Tryz.prog.cellsOf 81 = 2 := by kernel_rfl
  have hcs : Tryz.prog.cellsOf 9 = 1 := by kernel_rfl
  have hci : Tryz.prog.cellsOf 3 = 1 := by kernel_rfl
  rw [hc] at hlen
  match xs, hxl, cs, hlen with
  | [y0, y1], _, [v0, v1], _ =>
    have g0 := hf 0 f0 rfl
    have g1 := hf 1 f1 rfl
    rw [o0, t0, hcs] at g0
    rw [o1, t1, hci] at g1
    subst hxy
    have z0 := wt_struct (j := 0) (f := f0) (d := y0.1) hu hz rfl rfl
    rw [t0] at z0
    obtain ⟨s0, e0, d0, b0⟩ := DataW.trod_string Tryz.underlying9 (show DataW.trod enc Tryz.prog w base spare held k 9 [v0] = some y0 from g0)
    obtain ⟨n1, e1, _, b1⟩ := DataW.trod_int Tryz.underlying3 (show DataW.trod enc Tryz.prog w base spare held k 3 [v1] = some y1 from g1)
    rw [d0] at z0
    cases e0; cases e1
    exact ⟨⟨s0, n1⟩, rfl, wt_string z0, b1⟩
set_option maxRecDepth 100000 in
theorem open_dls_raw {fuel : Nat} {cs : List Value} {x : DataW H × List MemPlace} (h : DataW.trod enc Tryz.prog w base spare held fuel 78 cs = some x) (hz : Wt 78 x.1) :
    ∃ a c L, cs = [.slice a (L : List Dl).length c] ∧ Dls w a c L ∧ DlsIn L := by
  rcases Go.Deep.open_slice Tryz.underlying78 h with ⟨rfl, _⟩ | ⟨a, len, cap, m, n, D, Pl, rfl, hb, hl, hm, hmm, rfl, hx⟩
  · exact ⟨none, 0, [], rfl, Dls.nil w, ⟨by simp, by simp, by simp⟩⟩
  · have hc : Tryz.prog.cellsOf 81 = 2 := by kernel_rfl
    rw [hc] at hx
    have hlm : len ≤ m := by rw [hmm]; split <;> omega
    obtain ⟨z1, z2⟩ := wt_slice Tryz.underlying78 hz
    have hbs : Tryz.prog.bytesOf 81 = 24 := by kernel_rfl
    rw [hbs] at z1
    have each : ∀ i, i < len → ∃ M : Dl, (∀ j, j < 2 → w.cell? ((a.add (i * 2)).add j) = M.vals[j]?) ∧ M.i.size ≤ reachBytes ∧ (Lit.int .i64 M.a).wf = true := fun i hi => by
      obtain ⟨cs', h1, h2⟩ := hx i (by omega)
      obtain ⟨M, rfl, hS, hM⟩ := open_dl_raw h2 (z2 _ (List.mem_map.2 ⟨i, List.mem_range.2 hi, rfl⟩))
      obtain ⟨_, _, h3⟩ := World.cells?_some h1
      exact ⟨M, fun j hj => by rw [h3 j hj]; simp, hS, hM⟩
    obtain ⟨F, hF⟩ : ∃ F : Nat → Dl, ∀ i, i < len → (∀ j, j < 2 → w.cell? ((a.add (i * 2)).add j) = (F i).vals[j]?) ∧ (F i).i.size ≤ reachBytes ∧ (Lit.int .i64 (F i).a).wf = true := by
      refine ⟨fun i => if hi : i < len then Classical.choose (each i hi) else ⟨⟨#[]⟩, 0⟩, fun i hi => ?_⟩
      simp only [hi, dif_pos]
      exact Classical.choose_spec (each i hi)
    have hL : ((List.range len).map F).length = len := by simp
    refine ⟨some a, cap, (List.range len).map F, by rw [hL], ⟨by rw [hL]; exact hl, hm, (fun e => by cases e), fun ad e hne => ?_⟩, ⟨?_, fun M hM => ?_, fun M hM => ?_⟩⟩
    · cases e
      have hpos : 0 < len := by rw [← hL]; exact List.length_pos_iff.2 hne
      have h0 := (hF 0 hpos).1 0 (by omega)
      have h0' : w.cell? ((a.add (0 * 2)).add 0) = some (.string (F 0).i) := by rw [h0]; rfl
      have hsp : a.spot = none := by simpa [Addr.add] using World.cell?_spot h0'
      have hbl := lt_of_cell h0'
      obtain ⟨b, off, sp⟩ := a
      simp at hsp
      subst hsp
      rw [Addr.add_lit, Addr.add_lit] at hbl
      refine ⟨rfl, hbl, fun i M hi j hj => ?_⟩
      have hil : i < len := by rw [← hL]; exact (List.getElem?_eq_some_iff.1 hi).1
      have h6 := (hF i hil).1 j hj
      rw [List.getElem?_map, List.getElem?_range hil] at hi
      obtain rfl : F i = M := by simpa using hi
      rw [Addr.add_lit, Addr.add_lit] at h6
      rw [← h6]
      rw [← Nat.add_assoc]
    · rw [hL]; rw [List.length_map, List.length_range] at z1; omega
    · obtain ⟨i, hi, rfl⟩ := List.mem_map.1 hM
      exact (hF i (List.mem_range.1 hi)).2.1
    · obtain ⟨i, hi, rfl⟩ := List.mem_map.1 hM
      exact (hF i (List.mem_range.1 hi)).2.2
end
end Go.Proofs.YtbblkknndaoefaaGreatDoor
namespace Go.Proofs.YtbblkknndaoefaaGreatDoor
open Go.RowKit Go.Maps
set_option linter.unusedVariables false

def nxS (now : Int) (o : Option Int) (d : Dl) : Option Int := if now < d.a then (match o with | none => some d.a | some x => if d.a < x then some d.a else some x) else o
def nextV (D : List Dl) (now : Int) : Option Int := D.foldl (nxS now) none
theorem nextV_take {D : List Dl} {k : Nat} {d : Dl} (now : Int) (h : D[k]? = some d) : nextV (D.take (k + 1)) now = nxS now (nextV (D.take k) now) d := by
  unfold nextV; rw [List.take_add_one, h, List.foldl_append]; rfl
def NextR (o : Option Int) (e : Ending) : Prop := e = .returned (.tuple #[.int .i64 (o.getD 0), .bool o.isSome])

set_option maxRecDepth 100000 in
set_option maxHeartbeats 2000000 in
theorem a_next (a : Option Addr) (cap : Nat) (D : List Dl) (now : Int) (w : World) (hD : Dls w a cap D) :
    Calls Tryz.prog 58 #[.slice a D.length cap, .int .i64 now] w fun e w' => NextR (nextV D now) e ∧ Fr No w w' := by
  have hm := hD.lenmax
  go_enter Tryz.func58, Tryz.ntmps58
  go_wp2_with fail
  go_loopw [6, 7, 12] (fun at_ ok i wr => ∃ (k : Nat) (o : Option Int), k ≤ D.length ∧ at_ = .int .i64 (o.getD 0) ∧ ok = .bool o.isSome ∧ i = .int .i64 (k : Int) ∧ Hid (nextV (D.take k) now = o) ∧ Fr No w wr) (fun _ _ i _ => D.length - (intOf i).toNat)
  case atStart => exact ⟨0, none, by omega, rfl, rfl, rfl, by unfold Hid; simp [nextV], Fr.refl _ _⟩
  case round =>
    obtain ⟨k, o, hk, rfl, rfl, rfl, HO, hf⟩ := hrel
    by_cases hlt : k < D.length
    · have hlt' : (k : Int) < D.length := by omega
      obtain ⟨b, off, d, rfl, hdk, ⟨c0, c1⟩, _⟩ := (hD.no hf (fun _ => id)).elem hlt
      have Htk := Lib.hid (nextV_take now hdk)
      clear hdk
      have hal : Fr No wr (wr.alloc (.cells #[.string d.i, .int .i64 d.a] 81)) := (Fr.refl _ _).alloc _
      have z1 : (wr.alloc (.cells #[.string d.i, .int .i64 d.a] 81)).cell? ⟨wr.heap.size, 1, none⟩ = some (.int .i64 d.a) := cell_of_block (block_alloc _ _) 1
      have Hf := Lib.hid (hf.step hal (fun _ _ h => h))
      clear hf
      by_cases h1 : now < d.a
      · rcases o with _ | x
        · simp only [Option.getD_none, Option.isSome_none]
          have HO' : Hid (nextV (D.take (k + 1)) now = some d.a) := by unfold Hid; rw [Htk.out, HO.out]; unfold nxS; simp [h1]
          go_wp2_with fail
          go_roundw
          case rel => exact ⟨k + 1, some d.a, by omega, rfl, rfl, by go_num, HO', Hf.out⟩
          case measure => simp [intOf]; omega
        · simp only [Option.getD_some, Option.isSome_some]
          by_cases h2 : d.a < x
          · have HO' : Hid (nextV (D.take (k + 1)) now = some d.a) := by unfold Hid; rw [Htk.out, HO.out]; unfold nxS; simp [h1, h2]
            go_wp2_with fail
            go_roundw
            case rel => exact ⟨k + 1, some d.a, by omega, rfl, rfl, by go_num, HO', Hf.out⟩
            case measure => simp [intOf]; omega
          · have HO' : Hid (nextV (D.take (k + 1)) now = some x) := by unfold Hid; rw [Htk.out, HO.out]; unfold nxS; simp [h1, h2]
            go_wp2_with fail
            go_roundw
            case rel => exact ⟨k + 1, some x, by omega, rfl, rfl, by go_num, HO', Hf.out⟩
            case measure => simp [intOf]; omega
      · rcases o with _ | x
        · simp only [Option.getD_none, Option.isSome_none]
          have HO' : Hid (nextV (D.take (k + 1)) now = none) := by unfold Hid; rw [Htk.out, HO.out]; unfold nxS; simp [h1]
          go_wp2_with fail
          go_roundw
          case rel => exact ⟨k + 1, none, by omega, rfl, rfl, by go_num, HO', Hf.out⟩
          case measure => simp [intOf]; omega
        · simp only [Option.getD_some, Option.isSome_some]
          have HO' : Hid (nextV (D.take (k + 1)) now = some x) := by unfold Hid; rw [Htk.out, HO.out]; unfold nxS; simp [h1]
          go_wp2_with fail
          go_roundw
          case rel => exact ⟨k + 1, some x, by omega, rfl, rfl, by go_num, HO', Hf.out⟩
          case measure => simp [intOf]; omega
    · obtain rfl : k = D.length := by omega
      have hO := HO.out
      rw [List.take_length] at hO
      have HOe := Lib.hid hO
      clear hO HO
      go_wp2_with fail
      go_ret2
      exact ⟨by unfold NextR; rw [HOe.out]; rfl, hf⟩
set_option maxRecDepth 100000 in
set_option maxHeartbeats 2000000 in
theorem r_next (a : Option Addr) (cap : Nat) (D : List Dl) (now : Int) (w : World) (hD : Dls w a cap D) :
    Calls Tryz.prog 59 #[.slice a D.length cap, .int .i64 now] w fun e w' => NextR (nextV D now) e ∧ Fr No w w' := by
  have hm := hD.lenmax
  go_enter Tryz.func59, Tryz.ntmps59
  go_wp2_with fail
  go_loopw [6, 7, 8] (fun at_ ok i wr => ∃ (k : Nat) (o : Option Int), k ≤ D.length ∧ at_ = .int .i64 (o.getD 0) ∧ ok = .bool o.isSome ∧ i = .int .i64 (k : Int) ∧ Hid (nextV (D.take k) now = o) ∧ Fr No w wr) (fun _ _ i _ => D.length - (intOf i).toNat)
  case atStart => exact ⟨0, none, by omega, rfl, rfl, rfl, by unfold Hid; simp [nextV], Fr.refl _ _⟩
  case round =>
    obtain ⟨k, o, hk, rfl, rfl, rfl, HO, hf⟩ := hrel
    by_cases hlt : k < D.length
    · have hlt' : (k : Int) < D.length := by omega
      obtain ⟨b, off, d, rfl, hdk, ⟨c0, c1⟩, _⟩ := (hD.no hf (fun _ => id)).elem hlt
      have Htk := Lib.hid (nextV_take now hdk)
      clear hdk
      have Hf := Lib.hid hf
      clear hf
      by_cases h1 : now < d.a
      · rcases o with _ | x
        · simp only [Option.getD_none, Option.isSome_none]
          have HO' : Hid (nextV (D.take (k + 1)) now = some d.a) := by unfold Hid; rw [Htk.out, HO.out]; unfold nxS; simp [h1]
          go_wp2_with fail
          go_roundw
          case rel => exact ⟨k + 1, some d.a, by omega, rfl, rfl, by go_num, HO', Hf.out⟩
          case measure => simp [intOf]; omega
        · simp only [Option.getD_some, Option.isSome_some]
          by_cases h2 : d.a < x
          · have HO' : Hid (nextV (D.take (k + 1)) now = some d.a) := by unfold Hid; rw [Htk.out, HO.out]; unfold nxS; simp [h1, h2]
            go_wp2_with fail
            go_roundw
            case rel => exact ⟨k + 1, some d.a, by omega, rfl, rfl, by go_num, HO', Hf.out⟩
            case measure => simp [intOf]; omega
          · have HO' : Hid (nextV (D.take (k + 1)) now = some x) := by unfold Hid; rw [Htk.out, HO.out]; unfold nxS; simp [h1, h2]
            go_wp2_with fail
            go_roundw
            case rel => exact ⟨k + 1, some x, by omega, rfl, rfl, by go_num, HO', Hf.out⟩
            case measure => simp [intOf]; omega
      · rcases o with _ | x
        · simp only [Option.getD_none, Option.isSome_none]
          have HO' : Hid (nextV (D.take (k + 1)) now = none) := by unfold Hid; rw [Htk.out, HO.out]; unfold nxS; simp [h1]
          go_wp2_with fail
          go_roundw
          case rel => exact ⟨k + 1, none, by omega, rfl, rfl, by go_num, HO', Hf.out⟩
          case measure => simp [intOf]; omega
        · simp only [Option.getD_some, Option.isSome_some]
          have HO' : Hid (nextV (D.take (k + 1)) now = some x) := by unfold Hid; rw [Htk.out, HO.out]; unfold nxS; simp [h1]
          go_wp2_with fail
          go_roundw
          case rel => exact ⟨k + 1, some x, by omega, rfl, rfl, by go_num, HO', Hf.out⟩
          case measure => simp [intOf]; omega
    · obtain rfl : k = D.length := by omega
      have hO := HO.out
      rw [List.take_length] at hO
      have HOe := Lib.hid hO
      clear hO HO
      go_wp2_with fail
      go_ret2
      exact ⟨by unfold NextR; rw [HOe.out]; rfl, hf⟩
end Go.Proofs.YtbblkknndaoefaaGreatDoor
