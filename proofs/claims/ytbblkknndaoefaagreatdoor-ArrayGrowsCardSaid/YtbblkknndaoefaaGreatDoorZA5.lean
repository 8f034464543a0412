/- coldplugref01.Split; coldplugref32.Earlier answers what gather.Before answers. coldplugref32.Earlier answers what gather.Before answers. Blocks and the types of their cells. coldplugref32.With on ascending texts: plain, and the walk. Members in memory: slices of api.Member that are read, rows of them. -/
import Derived.Test.YtbblkknndaoefaaGreatDoorZA4
import Derived.Sort.Walk0
import Derived.Test.YtbblkknndaoefaaGreatDoorZA2
import Derived.Test.YtbblkknndaoefaaGreatDoorZA3
namespace Go.Proofs.YtbblkknndaoefaaGreatDoor
open Go.RowKit Go.Maps Go.Sort
set_option linter.unusedVariables false

theorem cb_less : ∀ a b : List UInt8, decide (Lib.compareBytes a b < 0) = Op.bytesLess a b
  | [], [] => rfl
  | [], _ :: _ => rfl
  | _ :: _, [] => rfl
  | a :: x, b :: y => by
    have ih := cb_less x y
    unfold Lib.compareBytes Op.bytesLess
    by_cases h1 : a < b
    · simp [h1]
    · by_cases h2 : b < a
      · have h3 : (a == b) = false := by
          simp only [beq_eq_false_iff_ne]
          rintro rfl
          exact h1 h2
        simp [h1, h2, h3]
      · have h3 : a = b := UInt8.le_antisymm (UInt8.not_lt.1 h2) (UInt8.not_lt.1 h1)
        subst h3
        simp [h1, ih]
theorem ahead_ne {p p' : ByteArray} {r r' : Int} (h : r ≠ r') : aheadB p r p' r' = decide (r < r') := by
  unfold aheadB orI cmpI
  by_cases h1 : r < r'
  · simp [h1]
  · have h2 : r' < r := by omega
    simp [h1, h2]
theorem ahead_eq (p p' : ByteArray) (r : Int) : aheadB p r p' r = decide (pathO p p' < 0) := by
  unfold aheadB orI cmpI
  simp
theorem ahead_tt {p p' : ByteArray} (r : Int) (h1 : goodPath p = true) (h2 : goodPath p' = true) : aheadB p r p' r = decide (cmpN (fparts p) (fparts p') < 0) := by
  rw [ahead_eq, order_good h1 h2]; unfold pathO; rw [h1, h2]; rfl
theorem ahead_tf {p p' : ByteArray} (r : Int) (h1 : goodPath p = true) (h2 : goodPath p' = false) : aheadB p r p' r = true := by
  rw [ahead_eq]; unfold pathO; rw [h1, h2]; rfl
theorem ahead_ft {p p' : ByteArray} (r : Int) (h1 : goodPath p = false) (h2 : goodPath p' = true) : aheadB p r p' r = false := by
  rw [ahead_eq]; unfold pathO; rw [h1, h2]; rfl
theorem ahead_ff {p p' : ByteArray} (r : Int) (h1 : goodPath p = false) (h2 : goodPath p' = false) : aheadB p r p' r = Op.bytesLess p.toList p'.toList := by
  rw [ahead_eq]; unfold pathO; rw [h1, h2, ByteArray.toList_eq, ByteArray.toList_eq, ← cb_less]; rfl

/-- What coldplugref01.Split answers. -/
def SplitQ (s : ByteArray) (e : Ending) : Prop := ∃ v, e = .returned (.tuple #[v, .bool (goodPath s)])

theorem byte0 {s : ByteArray} {b : UInt8} {t : List UInt8} (hl : s.data.toList = b :: t) (h : 0 < s.size) : s[0]'h = b := by
  have h1 : s.data[0]'h = b := by
    have h2 : s.data.toList[0]? = some b := by rw [hl]; rfl
    rw [Array.getElem?_toList, Array.getElem?_eq_getElem h] at h2
    exact Option.some.inj h2
  exact h1
set_option maxRecDepth 100000 in
set_option maxHeartbeats 1000000 in
theorem r_split (s : ByteArray) (m : Int) (w : World) (hs : s.size ≤ 1000000) (hm : w.cell? ⟨1, 0, none⟩ = some (.int .i64 m)) :
    Calls Tryz.prog 108 #[.string s] w fun e w' => SplitQ s e ∧ Fr No w w' := by
  rcases hl : s.data.toList with _ | ⟨b, t⟩
  · have Hg : Hid (goodPath s = false) := by unfold Hid goodPath; rw [hl]; rfl
    have h0 : s.toList = [] := by rw [ByteArray.toList_eq, hl]
    clear hl
    go_enter Tryz.func108, Tryz.ntmps108
    go_wp2_with fail
    go_ret2
    exact ⟨⟨.slice none 0 0, by rw [Hg.out]; rfl⟩, Fr.refl _ _⟩
  · have hsz : 0 < s.size := by
      have h1 : s.data.toList.length = s.size := (Lib.size_eq s).symm
      rw [hl] at h1; simp at h1; omega
    have h0 : s.toList.isEmpty = false := by rw [ByteArray.toList_eq, hl]; rfl
    have hb0 := byte0 hl hsz
    by_cases hb : b = 47
    · have h3 : (((s[0]'hsz).toNat : Int) != 47) = false := by rw [hb0, hb]; rfl
      have hp : Lib.hasPrefix s.data.toList [47] = true := by rw [hl, hb]; simp [Lib.hasPrefix]
      have hq : (s.extract 1 s.size).data.toList = t := by rw [Lib.extract_to_end, hl]; rfl
      obtain ⟨q, hqe⟩ : ∃ q, q = s.extract 1 s.size := ⟨_, rfl⟩
      rw [← hqe] at hq
      have hqs : q.size ≤ 1000000 := by
        have h1 : q.data.toList.length = q.size := (Lib.size_eq q).symm
        have h2 : s.data.toList.length = s.size := (Lib.size_eq s).symm
        rw [hq] at h1; rw [hl] at h2; simp at h2; omega
      obtain ⟨P, hP⟩ : ∃ P, P = fparts q := ⟨_, rfl⟩
      have hPs : P = sparts s := by
        rw [hP]; unfold fparts sparts
        rw [hq, hl, hb]
        unfold Lib.trimPrefix
        simp [Lib.hasPrefix]
      have hg : goodPath s = P.all isName := by unfold goodPath; rw [hp, hPs]; rfl
      have hsz1 : ∀ x ∈ P, x.size ≤ maxLen := fun x hx => by rw [hPs] at hx; have := sparts_size s x hx; unfold maxLen; omega
      have hc1 := fparts_len q
      have hs1 : _ = fparts q := split_parts q
      rw [← hP] at hc1 hs1
      have hle1 := Lib.countB_le ⟨#[47]⟩ (by decide) q.size q (Nat.le_refl _)
      have hl1 : P.length ≤ maxLen := by unfold maxLen; omega
      have hl2 : P.length ≤ 2000000 := by omega
      have hsp1 := Tryz.strings_Split q ⟨#[47]⟩ m w (by omega) hm (by decide)
      rw [hs1, hc1] at hsp1
      have hx1 : Fr No w (w.alloc (.cells (P.map Value.string).toArray 9)) := (Fr.refl _ _).alloc _
      have hS1 := Strs.new w P 9 hl1
      obtain ⟨W1, hW1⟩ : ∃ W1, W1 = w.alloc (.cells (P.map Value.string).toArray 9) := ⟨_, rfl⟩
      rw [← hW1] at hsp1 hx1 hS1
      have Hg := Lib.hid hg
      have Hqe := Lib.hid hqe.symm
      have Hx1 := Lib.hid hx1
      clear hl hb hb0 hp hq hqe hP hPs hg hc1 hs1 hle1 hl1 hW1 hx1 hm
      go_enter Tryz.func108, Tryz.ntmps108
      go_wp2_with fail
      rw [Hqe.out]
      refine hsp1.mono ?_
      rintro e w1 ⟨rfl, rfl⟩
      clear hsp1 h3 h0 Hqe
      go_wp2_with fail
      go_loopw [5] (fun i wr => ∃ k : Nat, k ≤ P.length ∧ i = .int .i64 (k : Int) ∧ Hid ((P.take k).all isName = true) ∧ Fr No w wr ∧ Strs wr (some ⟨w.heap.size, 0, none⟩) P.length P) (fun i _ => P.length - (intOf i).toNat)
      case atStart => exact ⟨0, by omega, rfl, by unfold Hid; simp, Hx1.out, hS1⟩
      case round =>
        obtain ⟨k, hk, rfl, hno, hfr, hSr⟩ := hrel
        by_cases hlt : k < P.length
        · have hlt' : (k : Int) < P.length := by omega
          obtain ⟨xb, xo, x, e1, hx, hc⟩ := hSr.at hlt
          cases e1
          rw [Nat.zero_add] at hc
          have hxs := hsz1 x (List.mem_of_getElem? hx)
          have Htk : Hid (P.take (k + 1) = P.take k ++ [x]) := by unfold Hid; rw [List.take_add_one, hx]; rfl
          have Hmem := Lib.hid (List.mem_of_getElem? hx)
          have hv := v_valid x wr hxs
          clear hx
          go_wp2_with fail
          refine hv.mono ?_
          rintro e w3 ⟨rfl, rfl⟩
          clear hc hv
          cases hp : isName x
          · have Hr : Hid (goodPath s = false) := by unfold Hid; rw [Hg.out, List.all_eq_false]; exact ⟨x, Hmem.out, by rw [hp]; simp⟩
            clear hp
            go_wp2_with fail
            go_ret2
            exact ⟨⟨.slice none 0 0, by rw [Hr.out]; rfl⟩, hfr⟩
          · have Hn : Hid ((P.take (k + 1)).all isName = true) := by unfold Hid; rw [Htk.out, List.all_append, hno.out]; simp [hp]
            clear hp
            go_wp2_with fail
            go_roundw
            case rel => exact ⟨k + 1, by omega, by go_num, Hn, hfr, hSr⟩
            case measure => simp [intOf]; omega
        · have h := hno.out
          rw [List.take_of_length_le (by omega)] at h
          have Hr : Hid (goodPath s = true) := by unfold Hid; rw [Hg.out, h]
          clear h
          go_wp2_with fail
          go_ret2
          exact ⟨⟨.slice (some ⟨w.heap.size, 0, none⟩) P.length P.length, by rw [Hr.out]; rfl⟩, hfr⟩
    · have Hg : Hid (goodPath s = false) := by unfold Hid goodPath; rw [hl]; simp [Lib.hasPrefix]; intro h; exact absurd h.symm hb
      have h3 : (((s[0]'hsz).toNat : Int) != 47) = true := by
        rw [hb0]
        simp only [bne_iff_ne, ne_eq]
        intro e
        exact hb (UInt8.toNat_inj.1 (by have : b.toNat = 47 := by omega
                                        rw [this]; rfl))
      clear hl hb hb0
      go_enter Tryz.func108, Tryz.ntmps108
      go_wp2_with fail
      go_ret2
      exact ⟨⟨.slice none 0 0, by rw [Hg.out]; rfl⟩, Fr.refl _ _⟩
end Go.Proofs.YtbblkknndaoefaaGreatDoor
namespace Go.Proofs.YtbblkknndaoefaaGreatDoor
open Go.RowKit Go.Maps
set_option linter.unusedVariables false

set_option maxRecDepth 100000 in
set_option maxHeartbeats 2000000 in
theorem ref_earlier (p i p' i' : ByteArray) (r s t e r' s' t' e' : Int) (v v' : Value) (m : Int) (w : World) (hs : p.size ≤ 1000000) (ht : p'.size ≤ 1000000) (hm : w.cell? ⟨1, 0, none⟩ = some (.int .i64 m)) :
    Calls Tryz.prog 79 #[.agg #[.string p, .string i, .int .i64 r, .int .i64 s, .int .i64 t, .int .i64 e, v], .agg #[.string p', .string i', .int .i64 r', .int .i64 s', .int .i64 t', .int .i64 e', v']] w fun en w' => en = .returned (.bool (aheadB p r p' r')) ∧ Fr No w w' := by
  have h0 : Fr No w ((w.alloc (.cells #[.string p, .string i, .int .i64 r, .int .i64 s, .int .i64 t, .int .i64 e, v] 58)).alloc (.cells #[.string p', .string i', .int .i64 r', .int .i64 s', .int .i64 t', .int .i64 e', v'] 58)) := ((Fr.refl _ _).alloc _).alloc _
  have q1 := block_alloc1 w (.cells #[.string p, .string i, .int .i64 r, .int .i64 s, .int .i64 t, .int .i64 e, v] 58) (.cells #[.string p', .string i', .int .i64 r', .int .i64 s', .int .i64 t', .int .i64 e', v'] 58)
  have q2 := block_alloc2 w (.cells #[.string p, .string i, .int .i64 r, .int .i64 s, .int .i64 t, .int .i64 e, v] 58) (.cells #[.string p', .string i', .int .i64 r', .int .i64 s', .int .i64 t', .int .i64 e', v'] 58)
  obtain ⟨W0, hW0⟩ : ∃ W0, W0 = (w.alloc (.cells #[.string p, .string i, .int .i64 r, .int .i64 s, .int .i64 t, .int .i64 e, v] 58)).alloc (.cells #[.string p', .string i', .int .i64 r', .int .i64 s', .int .i64 t', .int .i64 e', v'] 58) := ⟨_, rfl⟩
  rw [← hW0] at h0 q1 q2
  have hm0 := h0.cell hm id
  have H0 := Lib.hid h0
  obtain ⟨rb, hrb⟩ : ∃ rb, rb = aheadB p r p' r' := ⟨_, rfl⟩
  rw [← hrb]
  have Hrb := Lib.hid hrb
  have y0 : W0.cell? ⟨w.heap.size, 0, none⟩ = some (.string p) := cell_of_block q1 0
  have y2 : W0.cell? ⟨w.heap.size, 2, none⟩ = some (.int .i64 r) := cell_of_block q1 2
  have z0 : W0.cell? ⟨w.heap.size + 1, 0, none⟩ = some (.string p') := cell_of_block q2 0
  have z2 : W0.cell? ⟨w.heap.size + 1, 2, none⟩ = some (.int .i64 r') := cell_of_block q2 2
  clear h0 hm hrb q1 q2
  go_enter Tryz.func79, Tryz.ntmps79
  go_upto_region 1 with (fail)
  rw [← hW0]
  clear hW0
  by_cases hr : r = r'
  · subst hr
    have hsp := r_split p m W0 hs hm0
    go_wp2_with fail
    refine hsp.mono ?_
    rintro en w1 ⟨⟨v1, rfl⟩, hf1⟩
    have hsp2 := r_split p' m w1 ht (hf1.cell hm0 id)
    have y0' := hf1.cell y0 id
    have z0' := hf1.cell z0 id
    have hm1 := hf1.cell hm0 id
    have Hf1 := Lib.hid (H0.out.step hf1 (fun _ _ h => h))
    clear y0 z0 y2 z2 hf1 hsp hm0
    go_wp2_with fail
    refine hsp2.mono ?_
    rintro en w2 ⟨⟨v2, rfl⟩, hf2⟩
    have y0 := hf2.cell y0' id
    have z0 := hf2.cell z0' id
    have hm2 := hf2.cell hm1 id
    have Hf2 := Lib.hid (Hf1.out.step hf2 (fun _ _ h => h))
    clear y0' z0' hf2 hsp2 hm1
    cases hg1 : goodPath p with
    | true =>
      cases hg2 : goodPath p' with
      | true =>
        have Hv : Hid (rb = decide (cmpN (fparts p) (fparts p') < 0)) := by unfold Hid; rw [Hrb.out, ahead_tt r hg1 hg2]
        have hor := r_order p p' m w2 hs ht hm2
        clear hg1 hg2
        go_wp2_with fail
        refine hor.mono ?_
        rintro en w3 ⟨rfl, hf3⟩
        have Hf3 := Lib.hid (Hf2.out.step hf3 (fun _ _ h => h))
        generalize cmpN (fparts p) (fparts p') = c at *
        clear hf3 hor
        go_wp2_with fail
        go_ret
        exact ⟨by rw [Hv.out]; rfl, Hf3.out⟩
      | false =>
        have Hv : Hid (rb = true) := by unfold Hid; rw [Hrb.out, ahead_tf r hg1 hg2]
        clear hg1 hg2
        go_wp2_with fail
        go_ret
        exact ⟨by rw [Hv.out]; rfl, Hf2.out⟩
    | false =>
      cases hg2 : goodPath p' with
      | true =>
        have Hv : Hid (rb = false) := by unfold Hid; rw [Hrb.out, ahead_ft r hg1 hg2]
        clear hg1 hg2
        go_wp2_with fail
        go_ret
        exact ⟨by rw [Hv.out]; rfl, Hf2.out⟩
      | false =>
        have Hv : Hid (rb = Op.bytesLess p.toList p'.toList) := by unfold Hid; rw [Hrb.out, ahead_ff r hg1 hg2]
        clear hg1 hg2
        go_wp2_with fail
        go_ret
        exact ⟨by rw [Hv.out]; rfl, Hf2.out⟩
  · have hb : (r != r') = true := by simpa using hr
    have Hd : Hid (rb = decide (r < r')) := by unfold Hid; rw [Hrb.out, ahead_ne hr]
    clear hr
    by_cases hlt : r < r'
    · have Hv : Hid (rb = true) := by unfold Hid; rw [Hd.out]; exact decide_eq_true hlt
      go_wp2_with fail
      go_ret
      exact ⟨by rw [Hv.out]; rfl, H0.out⟩
    · have Hv : Hid (rb = false) := by unfold Hid; rw [Hd.out]; exact decide_eq_false hlt
      go_wp2_with fail
      go_ret
      exact ⟨by rw [Hv.out]; rfl, H0.out⟩
end Go.Proofs.YtbblkknndaoefaaGreatDoor
namespace Go.Proofs.YtbblkknndaoefaaGreatDoor
open Go.RowKit Go.Maps
set_option linter.unusedVariables false

theorem Strs.keep {X W : World} {a : Option Addr} {cap : Nat} {l : List ByteArray} {S : Nat → Prop} (h : Strs X a cap l) (hf : Fr S X W) (hS : ∀ b, b < X.heap.size → ¬ S b) : Strs W a cap l :=
  h.fr hf (fun ad e hne => hS _ (h.cell ad e hne).2.1)

/-- A slice's block holds cells of a type. -/
def BlkT (w : World) (a : Option Addr) (T : TypeId) : Prop := ∀ ad, a = some ad → ∃ cs, w.heap[ad.block]? = some (.cells cs T (0, 0))
theorem BlkT.none (w : World) (T : TypeId) : BlkT w none T := fun _ e => by cases e
theorem own_typ {w : World} {base : Nat} {e : TypeId} {size : Nat} {a : Option Addr} {n m c : Nat} {xs : List Value} (h : w.ownsRow base e size (.slice a n c) m xs) : BlkT w a e := by
  obtain ⟨_, ⟨h1, _⟩ | ⟨g, cap, cur, h1, hg, hb, _⟩⟩ := h
  · cases h1; exact BlkT.none _ _
  · cases h1; exact fun ad e => by cases e; exact ⟨cur, hb⟩
/-- What lies in blocks of another type than the own row's block is not touched by what writes that block. -/
theorem BlkT.fr {S : Nat → Prop} {w w' : World} {a : Option Addr} {T : TypeId} (h : BlkT w a T) (hf : Fr S w w') (hS : ∀ ad, a = some ad → ¬ S ad.block) : BlkT w' a T := fun ad e => by
  obtain ⟨cs, hc⟩ := h ad e
  exact ⟨cs, hf.heap hc (hS ad e)⟩
theorem BlkT.ne {w : World} {base : Nat} {e T : TypeId} {size : Nat} {v : Value} {n : Nat} {xs : List Value} (ho : w.ownsRow base e size v n xs) {a : Option Addr} (h : BlkT w a T) (hne : T ≠ e) : ∀ ad, a = some ad → ¬ v.ownBlock = some ad.block := by
  intro ad e' hb
  obtain ⟨cs, hc⟩ := h ad e'
  obtain ⟨_, ⟨rfl, _⟩ | ⟨g, cap, cur, rfl, hg, hbl, _⟩⟩ := ho
  · cases hb
  · cases hb
    rw [hc] at hbl
    cases hbl
    exact hne rfl
theorem ownsRow_at {w w1 : World} {base : Nat} {e : TypeId} {size : Nat} {v : Value} {n : Nat} {xs : List Value} (h : w.ownsRow base e size v n xs) {S : Nat → Prop} (hf : Fr S w w1) (hS : ∀ b, v.ownBlock = some b → ¬ S b) : w1.ownsRow base e size v n xs := by
  obtain ⟨h0, ⟨rfl, h2⟩ | ⟨g, cap, cur, rfl, hg, hb, h1, h2, h3, h4⟩⟩ := h
  · exact ⟨h0, .inl ⟨rfl, h2⟩⟩
  · exact ⟨h0, .inr ⟨g, cap, cur, rfl, hg, hf.heap hb (hS g rfl), h1, h2, h3, h4⟩⟩
end Go.Proofs.YtbblkknndaoefaaGreatDoor
namespace Go.Proofs.YtbblkknndaoefaaGreatDoor
open Go.RowKit Go.Maps Go.Sort
set_option linter.unusedVariables false

def wbl (x : ByteArray) : List UInt8 := x.data.toList
def wlb (x : List UInt8) : ByteArray := ⟨x.toArray⟩
theorem wlb_wbl (x : ByteArray) : wlb (wbl x) = x := by unfold wlb wbl; simp
theorem wle_ne_lt {x y : List UInt8} (h : x ≤ y) (hne : y ≠ x) : x < y := by
  apply Classical.byContradiction
  intro hn
  exact hne (List.le_antisymm (List.not_lt.1 hn) h)
/-- A text stands before another. -/
def ltS (x y : ByteArray) : Prop := Op.bytesLess x.toList y.toList = true
theorem ltS_iff {x y : ByteArray} : ltS x y ↔ wbl x < wbl y := by
  unfold ltS
  rw [bytesLess_eq, ByteArray.toList_eq, ByteArray.toList_eq]
  unfold wbl
  simp
theorem wbl_inj {x y : ByteArray} (h : wbl x = wbl y) : x = y := by rw [← wlb_wbl x, h, wlb_wbl]
theorem ltS_trans {x y z : ByteArray} (h1 : ltS x y) (h2 : ltS y z) : ltS x z := by
  rw [ltS_iff] at *; exact List.lt_trans h1 h2
theorem ltS_irrefl (x : ByteArray) : ¬ ltS x x := by rw [ltS_iff]; exact List.lt_irrefl _
theorem ltS_of_ge {x y : ByteArray} (h : ¬ ltS x y) (hne : x ≠ y) : ltS y x := by
  rw [ltS_iff] at *
  exact wle_ne_lt (List.not_lt.1 h) (fun e => hne (wbl_inj e))
theorem ltS_le {x y z : ByteArray} (h1 : ¬ ltS y x) (h2 : ltS y z) : ltS x z := by
  rw [ltS_iff] at *
  exact List.lt_of_le_of_lt (List.not_lt.1 h1) h2

def wStep (s : ByteArray) (o : List ByteArray × Bool) (x : ByteArray) : List ByteArray × Bool :=
  let o1 := if (!o.2 && !Op.bytesLess x.toList s.toList) = true then (o.1 ++ [s], true) else o
  if (x.toList == s.toList) = true then o1 else (o1.1 ++ [x], o1.2)
def wFold (s : ByteArray) (l : List ByteArray) : List ByteArray × Bool := l.foldl (wStep s) ([], false)
/-- coldplugref32.With. -/
def with32 (l : List ByteArray) (s : ByteArray) : List ByteArray := if (wFold s l).2 = true then (wFold s l).1 else (wFold s l).1 ++ [s]
theorem wFold_snoc (s : ByteArray) (l : List ByteArray) (x : ByteArray) : wFold s (l ++ [x]) = wStep s (wFold s l) x := by
  unfold wFold; rw [List.foldl_append]; rfl
theorem wFold_take {s : ByteArray} {l : List ByteArray} {k : Nat} {x : ByteArray} (h : l[k]? = some x) : wFold s (l.take (k + 1)) = wStep s (wFold s (l.take k)) x := by
  rw [List.take_add_one, h]; exact wFold_snoc s _ x

structure SInv (s : ByteArray) (p : List ByteArray) (o : List ByteArray × Bool) : Prop where
  no : o.2 = false → o.1 = p ∧ ∀ y ∈ p, ltS y s
  yes : o.2 = true → o.1.Pairwise ltS ∧ (∀ y, y ∈ o.1 ↔ y = s ∨ y ∈ p) ∧ ∃ y ∈ p, ¬ ltS y s
theorem SInv.nil (s : ByteArray) : SInv s [] ([], false) := ⟨fun _ => ⟨rfl, by simp⟩, fun e => by cases e⟩
theorem SInv.step {s : ByteArray} {p : List ByteArray} {o : List ByteArray × Bool} {x : ByteArray} (h : SInv s p o) (hp : (p ++ [x]).Pairwise ltS) : SInv s (p ++ [x]) (wStep s o x) := by
  obtain ⟨o1, d⟩ := o
  rw [List.pairwise_append] at hp
  obtain ⟨hp1, -, hp2⟩ := hp
  have hx : ∀ y ∈ p, ltS y x := fun y hy => hp2 y hy x (by simp)
  cases d with
  | false =>
    obtain ⟨e, hlt⟩ := h.no rfl
    simp only at e
    subst e
    by_cases hxs : ltS x s
    · have hne : (x.toList == s.toList) = false := by
        rw [strEq]
        exact decide_eq_false fun e => by subst e; exact ltS_irrefl _ hxs
      have e : wStep s (o1, false) x = (o1 ++ [x], false) := by
        have : Op.bytesLess x.toList s.toList = true := hxs
        simp [wStep, this, hne]
      rw [e]
      refine ⟨fun _ => ⟨rfl, fun y hy => ?_⟩, fun e => by cases e⟩
      rcases List.mem_append.1 hy with h1 | h1
      · exact hlt y h1
      · simp at h1; subst h1; exact hxs
    · have hb : Op.bytesLess x.toList s.toList = false := by
        unfold ltS at hxs; simpa using hxs
      by_cases hne : x = s
      · subst hne
        have e : wStep x (o1, false) x = (o1 ++ [x], true) := by simp [wStep, hb]
        rw [e]
        refine ⟨(fun e => by cases e), fun _ => ⟨?_, ?_, ⟨x, by simp, hxs⟩⟩⟩
        · simp only [List.pairwise_append]; exact ⟨hp1, by simp, fun y hy z hz => by simp at hz; subst hz; exact hx y hy⟩
        · intro y
          simp only [List.mem_append, List.mem_singleton]
          exact ⟨fun h => h.elim (fun a => .inr (.inl a)) .inl, fun h => h.elim .inr (fun h => h)⟩
      · have hq : (x.toList == s.toList) = false := by rw [strEq]; exact decide_eq_false hne
        have e : wStep s (o1, false) x = (o1 ++ [s] ++ [x], true) := by simp [wStep, hb, hq]
        have hsx := ltS_of_ge hxs hne
        rw [e]
        refine ⟨(fun e => by cases e), fun _ => ⟨?_, ?_, ⟨x, by simp, hxs⟩⟩⟩
        · simp only [List.pairwise_append]
          refine ⟨⟨hp1, by simp, fun y hy z hz => by simp at hz; subst hz; exact hlt y hy⟩, by simp, fun y hy z hz => ?_⟩
          simp at hz; subst hz
          rcases List.mem_append.1 hy with h1 | h1
          · exact hx y h1
          · simp at h1; subst h1; exact hsx
        · intro y
          simp only [List.mem_append, List.mem_singleton]
          exact ⟨fun h => h.elim (fun h => h.elim (fun a => .inr (.inl a)) .inl) (fun a => .inr (.inr a)), fun h => h.elim (fun a => .inl (.inr a)) (fun h => h.elim (fun a => .inl (.inl a)) .inr)⟩
  | true =>
    obtain ⟨h1, h2, z, hz, hzs⟩ := h.yes rfl
    have hsx : ltS s x := ltS_le hzs (hx z hz)
    have hne : (x.toList == s.toList) = false := by
      rw [strEq]; exact decide_eq_false fun e => by subst e; exact ltS_irrefl _ hsx
    have e : wStep s (o1, true) x = (o1 ++ [x], true) := by simp [wStep, hne]
    rw [e]
    refine ⟨(fun e => by cases e), fun _ => ⟨?_, ?_, ⟨z, by simp [hz], hzs⟩⟩⟩
    · simp only [List.pairwise_append]
      refine ⟨h1, by simp, fun y hy z hz => ?_⟩
      simp at hz; subst hz
      rcases (h2 y).1 hy with rfl | h3
      · exact hsx
      · exact hx y h3
    · intro y
      have h4 := h2 y
      simp only [List.mem_append, List.mem_singleton]
      exact ⟨fun h => h.elim (fun a => (h4.1 a).elim .inl (fun b => .inr (.inl b))) (fun a => .inr (.inr a)), fun h => h.elim (fun a => .inl (h4.2 (.inl a))) (fun h => h.elim (fun a => .inl (h4.2 (.inr a))) .inr)⟩
theorem wFold_inv (s : ByteArray) : ∀ (q p : List ByteArray) (o : List ByteArray × Bool), (p ++ q).Pairwise ltS → SInv s p o → SInv s (p ++ q) (q.foldl (wStep s) o)
  | [], p, o, _, h => by simpa using h
  | x :: t, p, o, hp, h => by
    have e : p ++ x :: t = (p ++ [x]) ++ t := by simp
    rw [e] at hp ⊢
    exact wFold_inv s t (p ++ [x]) _ hp (h.step (List.pairwise_append.1 hp).1)
theorem with32_ok {l : List ByteArray} (s : ByteArray) (h : l.Pairwise ltS) : (with32 l s).Pairwise ltS ∧ ∀ y, y ∈ with32 l s ↔ y = s ∨ y ∈ l := by
  have hw := wFold_inv s l [] ([], false) (by simpa using h) (SInv.nil s)
  rw [List.nil_append] at hw
  change SInv s l (wFold s l) at hw
  unfold with32
  cases hd : (wFold s l).2 with
  | true => obtain ⟨h1, h2, _⟩ := hw.yes hd; simpa using ⟨h1, h2⟩
  | false =>
    obtain ⟨h1, h2⟩ := hw.no hd
    rw [h1]
    simp only [Bool.false_eq_true, if_false]
    refine ⟨?_, fun y => by simp only [List.mem_append, List.mem_singleton]; exact or_comm⟩
    rw [List.pairwise_append]
    exact ⟨h, by simp, fun y hy z hz => by simp at hz; subst hz; exact h2 y hy⟩
/-- Sorted lists of the same members are the same. -/
theorem sorted_eq : ∀ {l l' : List ByteArray}, l.Pairwise ltS → l'.Pairwise ltS → (∀ y, y ∈ l ↔ y ∈ l') → l = l'
  | [], [], _, _, _ => rfl
  | [], y :: t, _, _, h => by have := (h y).2 (by simp); simp at this
  | x :: t, [], _, _, h => by have := (h x).1 (by simp); simp at this
  | x :: t, y :: u, h1, h2, h => by
    rw [List.pairwise_cons] at h1 h2
    have hxy : x = y := by
      rcases List.mem_cons.1 ((h x).1 (by simp)) with e | hx
      · exact e
      · rcases List.mem_cons.1 ((h y).2 (by simp)) with e | hy
        · exact e.symm
        · exact absurd (ltS_trans (h1.1 y hy) (h2.1 x hx)) (ltS_irrefl _)
    subst hxy
    rw [sorted_eq h1.2 h2.2 (fun z => ?_)]
    have hz := h z
    constructor
    · intro hm
      rcases List.mem_cons.1 (hz.1 (by simp [hm])) with e | h3
      · subst e; exact absurd (h1.1 _ hm) (ltS_irrefl _)
      · exact h3
    · intro hm
      rcases List.mem_cons.1 (hz.2 (by simp [hm])) with e | h3
      · subst e; exact absurd (h2.1 _ hm) (ltS_irrefl _)
      · exact h3
theorem sorted_nodup {l : List ByteArray} (h : l.Pairwise ltS) : l.Nodup := h.imp (fun {a b} h e => by subst e; exact ltS_irrefl _ h)

theorem wStep_t {s x : ByteArray} (o : List ByteArray) (h : (x.toList == s.toList) = false) : wStep s (o, true) x = (o ++ [x], true) := by simp [wStep, h]
theorem wStep_lt {s x : ByteArray} (o : List ByteArray) (h1 : Op.bytesLess x.toList s.toList = true) (h : (x.toList == s.toList) = false) : wStep s (o, false) x = (o ++ [x], false) := by simp [wStep, h, h1]
theorem wStep_eq (s : ByteArray) (o : List ByteArray) (h1 : Op.bytesLess s.toList s.toList = false) : wStep s (o, false) s = (o ++ [s], true) := by simp [wStep, h1]
theorem wStep_gt {s x : ByteArray} (o : List ByteArray) (h1 : Op.bytesLess x.toList s.toList = false) (h : (x.toList == s.toList) = false) : wStep s (o, false) x = (o ++ [s] ++ [x], true) := by simp [wStep, h, h1]
theorem wStep_len (s : ByteArray) (o : List ByteArray × Bool) (x : ByteArray) : (wStep s o x).1.length ≤ o.1.length + 2 := by
  unfold wStep
  split <;> split <;> simp
theorem foldl_wlen (s : ByteArray) : ∀ (l : List ByteArray) (o : List ByteArray × Bool), (l.foldl (wStep s) o).1.length ≤ o.1.length + 2 * l.length
  | [], o => by simp
  | x :: t, o => by
    have h1 := foldl_wlen s t (wStep s o x)
    have h2 := wStep_len s o x
    simp only [List.foldl_cons, List.length_cons]
    omega
theorem wFold_len (s : ByteArray) (l : List ByteArray) : (wFold s l).1.length ≤ 2 * l.length := by
  have := foldl_wlen s l ([], false)
  simpa [wFold] using this
def wPot (o : List ByteArray × Bool) : Nat := o.1.length + if o.2 = true then 0 else 1
theorem wStep_pot (s : ByteArray) (o : List ByteArray × Bool) (x : ByteArray) : wPot (wStep s o x) ≤ wPot o + 1 := by
  obtain ⟨o, d⟩ := o
  unfold wStep wPot
  cases d <;> cases Op.bytesLess x.toList s.toList <;> cases (x.toList == s.toList) <;> simp
theorem foldl_pot (s : ByteArray) : ∀ (l : List ByteArray) (o : List ByteArray × Bool), wPot (l.foldl (wStep s) o) ≤ wPot o + l.length
  | [], o => by simp
  | x :: t, o => by
    have h1 := foldl_pot s t (wStep s o x)
    have h2 := wStep_pot s o x
    simp only [List.foldl_cons, List.length_cons]
    omega
theorem with32_len (l : List ByteArray) (s : ByteArray) : (with32 l s).length ≤ l.length + 1 := by
  have h : wPot (wFold s l) ≤ wPot ([], false) + l.length := foldl_pot s l ([], false)
  unfold wPot at h
  unfold with32
  cases hd : (wFold s l).2 with
  | true => simp [hd] at h ⊢; omega
  | false => simp [hd] at h ⊢; omega
theorem wFold_sinv {s : ByteArray} {l : List ByteArray} (hs : l.Pairwise ltS) : SInv s l (wFold s l) := by
  have hw := wFold_inv s l [] ([], false) (by simpa using hs) (SInv.nil s)
  rwa [List.nil_append] at hw
theorem lt_false {x y : ByteArray} (h : ¬ ltS x y) : Op.bytesLess x.toList y.toList = false := by unfold ltS at h; simpa using h
theorem ne_false {x s : ByteArray} (h : x ≠ s) : (x.toList == s.toList) = false := by rw [strEq]; exact decide_eq_false h
theorem sorted_front {l : List ByteArray} {k : Nat} {x : ByteArray} (h : l.Pairwise ltS) (hk : l[k]? = some x) : ∀ y ∈ l.take k, ltS y x := by
  intro y hy
  have h2 : (l.take (k + 1)).Pairwise ltS := List.Pairwise.sublist (List.take_sublist _ _) h
  rw [List.take_add_one, hk] at h2
  exact (List.pairwise_append.1 h2).2.2 y hy x (by simp)

set_option maxRecDepth 100000 in
set_option maxHeartbeats 4000000 in
theorem ref_with32 (a : Option Addr) (cap : Nat) (l : List ByteArray) (s : ByteArray) (w : World) (hl : Strs w a cap l) (hs : l.Pairwise ltS) (hb : l.length ≤ 1000000) :
    Calls Tryz.prog 103 #[.slice a l.length cap, .string s] w fun e w' => (∃ a' cap', e = .returned (.slice a' (with32 l s).length cap') ∧ Strs w' a' cap' (with32 l s) ∧ ∀ ad, a' = some ad → w.heap.size ≤ ad.block) ∧ Fr No w w' := by
  obtain ⟨i0, hi, hz0, hz1, hz2⟩ := info_parts infoS
  go_enter Tryz.func103, Tryz.ntmps103
  go_wp2_with fail
  go_loopw [5, 6, 7] (fun v dn i wr => ∃ (k : Nat) (m : List ByteArray) (d : Bool), k ≤ l.length ∧ i = .int .i64 (k : Int) ∧ dn = .bool d ∧ Hid (wFold s (l.take k) = (m, d)) ∧ wr.ownsRow w.heap.size 9 1 v m.length (m.map Value.string) ∧ Fr (From w.heap.size) w wr) (fun _ _ i _ => l.length - (intOf i).toNat)
  case atStart => exact ⟨0, [], false, by omega, rfl, rfl, by unfold Hid; rfl, World.ownsRow_nil _ _ _ _, Fr.refl _ _⟩
  case round =>
    obtain ⟨k, m, d, hk, rfl, rfl, HW, hown, hfr⟩ := hrel
    have hsz := hfr.size
    have hml : m.length ≤ 2000000 := by have := wFold_len s (l.take k); rw [HW.out] at this; simp at this; omega
    by_cases hlt : k < l.length
    · have hlt' : (k : Int) < l.length := by omega
      obtain ⟨b, off, x, rfl, hx, hc⟩ := (hl.keep hfr (fun b hb h => by unfold From at h; omega)).at hlt
      have hbB : ¬ From w.heap.size b := by
        have := (hl.cell _ rfl (by intro e; rw [e] at hlt; simp at hlt)).2.1
        simp only at this
        unfold From; omega
      have Hst : Hid (wFold s (l.take (k + 1)) = wStep s (m, d) x) := by unfold Hid; rw [wFold_take hx, HW.out]
      have Hin : Hid (SInv s (l.take k) (m, d)) := by unfold Hid; rw [← HW.out]; exact wFold_sinv (hs.sublist (List.take_sublist _ _))
      have Hfr : Hid (∀ y ∈ l.take k, ltS y x) := sorted_front hs hx
      clear hx
      cases d with
      | true =>
        have hne : (x.toList == s.toList) = false := by
          obtain ⟨-, -, z, hz, hzs⟩ := Hin.out.yes rfl
          exact ne_false (fun e => by subst e; exact hzs (Hfr.out z hz))
        have HW' : Hid (wFold s (l.take (k + 1)) = (m ++ [x], true)) := by unfold Hid; rw [Hst.out, wStep_t m hne]
        go_wp2_with (at_builtin; refine wpList_append_own _ rfl _ _ 33 rfl w.heap.size 9 i0 (.string ByteArray.empty) 1 16 Tryz.underlying33 hi hz0 hz1 hz2 rfl (by decide) _ _ _ rfl (hown.alloc _) ⟨wr.heap.size, 0, none⟩ 1 1 [.string x] rfl rfl (cell_one_new _ _ _) (strs_one [x]) (by unfold maxLen; omega) (by omega) (by simp; omega) ?_; intro v' w1 hown1 hgrow1 _)
        go_roundw
        case rel => exact ⟨k + 1, m ++ [x], true, by omega, by go_num, rfl, HW', by simpa using hown1, hfr.step (grown_fr hown hgrow1) (fun _ _ h => h)⟩
        case measure => simp [intOf]; omega
      | false =>
        by_cases hxs : ltS x s
        · have hne : (x.toList == s.toList) = false := ne_false (fun e => by subst e; exact ltS_irrefl _ hxs)
          have hb2 : Op.bytesLess x.toList s.toList = true := hxs
          have HW' : Hid (wFold s (l.take (k + 1)) = (m ++ [x], false)) := by unfold Hid; rw [Hst.out, wStep_lt m hb2 hne]
          have hq1 : Op.bytesLess s.toList x.toList = false := lt_false (fun h => ltS_irrefl _ (ltS_trans hxs h))
          have hq2 : (s.toList == x.toList) = false := ne_false (fun e => by subst e; exact ltS_irrefl _ hxs)
          clear hxs
          go_wp2_with (at_builtin; refine wpList_append_own _ rfl _ _ 33 rfl w.heap.size 9 i0 (.string ByteArray.empty) 1 16 Tryz.underlying33 hi hz0 hz1 hz2 rfl (by decide) _ _ _ rfl (hown.alloc _) ⟨wr.heap.size, 0, none⟩ 1 1 [.string x] rfl rfl (cell_one_new _ _ _) (strs_one [x]) (by unfold maxLen; omega) (by omega) (by simp; omega) ?_; intro v' w1 hown1 hgrow1 _)
          go_roundw
          case rel => exact ⟨k + 1, m ++ [x], false, by omega, by go_num, rfl, HW', by simpa using hown1, hfr.step (grown_fr hown hgrow1) (fun _ _ h => h)⟩
          case measure => simp [intOf]; omega
        · have hb2 := lt_false hxs
          by_cases hxe : x = s
          · subst hxe
            have hb : (x.toList == x.toList) = true := by simp
            have HW' : Hid (wFold x (l.take (k + 1)) = (m ++ [x], true)) := by unfold Hid; rw [Hst.out, wStep_eq x m hb2]
            clear hxs
            go_wp2_with (at_builtin; refine wpList_append_own _ rfl _ _ 33 rfl w.heap.size 9 i0 (.string ByteArray.empty) 1 16 Tryz.underlying33 hi hz0 hz1 hz2 rfl (by decide) _ _ _ rfl (hown.alloc _) ⟨wr.heap.size, 0, none⟩ 1 1 [.string x] rfl rfl (cell_one_new _ _ _) (strs_one [x]) (by unfold maxLen; omega) (by omega) (by simp; omega) ?_; intro v' w1 hown1 hgrow1 _; have hc1 := (grown_fr hown hgrow1).cell hc hbB)
            go_roundw
            case rel => exact ⟨k + 1, m ++ [x], true, by omega, by go_num, rfl, HW', by simpa using hown1, hfr.step (grown_fr hown hgrow1) (fun _ _ h => h)⟩
            case measure => simp [intOf]; omega
          · have hne := ne_false hxe
            have HW' : Hid (wFold s (l.take (k + 1)) = (m ++ [s] ++ [x], true)) := by unfold Hid; rw [Hst.out, wStep_gt m hb2 hne]
            have hq1 : Op.bytesLess s.toList x.toList = true := ltS_of_ge hxs hxe
            clear hxs hxe
            go_wp2_with (first
              | (at_builtin; refine wpList_append_own _ rfl (.tmp 24) (.tmp 26) 33 rfl w.heap.size 9 i0 (.string ByteArray.empty) 1 16 Tryz.underlying33 hi hz0 hz1 hz2 rfl (by decide) _ _ _ rfl (hown.alloc _) ⟨wr.heap.size, 0, none⟩ 1 1 [.string s] rfl rfl (cell_one_new _ _ _) (strs_one [s]) (by unfold maxLen; omega) (by omega) (by simp; omega) ?_; intro v' w1 hown1 hgrow1 _; have hc1 := (grown_fr hown hgrow1).cell hc hbB; have hsz1 := hgrow1.size; rw [World.size_alloc] at hsz1)
              | (at_builtin; refine wpList_append_own _ rfl (.tmp 34) (.tmp 39) 33 rfl w.heap.size 9 i0 (.string ByteArray.empty) 1 16 Tryz.underlying33 hi hz0 hz1 hz2 rfl (by decide) _ _ _ rfl (hown1.alloc _) ⟨w1.heap.size, 0, none⟩ 1 1 [.string x] rfl rfl (cell_one_new _ _ _) (strs_one [x]) (by unfold maxLen; omega) (by omega) (by simp; omega) ?_; intro v'' w2 hown2 hgrow2 _))
            go_roundw
            case rel => exact ⟨k + 1, m ++ [s] ++ [x], true, by omega, by go_num, rfl, HW', by simpa using hown2, (hfr.step (grown_fr hown hgrow1) (fun _ _ h => h)).step (grown_fr hown1 hgrow2) (fun _ _ h => h)⟩
            case measure => simp [intOf]; omega
    · have hout := HW.out
      rw [List.take_of_length_le (by omega)] at hout
      have Hout := Lib.hid hout
      clear hout
      cases d with
      | true =>
        have He : Hid (with32 l s = m) := by unfold Hid with32; rw [Hout.out]; rfl
        go_wp2_with fail
        go_ret
        obtain ⟨a', cap', hv, hI, hfresh⟩ := Strs.of_own hown
        rw [He.out]
        exact ⟨⟨a', cap', by rw [← hv]; rfl, hI, hfresh⟩, hfr.mono (fun b hb h => by unfold From at h; omega)⟩
      | false =>
        have He : Hid (with32 l s = m ++ [s]) := by unfold Hid with32; rw [Hout.out]; rfl
        go_wp2_with (at_builtin; refine wpList_append_own _ rfl _ _ 33 rfl w.heap.size 9 i0 (.string ByteArray.empty) 1 16 Tryz.underlying33 hi hz0 hz1 hz2 rfl (by decide) _ _ _ rfl (hown.alloc _) ⟨wr.heap.size, 0, none⟩ 1 1 [.string s] rfl rfl (cell_one_new _ _ _) (strs_one [s]) (by unfold maxLen; omega) (by omega) (by simp; omega) ?_; intro v' w1 hown1 hgrow1 _)
        go_ret
        have hown2 : w1.ownsRow w.heap.size 9 1 v' (m ++ [s]).length ((m ++ [s]).map Value.string) := by simpa using hown1
        obtain ⟨a', cap', hv, hI, hfresh⟩ := Strs.of_own hown2
        rw [He.out]
        exact ⟨⟨a', cap', by rw [← hv]; rfl, hI, hfresh⟩, (hfr.step (grown_fr hown hgrow1) (fun _ _ h => h)).mono (fun b hb h => by unfold From at h; omega)⟩
end Go.Proofs.YtbblkknndaoefaaGreatDoor
namespace Go.Proofs.YtbblkknndaoefaaGreatDoor
open Go.RowKit Go.Maps
set_option linter.unusedVariables false

structure Mems (w : World) (a : Option Addr) (cap : Nat) (L : List Mem) : Prop where
  len : L.length ≤ cap
  max : cap ≤ maxLen
  isNil : a = none → L = [] ∧ cap = 0
  ok : ∀ m ∈ L, Strs w m.a m.c m.l
  cell : ∀ ad, a = some ad → L ≠ [] → ad.spot = none ∧ ad.block < w.heap.size ∧ ∀ i m, L[i]? = some m → ∀ j, j < 7 → w.cell? ⟨ad.block, ad.off + (i * 7 + j), none⟩ = m.vals[j]?
/-- The seven cells of a member at (b, o). -/
structure MemAt (w : World) (b o : Nat) (m : Mem) : Prop where
  c0 : w.cell? ⟨b, o, none⟩ = some (.string m.p)
  c1 : w.cell? ⟨b, o + 1, none⟩ = some (.string m.i)
  c2 : w.cell? ⟨b, o + 2, none⟩ = some (.int .i64 m.r)
  c3 : w.cell? ⟨b, o + 3, none⟩ = some (.int .i64 m.s)
  c4 : w.cell? ⟨b, o + 4, none⟩ = some (.int .i64 m.t)
  c5 : w.cell? ⟨b, o + 5, none⟩ = some (.int .i64 m.e)
  c6 : w.cell? ⟨b, o + 6, none⟩ = some (.slice m.a m.l.length m.c)
theorem Mems.elem {w : World} {a : Option Addr} {cap : Nat} {L : List Mem} (h : Mems w a cap L) {k : Nat} (hk : k < L.length) :
    ∃ b off m, a = some ⟨b, off, none⟩ ∧ L[k]? = some m ∧ Strs w m.a m.c m.l ∧ MemAt w b (off + k * 7) m ∧ b < w.heap.size := by
  cases a with
  | none => obtain ⟨rfl, _⟩ := h.isNil rfl; simp at hk
  | some ad =>
    obtain ⟨b, off, sp⟩ := ad
    obtain ⟨h1, h2, h3⟩ := h.cell _ rfl (by intro e; subst e; simp at hk)
    simp at h1; subst h1
    have hc := h3 k _ (List.getElem?_eq_getElem hk)
    exact ⟨b, off, L[k], rfl, List.getElem?_eq_getElem hk, h.ok _ (List.getElem_mem hk), ⟨hc 0 (by omega), hc 1 (by omega), hc 2 (by omega), hc 3 (by omega), hc 4 (by omega), hc 5 (by omega), hc 6 (by omega)⟩, h2⟩
theorem Mems.lenmax {w : World} {a : Option Addr} {cap : Nat} {L : List Mem} (h : Mems w a cap L) : L.length ≤ 9223372036854775807 := by
  have h1 := h.len; have h2 := h.max; unfold maxLen at h2; omega
theorem Mems.fr {S : Nat → Prop} {w w' : World} {a : Option Addr} {cap : Nat} {L : List Mem} (h : Mems w a cap L) (hf : Fr S w w') (hS : ∀ ad, a = some ad → L ≠ [] → ¬ S ad.block) (hM : ∀ m ∈ L, ∀ ad, m.a = some ad → m.l ≠ [] → ¬ S ad.block) : Mems w' a cap L :=
  ⟨h.len, h.max, h.isNil, fun m hm => (h.ok m hm).fr hf (hM m hm), fun ad e hne => by
    obtain ⟨h1, h2, h3⟩ := h.cell ad e hne
    refine ⟨h1, Nat.lt_of_lt_of_le h2 hf.size, fun i m hi j hj => ?_⟩
    rw [← h3 i m hi j hj]
    exact World.cell?_of_block (hf.block _ h2 (hS ad e hne))⟩
theorem Mems.no {S : Nat → Prop} {w w' : World} {a : Option Addr} {cap : Nat} {L : List Mem} (h : Mems w a cap L) (hf : Fr S w w') (hS : ∀ k, ¬ S k) : Mems w' a cap L := h.fr hf (fun _ _ _ => hS _) (fun _ _ _ _ _ => hS _)
theorem Mems.keep {S : Nat → Prop} {w w' : World} {a : Option Addr} {cap : Nat} {L : List Mem} (h : Mems w a cap L) (hf : Fr S w w') (hS : ∀ b, b < w.heap.size → ¬ S b) : Mems w' a cap L :=
  h.fr hf (fun ad e hne => hS _ (h.cell ad e hne).2.1) (fun m hm ad e hne => hS _ ((h.ok m hm).cell ad e hne).2.1)
theorem Mems.nil (w : World) : Mems w none 0 [] := ⟨by simp, by simp, fun _ => ⟨rfl, rfl⟩, by simp, fun _ e _ => by cases e⟩
theorem infoM : (Tryz.prog.info? 58).map (fun i => (i.zero, i.size, i.bytes)) = some (some (.agg #[.string ByteArray.empty, .string ByteArray.empty, .int .i64 0, .int .i64 0, .int .i64 0, .int .i64 0, .slice none 0 0]), 7, 88) := by kernel_rfl
def mflat (L : List Mem) : List Value := L.flatMap (fun m => m.vals.toList)
theorem mflat_snoc (L : List Mem) (m : Mem) : mflat (L ++ [m]) = mflat L ++ m.vals.toList := by simp [mflat]
theorem mvals_one (m : Mem) : ∀ u ∈ m.vals.toList, u.oneCell' = true := by
  intro u hu
  simp [Mem.vals] at hu
  rcases hu with rfl | rfl | rfl | rfl | rfl | rfl | rfl <;> rfl
theorem mflat_at : ∀ (L : List Mem) (i : Nat) (m : Mem), L[i]? = some m → ∀ j, j < 7 → (mflat L)[i * 7 + j]? = m.vals[j]?
  | [], i, m, h, j, hj => by simp at h
  | x :: t, 0, m, h, j, hj => by
    simp at h; subst h
    have : mflat (x :: t) = x.vals.toList ++ mflat t := by simp [mflat]
    rw [this, List.getElem?_append_left (by simp [Mem.vals]; omega)]
    simp
  | x :: t, i + 1, m, h, j, hj => by
    have : mflat (x :: t) = x.vals.toList ++ mflat t := by simp [mflat]
    rw [this, List.getElem?_append_right (by simp [Mem.vals]; omega), show (i + 1) * 7 + j - x.vals.toList.length = i * 7 + j from by simp [Mem.vals]; omega]
    exact mflat_at t i m (by simpa using h) j hj
theorem mflat_len (L : List Mem) : (mflat L).length = L.length * 7 := by
  induction L with
  | nil => rfl
  | cons d t ih =>
    have : mflat (d :: t) = d.vals.toList ++ mflat t := by simp [mflat]
    rw [this, List.length_append, ih]
    simp [Mem.vals]; omega
theorem Mems.of_own {w : World} {base : Nat} {e : TypeId} {v : Value} {L : List Mem} (h : w.ownsRow base e 7 v L.length (mflat L)) (hok : ∀ m ∈ L, Strs w m.a m.c m.l) :
    ∃ a cap, v = .slice a L.length cap ∧ Mems w a cap L ∧ ∀ ad, a = some ad → base ≤ ad.block := by
  obtain ⟨_, ⟨rfl, h2⟩ | ⟨g, cap, cur, rfl, hg, hb, h1, h2, h3, h4⟩⟩ := h
  · have : L = [] := List.eq_nil_of_length_eq_zero h2
    subst this
    exact ⟨none, 0, rfl, Mems.nil w, fun _ e => by cases e⟩
  · refine ⟨some ⟨g, 0, none⟩, cap, rfl, ⟨h1, h2, (fun e => by cases e), hok, ?_⟩, fun ad e => by cases e; exact hg⟩
    intro ad e hne
    cases e
    refine ⟨rfl, lt_of_block hb, fun i m hi j hj => ?_⟩
    rw [cell_of_block hb]
    simp only [Nat.zero_add]
    have hlt : i < L.length := (List.getElem?_eq_some_iff.1 hi).1
    have e1 : (cur.toList.take (L.length * 7))[i * 7 + j]? = (mflat L)[i * 7 + j]? := by rw [h4]
    rw [List.getElem?_take_of_lt (by omega), mflat_at L i m hi j hj] at e1
    rw [← Array.getElem?_toList, e1]
theorem Mems.of_block {w : World} {b : Nat} {L : List Mem} {T : TypeId} {fz : Nat × Nat} (h : w.heap[b]? = some (.cells (mflat L).toArray T fz)) (hm : L.length ≤ maxLen) (hok : ∀ m ∈ L, Strs w m.a m.c m.l) : Mems w (some ⟨b, 0, none⟩) L.length L := by
  refine ⟨Nat.le_refl _, hm, (fun e => by cases e), hok, fun ad e hne => ?_⟩
  cases e
  refine ⟨rfl, lt_of_block h, fun i m hi j hj => ?_⟩
  rw [cell_of_block h]
  simp only [Nat.zero_add]
  rw [← mflat_at L i m hi j hj]
  simp
/-- Members of the call's own: their inner texts lie in new blocks of texts. -/
def MFresh (w : World) (base : Nat) (L : List Mem) : Prop := ∀ m ∈ L, Strs w m.a m.c m.l ∧ BlkT w m.a 9 ∧ ∀ ad, m.a = some ad → base ≤ ad.block
theorem MFresh.fr {S : Nat → Prop} {w w' : World} {base : Nat} {L : List Mem} (h : MFresh w base L) (hf : Fr S w w') (hS : ∀ b, base ≤ b → b < w.heap.size → ¬ S b) : MFresh w' base L := fun m hm => by
  obtain ⟨h1, h2, h3⟩ := h m hm
  have hk : ∀ ad, m.a = some ad → ¬ S ad.block := fun ad e => by obtain ⟨cs, hc⟩ := h2 ad e; exact hS _ (h3 ad e) (lt_of_block hc)
  exact ⟨h1.fr hf (fun ad e _ => hk ad e), h2.fr hf hk, h3⟩
theorem MFresh.own {w w' : World} {base b0 : Nat} {L : List Mem} {v : Value} {n : Nat} {xs : List Value} (h : MFresh w base L) (ho : w.ownsRow b0 58 7 v n xs) (hf : Fr (fun b => v.ownBlock = some b) w w') : MFresh w' base L := fun m hm => by
  obtain ⟨h1, h2, h3⟩ := h m hm
  have hk := BlkT.ne ho h2 (by decide)
  exact ⟨h1.fr hf (fun ad e _ => hk ad e), h2.fr hf hk, h3⟩
theorem MFresh.snoc {w : World} {base : Nat} {L : List Mem} {m : Mem} (h : MFresh w base L) (h1 : Strs w m.a m.c m.l) (h2 : BlkT w m.a 9) (h3 : ∀ ad, m.a = some ad → base ≤ ad.block) : MFresh w base (L ++ [m]) := fun x hx => by
  rcases List.mem_append.1 hx with hx | hx
  · exact h x hx
  · obtain rfl : x = m := by simpa using hx
    exact ⟨h1, h2, h3⟩
end Go.Proofs.YtbblkknndaoefaaGreatDoor
