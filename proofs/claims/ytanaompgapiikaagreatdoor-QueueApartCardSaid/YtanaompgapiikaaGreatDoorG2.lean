/- tree.Find. -/
import Derived.Test.YtanaompgapiikaaGreatDoorT5
import Derived.Test.YtanaompgapiikaaGreatDoorT2
import Derived.Test.YtanaompgapiikaaGreatDoorT8
import Derived.Test.YtanaompgapiikaaGreatDoorD1
import Derived.Deep.DeepCutAuto
import Derived.Lib.SliceRun
namespace Go.Proofs.YtanaompgapiikaaGreatDoor
open Go.RowKit Go.Maps
set_option linter.unusedVariables false

set_option maxHeartbeats 400000 in
theorem find_eq (d : Dev) (b : Nat) (n : Int) (w : World) (hb : w.cell? ⟨b, 0, none⟩ = some (.int .i64 n)) :
    Calls Tryz.prog 125 #[.agg d.vals, .pointer (some ⟨b, 0, none⟩)] w fun e w' => e = .returned (.bool (d.index == n)) ∧ Fr No w w' := by
  have hx : Fr No w (w.alloc (.cells d.vals 36)) := (Fr.refl _ _).alloc _
  have hbx := hx.cell hb id
  clear hb
  unfold Dev.vals at *
  go_enter Tryz.func125, Tryz.ntmps125
  go_wp2_with fail
  go_ret
  exact ⟨rfl, hx⟩

set_option maxHeartbeats 1000000 in
theorem find_index (a : Option Addr) (cap : Nat) (ds : List Dev) (b : Nat) (n : Int) (w : World) (hl : Devs w a cap ds) (hb : w.cell? ⟨b, 0, none⟩ = some (.int .i64 n)) :
    Calls Tryz.prog 114 #[.slice a ds.length cap, .func (.func 125) #[] #[.pointer (some ⟨b, 0, none⟩)]] w fun e w' => e = .returned (.int .i64 (place ds n)) ∧ Fr No w w' := by
  have hm := hl.lenmax
  go_enter Tryz.func114, Tryz.ntmps114
  go_wp2_with fail
  go_loopw [8] (fun i wr => ∃ k : Nat, k ≤ ds.length ∧ i = .int .i64 k ∧ Hid (∀ x ∈ ds.take k, x.index ≠ n) ∧ Fr No w wr) (fun i _ => ds.length - (intOf i).toNat)
  case atStart => exact ⟨0, by omega, rfl, by unfold Hid; simp, Fr.refl _ _⟩
  case round =>
    obtain ⟨k, hk, rfl, hno, hfr⟩ := hrel
    by_cases hlt : k < ds.length
    · have hlt' : (k : Int) < ds.length := by omega
      obtain ⟨bb, off, d, rfl, hd, c0, c1, c2, c3, c4, c5, c6, c7, c8, c9⟩ := (hl.no hfr (fun _ => id)).dev hlt
      have Hd := Lib.hid hd
      clear hd
      go_wp2_with fail
      refine (find_eq d b n _ (hfr.cell hb id)).mono ?_
      rintro e w1 ⟨rfl, hf1⟩
      have hfr1 := hfr.step hf1 (fun _ _ h => h)
      clear c0 c1 c2 c3 c4 c5 c6 c7 c8 c9
      by_cases hxn : d.index = n
      · have hbt : (d.index == n) = true := by simpa using hxn
        have Hxn := Lib.hid hxn
        clear hxn
        go_wp2_with fail
        go_ret
        exact ⟨ret_int (place_take ds n k d Hd.out Hxn.out hno.out).symm, hfr1⟩
      · have hbt : (d.index == n) = false := by simpa using hxn
        have Hxn := Lib.hid hxn
        clear hxn
        go_wp2_with fail
        go_roundw
        case rel =>
          refine ⟨k + 1, by omega, by go_num, ?_, hfr1⟩
          unfold Hid
          intro x hx
          rw [List.take_add_one, Hd.out] at hx
          rcases List.mem_append.1 hx with h | h
          · exact hno.out x h
          · simp at h; subst h; exact Hxn.out
        case measure => simp [intOf]; omega
    · obtain rfl : k = ds.length := by omega
      have h := hno.out
      rw [List.take_of_length_le (by omega)] at h
      have Hp : Hid (place ds n = -1) := place_none _ _ h
      clear h
      go_wp2_with fail
      go_ret
      exact ⟨ret_int Hp.out.symm, hfr⟩

theorem eql_nil (W : World) (a : Option Addr) (n c : Nat) : (binOp .eql 34 (.slice a n c) (.slice none 0 0)).run Tryz.prog W = .ok (.bool a.isNone) W := Lib.run_eql_slice_nil W 34 156 a n c 0 0 Tryz.underlying34
theorem infoA : (Tryz.prog.info? 156).map (fun i => (i.zero, i.size, i.bytes)) = some (some (.agg #[.string ByteArray.empty, .string ByteArray.empty]), 2, 32) := by kernel_rfl

def aflat (l : List (ByteArray × ByteArray)) : List Value := l.flatMap (fun x => [.string x.1, .string x.2])
theorem aflat_len (l : List (ByteArray × ByteArray)) : (aflat l).length = l.length * 2 := by
  induction l with
  | nil => rfl
  | cons d t ih =>
    have : aflat (d :: t) = [.string d.1, .string d.2] ++ aflat t := by simp [aflat]
    rw [this, List.length_append, ih]
    simp; omega
theorem aflat_at : ∀ (l : List (ByteArray × ByteArray)) (i : Nat) (x : ByteArray × ByteArray), l[i]? = some x → (aflat l)[i * 2]? = some (.string x.1) ∧ (aflat l)[i * 2 + 1]? = some (.string x.2)
  | [], i, d, h => by simp at h
  | y :: t, 0, x, h => by
    simp at h; subst h
    exact ⟨rfl, rfl⟩
  | y :: t, i + 1, x, h => by
    have e : aflat (y :: t) = .string y.1 :: .string y.2 :: aflat t := by simp [aflat]
    have h1 := aflat_at t i x (by simpa using h)
    rw [e, show (i + 1) * 2 = i * 2 + 1 + 1 from by omega]
    exact h1
theorem aflat_inv (l : List (ByteArray × ByteArray)) (j : Nat) (u : Value) (h : (aflat l)[j]? = some u) : ∃ i x, l[i]? = some x ∧ ((j = i * 2 ∧ u = .string x.1) ∨ (j = i * 2 + 1 ∧ u = .string x.2)) := by
  have hlt : j < (aflat l).length := (List.getElem?_eq_some_iff.1 h).1
  rw [aflat_len] at hlt
  have hi : j / 2 < l.length := by omega
  have h1 := aflat_at l (j / 2) l[j / 2] (List.getElem?_eq_getElem hi)
  refine ⟨j / 2, l[j / 2], List.getElem?_eq_getElem hi, ?_⟩
  rcases (by omega : j = j / 2 * 2 ∨ j = j / 2 * 2 + 1) with e | e
  · left; refine ⟨e, ?_⟩
    rw [e, h1.1] at h; exact (Option.some.inj h).symm
  · right; refine ⟨e, ?_⟩
    rw [e, h1.2] at h; exact (Option.some.inj h).symm
theorem aflat_one (l : List (ByteArray × ByteArray)) : ∀ u ∈ aflat l, u.oneCell' = true := by
  intro u hu
  obtain ⟨x, _, hu⟩ := List.mem_flatMap.1 hu
  simp at hu
  rcases hu with rfl | rfl <;> rfl
theorem Atts.src {W : World} {a : Option Addr} {cap : Nat} {l : List (ByteArray × ByteArray)} (h : Atts W a cap l) : ∀ ad, a = some ad → ∀ j u, (aflat l)[j]? = some u → W.cell? (ad.add j) = some u := by
  intro ad e j u hu
  obtain ⟨i, x, hx, hj⟩ := aflat_inv _ _ _ hu
  obtain ⟨h1, _, h3⟩ := h.cell ad e (by intro e; subst e; simp at hx)
  obtain ⟨b, o, sp⟩ := ad
  simp only at h1; subst h1
  have h4 := h3 i x hx
  rw [Addr.add_lit]
  rcases hj with ⟨rfl, rfl⟩ | ⟨rfl, rfl⟩
  · exact h4.1
  · exact h4.2
theorem Atts.of_own {w : World} {base : Nat} {e : TypeId} {v : Value} {l : List (ByteArray × ByteArray)} (h : w.ownsRow base e 2 v l.length (aflat l)) (hw : ∀ x ∈ l, x.1.size ≤ maxLen ∧ x.2.size ≤ maxLen) :
    ∃ a cap, v = .slice a l.length cap ∧ Atts w a cap l ∧ ∀ ad, a = some ad → base ≤ ad.block := by
  obtain ⟨_, ⟨rfl, h2⟩ | ⟨g, cap, cur, rfl, hg, hb, h1, h2, h3, h4⟩⟩ := h
  · have : l = [] := List.eq_nil_of_length_eq_zero h2
    subst this
    exact ⟨none, 0, rfl, Atts.nil w, fun _ e => by cases e⟩
  · refine ⟨some ⟨g, 0, none⟩, cap, rfl, ⟨h1, h2, (fun e => by cases e), hw, ?_⟩, fun ad e => by cases e; exact hg⟩
    intro ad e hne
    cases e
    refine ⟨rfl, lt_of_block hb, fun i x hi => ?_⟩
    have hlt : i < l.length := (List.getElem?_eq_some_iff.1 hi).1
    have h5 := aflat_at l i x hi
    rw [cell_of_block hb, cell_of_block hb]
    simp only [Nat.zero_add]
    rw [← Array.getElem?_toList, ← Array.getElem?_toList]
    have e1 : ∀ j, j < l.length * 2 → cur.toList[j]? = (aflat l)[j]? := fun j hj => by
      rw [← h4, List.getElem?_take_of_lt hj]
    rw [e1 _ (by omega), e1 _ (by omega)]
    exact h5

set_option maxRecDepth 100000 in
set_option maxHeartbeats 1000000 in
theorem attrs_clone (a : Option Addr) (cap : Nat) (l : List (ByteArray × ByteArray)) (w : World) (hl : Atts w a cap l) (hb : l.length ≤ 1000000) :
    Calls Tryz.prog 160 #[.slice a l.length cap] w fun e w' => (∃ a' c', e = .returned (.slice a' l.length c') ∧ Atts w' a' c' l ∧ ∀ ad, a' = some ad → w.heap.size ≤ ad.block) ∧ Fr No w w' := by
  obtain ⟨i0, hi, hz0, hz1, hz2⟩ := info_parts infoA
  cases a with
  | none =>
    obtain ⟨rfl, rfl⟩ := hl.isNil rfl
    have hq := eql_nil
    go_enter Tryz.func160, Tryz.ntmps160
    go_wp2_with fail
    go_ret
    exact ⟨⟨none, 0, rfl, Atts.nil _, fun _ e => by cases e⟩, Fr.refl _ _⟩
  | some ad =>
    have hx : Fr No w (w.alloc (.cells #[] 156)) := (Fr.refl _ _).alloc _
    have hlx := hl.no hx (fun _ => id)
    have hq := eql_nil
    go_enter Tryz.func160, Tryz.ntmps160
    have own0 : (w.alloc (.cells #[] 156)).ownsRow w.heap.size 156 2 (.slice (some ⟨w.heap.size, 0, none⟩) 0 0) 0 [] :=
      ⟨rfl, .inr ⟨w.heap.size, 0, #[], rfl, Nat.le_refl _, block_alloc _ _, Nat.le_refl _, by unfold maxLen; omega, rfl, rfl⟩⟩
    go_wp2_with (at_builtin; refine wpList_append_src rfl _ _ 34 rfl w.heap.size 156 i0 (.agg #[.string ByteArray.empty, .string ByteArray.empty]) 2 32 Tryz.underlying34 hi hz0 hz1 hz2 rfl (by decide) _ 0 [] rfl own0 (some ad) l.length _ (aflat l) rfl (fun e => by cases e) (aflat_len l) (fun ad' e => hlx.src ad' e) (aflat_one l) (by unfold maxLen; omega) (by omega) (by simp) ?_; intro v' w1 own1 gr1)
    go_ret
    simp only [Nat.zero_add, List.nil_append] at own1
    obtain ⟨a', c', hv, h1, h2⟩ := Atts.of_own own1 hl.wf
    exact ⟨⟨a', c', by rw [← hv]; rfl, h1, h2⟩, ((Fr.refl No w).alloc _).step (own_fr own0 gr1) (fun b hb h => by unfold From at h; omega)⟩

set_option maxRecDepth 100000 in
set_option maxHeartbeats 1000000 in
/-- The copy of a device: its attributes lie in new memory. -/
theorem dev_copied (d : Dev) (l : List (ByteArray × ByteArray)) (w : World) (hl : Atts w d.aa d.ac l) (han : d.an = l.length) (hb : l.length ≤ 1000000) :
    Calls Tryz.prog 116 #[.agg d.vals] w fun e w' => (∃ a' c', e = .returned (.agg ({ d with aa := a', ac := c' } : Dev).vals) ∧ Atts w' a' c' l ∧ ∀ ad, a' = some ad → w.heap.size ≤ ad.block) ∧ Fr No w w' := by
  obtain ⟨ix, pa, nm, og, sb, dr, al, kd, nu, aa, an, ac⟩ := d
  dsimp only at han hl
  subst han
  have hx : Fr No w ((w.alloc (.cells #[.int .i64 ix, .int .i64 pa, .string nm, .string og, .string sb, .string dr, .string al, .int .i64 kd, .int .i64 nu, .slice aa l.length ac] 36)).alloc (.cells #[.int .i64 0, .int .i64 0, .string ⟨#[]⟩, .string ⟨#[]⟩, .string ⟨#[]⟩, .string ⟨#[]⟩, .string ⟨#[]⟩, .int .i64 0, .int .i64 0, .slice none 0 0] 36)) := ((Fr.refl _ _).alloc _).alloc _
  have q0 := block_alloc1 w (.cells #[.int .i64 ix, .int .i64 pa, .string nm, .string og, .string sb, .string dr, .string al, .int .i64 kd, .int .i64 nu, .slice aa l.length ac] 36) (.cells #[.int .i64 0, .int .i64 0, .string ⟨#[]⟩, .string ⟨#[]⟩, .string ⟨#[]⟩, .string ⟨#[]⟩, .string ⟨#[]⟩, .int .i64 0, .int .i64 0, .slice none 0 0] 36)
  have q1 := block_alloc2 w (.cells #[.int .i64 ix, .int .i64 pa, .string nm, .string og, .string sb, .string dr, .string al, .int .i64 kd, .int .i64 nu, .slice aa l.length ac] 36) (.cells #[.int .i64 0, .int .i64 0, .string ⟨#[]⟩, .string ⟨#[]⟩, .string ⟨#[]⟩, .string ⟨#[]⟩, .string ⟨#[]⟩, .int .i64 0, .int .i64 0, .slice none 0 0] 36)
  show Calls Tryz.prog 116 #[.agg #[.int .i64 ix, .int .i64 pa, .string nm, .string og, .string sb, .string dr, .string al, .int .i64 kd, .int .i64 nu, .slice aa l.length ac]] w _
  go_enter Tryz.func116, Tryz.ntmps116
  go_upto_region 1 with (fail)
  have hW2 : w.heap.size + 2 ≤ ((w.alloc (.cells #[.int .i64 ix, .int .i64 pa, .string nm, .string og, .string sb, .string dr, .string al, .int .i64 kd, .int .i64 nu, .slice aa l.length ac] 36)).alloc (.cells #[.int .i64 0, .int .i64 0, .string ⟨#[]⟩, .string ⟨#[]⟩, .string ⟨#[]⟩, .string ⟨#[]⟩, .string ⟨#[]⟩, .int .i64 0, .int .i64 0, .slice none 0 0] 36)).heap.size := by simp
  generalize (w.alloc (.cells #[.int .i64 ix, .int .i64 pa, .string nm, .string og, .string sb, .string dr, .string al, .int .i64 kd, .int .i64 nu, .slice aa l.length ac] 36)).alloc (.cells #[.int .i64 0, .int .i64 0, .string ⟨#[]⟩, .string ⟨#[]⟩, .string ⟨#[]⟩, .string ⟨#[]⟩, .string ⟨#[]⟩, .int .i64 0, .int .i64 0, .slice none 0 0] 36) = W0 at *
  have c9 : W0.cell? ⟨w.heap.size, 9, none⟩ = some (.slice aa l.length ac) := cell_of_block q0 9
  have hW0 : w.heap.size ≤ W0.heap.size := hx.size
  go_wp2_with fail
  refine (attrs_clone aa ac l _ (hl.no hx (fun _ => id)) hb).mono ?_
  rintro e w1 ⟨⟨a', c', rfl, hA, hfresh⟩, hf1⟩
  have p0 := hf1.heap q0 id
  have p1 := hf1.heap q1 id
  clear c9 q0 q1
  have c9 : w1.cell? ⟨w.heap.size, 9, none⟩ = some (.slice aa l.length ac) := cell_of_block p0 9
  have f9 : w1.frozen? ⟨w.heap.size, 9, none⟩ = false := free_of_block p0 9
  go_upto_region 2 with (fail)
  have hx1 : Fr (Is w.heap.size) w1 (w1.setCell ⟨w.heap.size, 9, none⟩ (.slice a' l.length c')) := Fr.setAt (Fr.refl _ _) _
  have r0 := block_setCell p0 9 (.slice a' l.length c')
  have r1 := hx1.heap p1 (fun e => by unfold Is at e; omega)
  have hA1 := hA.fr hx1 (fun ad e _ h => by have := hfresh ad e; unfold Is at h; omega)
  clear p0 p1 c9 f9
  generalize w1.setCell ⟨w.heap.size, 9, none⟩ (.slice a' l.length c') = W1 at *
  have c0 : W1.cell? ⟨w.heap.size, 0, none⟩ = some (.int .i64 ix) := cell_of_block r0 0
  have c1 : W1.cell? ⟨w.heap.size, 1, none⟩ = some (.int .i64 pa) := cell_of_block r0 1
  have c2 : W1.cell? ⟨w.heap.size, 2, none⟩ = some (.string nm) := cell_of_block r0 2
  have c3 : W1.cell? ⟨w.heap.size, 3, none⟩ = some (.string og) := cell_of_block r0 3
  have c4 : W1.cell? ⟨w.heap.size, 4, none⟩ = some (.string sb) := cell_of_block r0 4
  have c5 : W1.cell? ⟨w.heap.size, 5, none⟩ = some (.string dr) := cell_of_block r0 5
  have c6 : W1.cell? ⟨w.heap.size, 6, none⟩ = some (.string al) := cell_of_block r0 6
  have c7 : W1.cell? ⟨w.heap.size, 7, none⟩ = some (.int .i64 kd) := cell_of_block r0 7
  have c8 : W1.cell? ⟨w.heap.size, 8, none⟩ = some (.int .i64 nu) := cell_of_block r0 8
  have c9 : W1.cell? ⟨w.heap.size, 9, none⟩ = some (.slice a' l.length c') := cell_of_block r0 9
  have z0 : W1.cell? ⟨w.heap.size + 1, 0, none⟩ = some (.int .i64 0) := cell_of_block r1 0
  have z1 : W1.cell? ⟨w.heap.size + 1, 1, none⟩ = some (.int .i64 0) := cell_of_block r1 1
  have z2 : W1.cell? ⟨w.heap.size + 1, 2, none⟩ = some (.string ⟨#[]⟩) := cell_of_block r1 2
  have z3 : W1.cell? ⟨w.heap.size + 1, 3, none⟩ = some (.string ⟨#[]⟩) := cell_of_block r1 3
  have z4 : W1.cell? ⟨w.heap.size + 1, 4, none⟩ = some (.string ⟨#[]⟩) := cell_of_block r1 4
  have z5 : W1.cell? ⟨w.heap.size + 1, 5, none⟩ = some (.string ⟨#[]⟩) := cell_of_block r1 5
  have z6 : W1.cell? ⟨w.heap.size + 1, 6, none⟩ = some (.string ⟨#[]⟩) := cell_of_block r1 6
  have z7 : W1.cell? ⟨w.heap.size + 1, 7, none⟩ = some (.int .i64 0) := cell_of_block r1 7
  have z8 : W1.cell? ⟨w.heap.size + 1, 8, none⟩ = some (.int .i64 0) := cell_of_block r1 8
  have z9 : W1.cell? ⟨w.heap.size + 1, 9, none⟩ = some (.slice none 0 0) := cell_of_block r1 9
  have y0 : W1.frozen? ⟨w.heap.size + 1, 0, none⟩ = false := free_of_block r1 0
  have y1 : W1.frozen? ⟨w.heap.size + 1, 1, none⟩ = false := free_of_block r1 1
  have y2 : W1.frozen? ⟨w.heap.size + 1, 2, none⟩ = false := free_of_block r1 2
  have y3 : W1.frozen? ⟨w.heap.size + 1, 3, none⟩ = false := free_of_block r1 3
  have y4 : W1.frozen? ⟨w.heap.size + 1, 4, none⟩ = false := free_of_block r1 4
  have y5 : W1.frozen? ⟨w.heap.size + 1, 5, none⟩ = false := free_of_block r1 5
  have y6 : W1.frozen? ⟨w.heap.size + 1, 6, none⟩ = false := free_of_block r1 6
  have y7 : W1.frozen? ⟨w.heap.size + 1, 7, none⟩ = false := free_of_block r1 7
  have y8 : W1.frozen? ⟨w.heap.size + 1, 8, none⟩ = false := free_of_block r1 8
  have y9 : W1.frozen? ⟨w.heap.size + 1, 9, none⟩ = false := free_of_block r1 9
  have h10 := set10 r1 rfl ⟨ix, pa, nm, og, sb, dr, al, kd, nu, a', l.length, c'⟩
  have hfin : Hid _ := And.intro (hA1.fr h10.2 (fun ad e _ h => by have := hfresh ad e; unfold Is at h; omega)) ((((hx.step hf1 (fun _ _ h => h)).step hx1 (fun b hb e => by unfold Is at e; omega)).step h10.2 (fun b hb e => by unfold Is at e; omega)))
  clear h10 hA1 hA r0 r1 hx1
  go_wp2_with fail
  refine bodyPost_ret (v := .agg #[.int .i64 ix, .int .i64 pa, .string nm, .string og, .string sb, .string dr, .string al, .int .i64 kd, .int .i64 nu, .slice a' l.length c']) (by simp [results, Tryz.results116, go_sem, z0, z1, z2, z3, z4, z5, z6, z7, z8, z9]) rfl ?_
  exact ⟨⟨a', c', rfl, hfin.out.1, fun ad e => by have := hfresh ad e; omega⟩, hfin.out.2⟩
end Go.Proofs.YtanaompgapiikaaGreatDoor
