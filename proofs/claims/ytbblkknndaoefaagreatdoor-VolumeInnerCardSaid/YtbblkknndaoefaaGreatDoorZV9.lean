/- Contents in memory; the parser's inner and content. -/
import Derived.Test.YtbblkknndaoefaaGreatDoorZV8
import Derived.Test.YtbblkknndaoefaaGreatDoorZV6
namespace Go.Proofs.YtbblkknndaoefaaGreatDoor
open Go.RowKit Go.Maps
set_option linter.unusedVariables false

/-- The values vs read in w as the content c; all blocks that it lies in are of X. -/
inductive CAt (w : World) (X : Nat → Prop) : Array Value → Ct → Prop
  | mk (k : Int) (i l : ByteArray) (s t e : Int) (n : List Ct) (a : Option Addr) (cap : Nat) (vs : Nat → Array Value)
    (h1 : n.length ≤ cap) (h2 : cap ≤ maxLen) (h3 : a = none → n = [] ∧ cap = 0)
    (h4 : ∀ ad, a = some ad → n ≠ [] → ad.spot = none ∧ ad.block < w.heap.size ∧ X ad.block)
    (h5 : ∀ ad j d, a = some ad → n[j]? = some d → ∀ q, q < 7 → w.cell? ⟨ad.block, ad.off + (j * 7 + q), none⟩ = (vs j)[q]?)
    (h6 : ∀ j d, n[j]? = some d → CAt w X (vs j) d) :
    CAt w X #[.int .i64 k, .string i, .string l, .int .i64 s, .int .i64 t, .int .i64 e, .slice a n.length cap] (.mk k i l s t e n)
theorem CAt.fr {w w' : World} {X S : Nat → Prop} {vs : Array Value} {c : Ct} (h : CAt w X vs c) (hf : Fr S w w') (hS : ∀ b, X b → ¬ S b) : CAt w' X vs c := by
  induction h with
  | mk k i l s t e n a cap vs h1 h2 h3 h4 h5 h6 ih =>
    refine .mk k i l s t e n a cap vs h1 h2 h3 (fun ad ea hne => ?_) (fun ad j d ea hd q hq => ?_) ih
    · obtain ⟨a1, a2, a3⟩ := h4 ad ea hne
      exact ⟨a1, Nat.lt_of_lt_of_le a2 hf.size, a3⟩
    · obtain ⟨a1, a2, a3⟩ := h4 ad ea (fun e => by rw [e] at hd; simp at hd)
      rw [← h5 ad j d ea hd q hq]
      exact World.cell?_of_block (hf.block _ a2 (hS _ a3))
theorem CAt.no {w w' : World} {X : Nat → Prop} {vs : Array Value} {c : Ct} (h : CAt w X vs c) (hf : Fr No w w') : CAt w' X vs c := h.fr hf (fun _ _ => id)
theorem CAt.mono {w : World} {X Y : Nat → Prop} {vs : Array Value} {c : Ct} (h : CAt w X vs c) (hX : ∀ b, b < w.heap.size → X b → Y b) : CAt w Y vs c := by
  induction h with
  | mk k i l s t e n a cap vs h1 h2 h3 h4 h5 h6 ih =>
    refine .mk k i l s t e n a cap vs h1 h2 h3 (fun ad ea hne => ?_) h5 ih
    obtain ⟨a1, a2, a3⟩ := h4 ad ea hne
    exact ⟨a1, a2, hX _ a2 a3⟩
theorem CAt.size {w : World} {X : Nat → Prop} {vs : Array Value} {c : Ct} (h : CAt w X vs c) : vs.size = 7 := by
  cases h; rfl
theorem CAt.one {w : World} {X : Nat → Prop} {vs : Array Value} {c : Ct} (h : CAt w X vs c) : ∀ u ∈ vs.toList, u.oneCell' = true := by
  cases h
  intro u hu
  simp at hu
  rcases hu with rfl | rfl | rfl | rfl | rfl | rfl | rfl <;> rfl

/-- The slice (a, cap) reads in w as the contents cs. -/
structure InAt (w : World) (X : Nat → Prop) (a : Option Addr) (cap : Nat) (cs : List Ct) : Prop where
  len : cs.length ≤ cap
  max : cap ≤ maxLen
  isNil : a = none → cs = [] ∧ cap = 0
  el : ∃ vs : Nat → Array Value, (∀ ad, a = some ad → cs ≠ [] → ad.spot = none ∧ ad.block < w.heap.size ∧ X ad.block) ∧ (∀ ad j d, a = some ad → cs[j]? = some d → ∀ q, q < 7 → w.cell? ⟨ad.block, ad.off + (j * 7 + q), none⟩ = (vs j)[q]?) ∧ ∀ j d, cs[j]? = some d → CAt w X (vs j) d
theorem InAt.nil (w : World) (X : Nat → Prop) : InAt w X none 0 [] := ⟨by simp, by simp, fun _ => ⟨rfl, rfl⟩, fun _ => #[], fun _ e => (by cases e), fun _ _ _ e => (by cases e), fun j d h => by simp at h⟩
theorem CAt.of_in {w : World} {X : Nat → Prop} {a : Option Addr} {cap : Nat} {cs : List Ct} (h : InAt w X a cap cs) (k : Int) (i l : ByteArray) (s t e : Int) : CAt w X #[.int .i64 k, .string i, .string l, .int .i64 s, .int .i64 t, .int .i64 e, .slice a cs.length cap] (.mk k i l s t e cs) := by
  obtain ⟨vs, h4, h5, h6⟩ := h.el
  exact .mk k i l s t e cs a cap vs h.len h.max h.isNil h4 h5 h6
theorem InAt.fr {w w' : World} {X S : Nat → Prop} {a : Option Addr} {cap : Nat} {cs : List Ct} (h : InAt w X a cap cs) (hf : Fr S w w') (hS : ∀ b, X b → ¬ S b) : InAt w' X a cap cs := by
  obtain ⟨vs, h4, h5, h6⟩ := h.el
  refine ⟨h.len, h.max, h.isNil, vs, fun ad ea hne => ?_, fun ad j d ea hd q hq => ?_, fun j d hd => (h6 j d hd).fr hf hS⟩
  · obtain ⟨a1, a2, a3⟩ := h4 ad ea hne
    exact ⟨a1, Nat.lt_of_lt_of_le a2 hf.size, a3⟩
  · obtain ⟨a1, a2, a3⟩ := h4 ad ea (fun e => by rw [e] at hd; simp at hd)
    rw [← h5 ad j d ea hd q hq]
    exact World.cell?_of_block (hf.block _ a2 (hS _ a3))
theorem InAt.mono {w : World} {X Y : Nat → Prop} {a : Option Addr} {cap : Nat} {cs : List Ct} (h : InAt w X a cap cs) (hX : ∀ b, b < w.heap.size → X b → Y b) : InAt w Y a cap cs := by
  obtain ⟨vs, h4, h5, h6⟩ := h.el
  refine ⟨h.len, h.max, h.isNil, vs, fun ad ea hne => ?_, h5, fun j d hd => (h6 j d hd).mono hX⟩
  obtain ⟨a1, a2, a3⟩ := h4 ad ea hne
  exact ⟨a1, a2, hX _ a2 a3⟩

/-- A row of contents that grows. -/
structure CRow (w : World) (base : Nat) (v : Value) (cs : List Ct) : Prop where
  el : ∃ vl : List (Array Value), vl.length = cs.length ∧ w.ownsRow base 54 7 v cs.length (vl.flatMap Array.toList) ∧ ∀ (j : Nat) (vs : Array Value) (c : Ct), vl[j]? = some vs → cs[j]? = some c → CAt w (fun b => base ≤ b ∧ v.ownBlock ≠ some b) vs c
theorem CRow.nil (w : World) (base : Nat) : CRow w base (.slice none 0 0) [] := ⟨[], rfl, World.ownsRow_nil _ _ _ _, fun j vs c h => by simp at h⟩
theorem CRow.fr {w w' : World} {S : Nat → Prop} {base : Nat} {v : Value} {cs : List Ct} (h : CRow w base v cs) (hf : Fr S w w') (hS : ∀ b, base ≤ b → ¬ S b) : CRow w' base v cs := by
  obtain ⟨vl, h1, h2, h3⟩ := h.el
  exact ⟨vl, h1, ownsRow_fr h2 hf hS, fun j vs c hj hc => (h3 j vs c hj hc).fr hf (fun b hb => hS b hb.1)⟩
theorem flat7_at : ∀ (vl : List (Array Value)), (∀ vs ∈ vl, vs.size = 7) → ∀ (j : Nat) (vs : Array Value), vl[j]? = some vs → ∀ q, q < 7 → (vl.flatMap Array.toList)[j * 7 + q]? = vs[q]?
  | [], _, j, vs, h, q, hq => by simp at h
  | x :: t, hs, 0, vs, h, q, hq => by
    simp at h; subst h
    have hx := hs x (by simp)
    rw [List.flatMap_cons, List.getElem?_append_left (by simp [hx]; omega)]
    simp
  | x :: t, hs, j + 1, vs, h, q, hq => by
    have hx := hs x (by simp)
    rw [List.flatMap_cons, List.getElem?_append_right (by simp [hx]; omega), show (j + 1) * 7 + q - x.toList.length = j * 7 + q by simp [hx]; omega]
    exact flat7_at t (fun y hy => hs y (by simp [hy])) j vs (by simpa using h) q hq
theorem CRow.inAt {w : World} {base : Nat} {v : Value} {cs : List Ct} (h : CRow w base v cs) : ∃ a cap, v = .slice a cs.length cap ∧ InAt w (From base) a cap cs := by
  obtain ⟨vl, h1, h2, h3⟩ := h.el
  have hs : ∀ vs ∈ vl, vs.size = 7 := fun vs hvs => by
    obtain ⟨j, hj⟩ := List.getElem?_of_mem hvs
    have hlt : j < cs.length := by rw [← h1]; exact (List.getElem?_eq_some_iff.1 hj).1
    exact (h3 j vs cs[j] hj (List.getElem?_eq_getElem hlt)).size
  obtain ⟨_, ⟨rfl, h5⟩ | ⟨g, cap, cur, rfl, hg, hb, h6, h7, h8, h9⟩⟩ := h2
  · have : cs = [] := List.eq_nil_of_length_eq_zero h5
    subst this
    exact ⟨none, 0, rfl, InAt.nil _ _⟩
  · refine ⟨some ⟨g, 0, none⟩, cap, rfl, h6, h7, (fun e => by cases e), fun j => (vl[j]?).getD #[], fun ad e hne => ?_, fun ad j d e hd q hq => ?_, fun j d hd => ?_⟩
    · cases e; exact ⟨rfl, lt_of_block hb, hg⟩
    · cases e
      have hlt : j < cs.length := (List.getElem?_eq_some_iff.1 hd).1
      have hj : vl[j]? = some (vl[j]'(by omega)) := List.getElem?_eq_getElem (by omega)
      show _ = ((vl[j]?).getD #[])[q]?
      rw [cell_of_block hb, hj]
      simp only [Nat.zero_add, Option.getD_some]
      rw [← flat7_at vl hs j _ hj q hq, ← h9, List.getElem?_take_of_lt (by omega), Array.getElem?_toList]
    · have hlt : j < cs.length := (List.getElem?_eq_some_iff.1 hd).1
      have hj : vl[j]? = some (vl[j]'(by omega)) := List.getElem?_eq_getElem (by omega)
      have h10 := h3 j _ d hj hd
      show CAt w (From base) ((vl[j]?).getD #[]) d
      rw [hj]
      exact h10.mono (fun b _ hb => hb.1)
/-- A further content behind the row. -/
theorem CRow.push {w w2 : World} {base : Nat} {v v' : Value} {cs : List Ct} {vs : Array Value} {c : Ct} (hv : CAt w (From base) vs c) (hnb : ∀ b, v.ownBlock = some b → CAt w (fun b' => base ≤ b' ∧ b' ≠ b) vs c)
    {vl : List (Array Value)} (h1 : vl.length = cs.length) (h3 : ∀ (j : Nat) (vs : Array Value) (c : Ct), vl[j]? = some vs → cs[j]? = some c → CAt w (fun b => base ≤ b ∧ v.ownBlock ≠ some b) vs c)
    (hown : w2.ownsRow base 54 7 v' (cs.length + 1) (vl.flatMap Array.toList ++ vs.toList)) (hf : Fr (fun b => v.ownBlock = some b) w w2) (hat : v'.ownBlock = v.ownBlock ∨ ∃ g, v'.ownBlock = some g ∧ w.heap.size ≤ g) : CRow w2 base v' (cs ++ [c]) := by
  have key : ∀ vs c, CAt w (fun b => base ≤ b ∧ v.ownBlock ≠ some b) vs c → CAt w2 (fun b => base ≤ b ∧ v'.ownBlock ≠ some b) vs c := by
    intro vs c h
    have h4 := h.mono (Y := fun b => (base ≤ b ∧ v.ownBlock ≠ some b) ∧ b < w.heap.size) (fun b hb hx => ⟨hx, hb⟩)
    have h5 := h4.fr hf (fun b hb => hb.1.2)
    refine h5.mono (fun b _ hb => ⟨hb.1.1, ?_⟩)
    rcases hat with e | ⟨g, e, hg⟩
    · rw [e]; exact hb.1.2
    · rw [e]; intro h; cases h; omega
  have hv2 : CAt w (fun b => base ≤ b ∧ v.ownBlock ≠ some b) vs c := by
    cases hob : v.ownBlock with
    | none => exact hv.mono (fun b _ hb => ⟨hb, by simp⟩)
    | some g => exact (hnb g hob).mono (fun b _ hb => ⟨hb.1, fun e => hb.2 (Option.some.inj e).symm⟩)
  refine ⟨vl ++ [vs], by simp [h1], ?_, fun j vs' c' hj hc => ?_⟩
  · rw [List.flatMap_append]
    simpa using hown
  · by_cases hjl : j < cs.length
    · rw [List.getElem?_append_left (by omega)] at hj
      rw [List.getElem?_append_left hjl] at hc
      exact key _ _ (h3 j vs' c' hj hc)
    · rw [List.getElem?_append_right (by omega)] at hj
      rw [List.getElem?_append_right (by omega)] at hc
      have e1 : j - vl.length = 0 := by
        have := (List.getElem?_eq_some_iff.1 hj).1; simp at this; omega
      have e2 : j - cs.length = 0 := by omega
      rw [e1] at hj; rw [e2] at hc
      simp at hj hc
      subst hj; subst hc
      exact key _ _ hv2

/-- What content leaves, with fuel n. -/
def CtRes (w : World) (pb : Nat) (s : ByteArray) (r : List UInt8) (n : Nat) (e : Ending) (w' : World) : Prop :=
  ∃ (k : Int) (i l : ByteArray) (sl t le : Int) (a : Option Addr) (m c : Nat) (r' : List UInt8) (bad' : Bool), e = .returned (.agg #[.int .i64 k, .string i, .string l, .int .i64 sl, .int .i64 t, .int .i64 le, .slice a m c]) ∧ r'.length ≤ r.length ∧ Cur w' pb s r' bad' ∧ Fr (Is pb) w w' ∧
    ((bad' = true ∧ pC n r = none) ∨ (bad' = false ∧ ∃ ct, pC n r = some (ct, r') ∧ CAt w' (From w.heap.size) #[.int .i64 k, .string i, .string l, .int .i64 sl, .int .i64 t, .int .i64 le, .slice a m c] ct))
def PSpec (n : Nat) : Prop := ∀ (pb : Nat) (s : ByteArray) (r : List UInt8) (w : World), r.length < n → Cur w pb s r false → Ascii s → s.size ≤ 900 → Env w → 9 ≤ pb →
  Calls Tryz.prog 85 #[.pointer (some ⟨pb, 0, none⟩)] w (CtRes w pb s r n)
/-- What inner leaves. -/
def InRes (w : World) (pb : Nat) (s : ByteArray) (r : List UInt8) (bad : Bool) (n : Nat) (e : Ending) (w' : World) : Prop :=
  ∃ (a : Option Addr) (m c : Nat) (r' : List UInt8) (bad' : Bool), e = .returned (.slice a m c) ∧ r'.length ≤ r.length ∧ Cur w' pb s r' bad' ∧ Fr (Is pb) w w' ∧ (bad = true → bad' = true) ∧
    (bad = false → (bad' = true ∧ (skip1 40 r).bind (pL n []) = none) ∨ (bad' = false ∧ ∃ cs, (skip1 40 r).bind (pL n []) = some (cs, r') ∧ m = cs.length ∧ InAt w' (From w.heap.size) a c cs))

theorem skip_len {b : UInt8} (r : List UInt8) : ((skip1 b r).getD r).length ≤ r.length := by
  cases h : skip1 b r with
  | none => simp
  | some t => rw [skip1_some h]; simp
theorem infoC : (Tryz.prog.info? 54).map (fun i => (i.zero, i.size, i.bytes)) = some (some (.agg #[.int .i64 0, .string ByteArray.empty, .string ByteArray.empty, .int .i64 0, .int .i64 0, .int .i64 0, .slice none 0 0]), 7, 88) := by kernel_rfl
def lenOf : Value → Nat
  | .slice _ n _ => n
  | _ => 0
theorem seven_one (k s t e : Int) (i l : ByteArray) (a : Option Addr) (m c : Nat) : ∀ u ∈ [Value.int .i64 k, .string i, .string l, .int .i64 s, .int .i64 t, .int .i64 e, .slice a m c], u.oneCell' = true := by
  intro u hu
  simp at hu
  rcases hu with rfl | rfl | rfl | rfl | rfl | rfl | rfl <;> rfl
theorem lenOf_slice (a : Option Addr) (n c : Nat) : lenOf (.slice a n c) = n := rfl

set_option maxRecDepth 100000 in
set_option maxHeartbeats 2000000 in
theorem c_inner (n : Nat) (hP : ∀ k, k < n → PSpec k) (pb : Nat) (s : ByteArray) (r : List UInt8) (bad : Bool) (w : World) (hr : r.length + 1 ≤ n) (hc : Cur w pb s r bad) (ha : Ascii s) (hs : s.size ≤ 900) (hE : Env w) (h9 : 9 ≤ pb) :
    Calls Tryz.prog 119 #[.pointer (some ⟨pb, 0, none⟩)] w (InRes w pb s r bad n) := by
  obtain ⟨i0, hi0, hz0, hz1, hz2⟩ := info_parts infoC
  have hpl := hc.lt
  have hcl := hc.le
  go_enter Tryz.func119, Tryz.ntmps119
  go_wp2_with fail
  refine (c_want pb s 40 r bad _ hc (by omega)).mono ?_
  rintro e w1 ⟨rfl, hc1, hf1⟩
  have hsl := skip_len (b := 40) r
  obtain ⟨ra, hra⟩ : ∃ ra, ra = (skip1 40 r).getD r := ⟨_, rfl⟩
  rw [← hra] at hc1 hsl
  obtain ⟨b1, hb1⟩ : ∃ b1, b1 = (bad || (skip1 40 r).isNone) := ⟨_, rfl⟩
  rw [← hb1] at hc1
  have Hra := Lib.hid hra
  have Hb1 := Lib.hid hb1
  have hs1 := hf1.size
  have Hf1 := Lib.hid hf1
  have hE1 := hE.fr hf1 (fun b hb h => by unfold Is at h; omega)
  clear hra hb1 hf1 hc
  go_wp2_with fail
  go_loopw [3] (fun v wr => ∃ (acc : List Ct) (rr : List UInt8) (bb : Bool) (av : Option Addr) (cv : Nat) (m : Nat), v = .slice av acc.length cv ∧ acc.length + m = n ∧ rr.length ≤ ra.length ∧ Cur wr pb s rr bb ∧ Hid (bb = false → (rr.length + 2 ≤ m ∧ acc.length + rr.length ≤ ra.length) ∧ pL n [] ra = pL m acc rr ∧ b1 = false) ∧ Hid (bb = true → b1 = true ∨ pL n [] ra = none) ∧ Hid (bb = false → CRow wr w1.heap.size (.slice av acc.length cv) acc) ∧ Fr (fun b => b = pb ∨ w1.heap.size ≤ b) w1 wr) (fun v _ => n + 1 - lenOf v)
  case atStart =>
    refine ⟨[], ra, b1, none, 0, n, rfl, by simp, by omega, hc1, fun h => ?_, fun h => .inl h, fun _ => CRow.nil _ _, Fr.refl _ _⟩
    have h2 := Hb1.out
    rw [h] at h2
    have h3 : (skip1 40 r).isNone = false := by
      cases h4 : (skip1 40 r).isNone with
      | false => rfl
      | true => rw [h4, Bool.or_true] at h2; cases h2
    cases h5 : skip1 40 r with
    | none => rw [h5] at h3; cases h3
    | some t =>
      have h6 := Hra.out
      rw [h5, Option.getD_some] at h6
      have h7 := congrArg List.length (skip1_some h5)
      rw [h6]
      simp at h7
      exact ⟨⟨by omega, by simp⟩, rfl, h⟩
  case round =>
    obtain ⟨acc, rr, bb, av, cv, m, rfl, hm, hrr, hcr, H0, H1, HR, hfr⟩ := hrel
    obtain ⟨W2, rfl⟩ : ∃ W2, W2 = wr := ⟨_, rfl⟩
    obtain ⟨at_, hbk, hal, hrd⟩ := hcr.blk
    have c2 : W2.cell? ⟨pb, 2, none⟩ = some (.bool bb) := cell_of_block hbk 2
    have hsr := hfr.size
    have Hwf : Hid (Fr (Is pb) w W2) := Hf1.out.step hfr (fun b hb h => by unfold Is; omega)
    cases bb with
    | true =>
      have Hres : Hid (InRes w pb s r bad n (.returned (.slice none 0 0)) W2) := by
        refine ⟨none, 0, 0, rr, true, rfl, by omega, hcr, Hwf.out, fun _ => rfl, fun hbf => .inl ⟨rfl, ?_⟩⟩
        cases h5 : skip1 40 r with
        | none => rfl
        | some t =>
          have h6 := Hra.out
          rw [h5, Option.getD_some] at h6
          show pL n [] t = none
          rw [← h6]
          rcases H1.out rfl with h | h
          · have h2 := Hb1.out
            rw [hbf, h5, h] at h2
            cases h2
          · exact h
      clear hbk hcr
      go_wp2_with fail
      go_ret
      exact Hres.out
    | false =>
      obtain ⟨⟨h01, h00⟩, h02, h03⟩ := H0.out rfl
      have HR1 : Hid (CRow W2 w1.heap.size (.slice av acc.length cv) acc) := HR.out rfl
      obtain ⟨m, rfl⟩ : ∃ m', m = m' + 1 := ⟨m - 1, by omega⟩
      have hE2 := hE1.fr hfr (fun b hb h => by have := hE1.sz; omega)
      have H02 := Lib.hid h02
      have H03 := Lib.hid h03
      have hacc : acc.length ≤ n := by omega
      have hPm := hP m (by omega) pb s rr W2 (by omega) hcr ha hs hE2 h9
      clear hbk h02 h03 hcr
      go_wp2_with fail
      refine hPm.mono ?_
      rintro e w3 ⟨k, i, l, sl, t, le, a, mm, c, r3, b3, rfl, hr3, hc3, hf3, hcase⟩
      have hs3 := hf3.size
      have Hrow3 : Hid (CRow w3 w1.heap.size (.slice av acc.length cv) acc) := HR1.out.fr hf3 (fun b hb h => by unfold Is at h; omega)
      obtain ⟨vl, hvl, hown, hch⟩ := Hrow3.out.el
      have hx4 : Fr No w3 (w3.alloc (.cells #[.int .i64 k, .string i, .string l, .int .i64 sl, .int .i64 t, .int .i64 le, .slice a mm c] 54)) := (Fr.refl _ _).alloc _
      have Hc := Lib.hid hcase
      have Hch := Lib.hid hch
      have Hfr := Lib.hid (hfr.step hf3 (fun b hb h => by unfold Is at h; omega))
      have Hc3 := Lib.hid hc3
      have hlt2 := ownsRow_lt (b := 0) hown
      have Hrb : Hid (∀ b, (Value.slice av acc.length cv).ownBlock = some b → b < W2.heap.size ∧ w1.heap.size ≤ b) := fun b hb => by
        obtain ⟨vl2, _, ho2, _⟩ := HR1.out.el
        exact ⟨ownsRow_lt ho2 hb, ownsRow_blk ho2 hb⟩
      have hle3 : w1.heap.size ≤ w3.heap.size := by omega
      have hpl3 : pb < w1.heap.size := by omega
      clear hcase hch hPm hc3 hfr hf3 hlt2
      go_wp2_with (at_builtin; refine wpList_append_own_at _ rfl _ _ 52 rfl w1.heap.size 54 i0 (.agg #[.int .i64 0, .string ByteArray.empty, .string ByteArray.empty, .int .i64 0, .int .i64 0, .int .i64 0, .slice none 0 0]) 7 88 Tryz.underlying52 hi0 hz0 hz1 hz2 rfl (by decide) _ _ _ rfl (hown.alloc _) ⟨w3.heap.size, 0, none⟩ 1 1 [.int .i64 k, .string i, .string l, .int .i64 sl, .int .i64 t, .int .i64 le, .slice a mm c] rfl rfl (cells_new _ _ _ rfl) (seven_one _ _ _ _ _ _ _ _ _) (by unfold maxLen; omega) (by omega) (by simp; omega) ?_; intro v' wb hownb hgrow _ hat; obtain ⟨avb, cvb, rfl⟩ := ownsRow_slice hownb)
      have hgf : Fr (fun b => (Value.slice av acc.length cv).ownBlock = some b) w3 wb := hx4.trans (Fr.of_grown hgrow) (fun _ _ h => h.elim) (fun _ _ h => h)
      have Hgf := Lib.hid hgf
      have Hown := Lib.hid hownb
      have Hat := Lib.hid hat
      have hcb := Hc3.out.fr hgf (fun h => by have := Hrb.out _ h; omega)
      have hsb := hgf.size
      clear hownb hgrow hat hgf hown hx4 hE2
      go_wp2_with fail
      refine (c_skip pb s 41 r3 b3 _ hcb (by omega)).mono ?_
      rintro e w5 ⟨rfl, hc5, hf5⟩
      have hs5 := hf5.size
      have Hf15 : Hid (Fr (fun b => b = pb ∨ w1.heap.size ≤ b) w1 w5) := (Hfr.out.step Hgf.out (fun b hb h => by have := Hrb.out b h; omega)).step hf5 (fun b hb h => by unfold Is at h; omega)
      have Hwf5 : Hid (Fr (Is pb) w w5) := Hf1.out.step Hf15.out (fun b hb h => by unfold Is; omega)
      -- the row with the new content, if the parse went well
      have Hpush : Hid (∀ ct, b3 = false → CAt w3 (From W2.heap.size) #[.int .i64 k, .string i, .string l, .int .i64 sl, .int .i64 t, .int .i64 le, .slice a mm c] ct → CRow w5 w1.heap.size (.slice avb (acc ++ [ct]).length cvb) (acc ++ [ct])) := by
        intro ct _ hca
        have h1 : CRow wb w1.heap.size (.slice avb (acc.length + 1) cvb) (acc ++ [ct]) := CRow.push (hca.mono (fun b _ hb => by unfold From at *; omega)) (fun b hb => hca.mono (fun b' _ hb' => by have := Hrb.out b hb; unfold From at hb'; exact ⟨by omega, by omega⟩)) hvl Hch.out Hown.out Hgf.out (by
          rcases Hat.out with h | h
          · exact .inl h
          · exact .inr ⟨_, h, by simp⟩)
        rw [List.length_append, List.length_singleton]
        exact h1.fr hf5 (fun b hb h => by unfold Is at h; omega)
      cases hk : skip1 41 r3 with
      | some r4 =>
        rw [hk] at hc5
        simp only [Option.getD_some] at hc5
        have h7 := congrArg List.length (skip1_some hk)
        simp at h7
        have Hres : Hid (InRes w pb s r bad n (.returned (.slice avb (acc.length + 1) cvb)) w5) := by
          refine ⟨avb, acc.length + 1, cvb, r4, b3, rfl, by omega, hc5, Hwf5.out, fun hbt => ?_, fun hbf => ?_⟩
          · have h2 := Hb1.out
            rw [hbt, H03.out] at h2; cases h2
          · have h6 : (skip1 40 r).bind (pL n []) = pL n [] ra := by
              cases h5 : skip1 40 r with
              | none => have h2 := Hb1.out; rw [h5, H03.out] at h2; simp at h2
              | some t0 => have h6 := Hra.out; rw [h5, Option.getD_some] at h6; rw [h6]; rfl
            rw [h6, H02.out, pL]
            rcases Hc.out with ⟨h1, h2⟩ | ⟨h1, ct, h2, h3⟩
            · rw [h2]; exact .inl ⟨h1, rfl⟩
            · rw [h2]
              simp only [Option.bind_some, hk]
              refine .inr ⟨h1, acc ++ [ct], rfl, by simp, ?_⟩
              have hrow := Hpush.out ct h1 h3
              obtain ⟨a', cap', hv, hin⟩ := hrow.inAt
              cases hv
              exact hin.mono (fun b _ hb => by unfold From at *; omega)
        clear hc5 hk
        go_wp2_with fail
        go_ret
        exact Hres.out
      | none =>
        rw [hk] at hc5
        simp only [Option.getD_none] at hc5
        have Hk := Lib.hid hk
        clear hk
        go_wp2_with fail
        refine (c_want pb s 44 r3 b3 _ hc5 (by omega)).mono ?_
        rintro e w6 ⟨rfl, hc6, hf6⟩
        have hsl6 := skip_len (b := 44) r3
        have hs6 := hf6.size
        have Hf16 : Hid (Fr (fun b => b = pb ∨ w1.heap.size ≤ b) w1 w6) := Hf15.out.step hf6 (fun b hb h => by unfold Is at h; omega)
        have hpn : ∀ ct, b3 = false → pC m rr = some (ct, r3) → pL n [] ra = (skip1 44 r3).bind fun r2 => pL m (acc ++ [ct]) r2 := by
          intro ct _ h2
          rw [H02.out, pL, h2]
          simp only [Option.bind_some, Hk.out]
        have Hpn := Lib.hid hpn
        -- what the next round has
        have Hnext : Hid (∃ (acc' : List Ct) (rr' : List UInt8) (bb' : Bool), acc'.length = acc.length + 1 ∧ rr'.length ≤ ra.length ∧ Cur w6 pb s rr' bb' ∧ (bb' = false → (rr'.length + 2 ≤ m ∧ acc'.length + rr'.length ≤ ra.length) ∧ pL n [] ra = pL m acc' rr' ∧ b1 = false) ∧ (bb' = true → b1 = true ∨ pL n [] ra = none) ∧ (bb' = false → CRow w6 w1.heap.size (.slice avb acc'.length cvb) acc')) := by
          rcases Hc.out with ⟨h1, h2⟩ | ⟨h1, ct, h2, h3⟩
          · subst h1
            have hn0 : pL n [] ra = none := by rw [H02.out, pL, h2]; rfl
            exact ⟨acc ++ [Ct.zero], (skip1 44 r3).getD r3, (true || (skip1 44 r3).isNone), by simp, by omega, hc6, (fun h => by cases h), (fun _ => .inr hn0), (fun h => by cases h)⟩
          · subst h1
            refine ⟨acc ++ [ct], (skip1 44 r3).getD r3, (false || (skip1 44 r3).isNone), by simp, by omega, hc6, fun h => ?_, fun h => ?_, ?_⟩
            · cases h4 : skip1 44 r3 with
              | none => rw [h4] at h; cases h
              | some r4 =>
                have h7 := congrArg List.length (skip1_some h4)
                simp at h7
                refine ⟨⟨by simp; omega, by simp; omega⟩, ?_, H03.out⟩
                rw [Hpn.out ct rfl h2, h4]
                rfl
            · cases h4 : skip1 44 r3 with
              | none => exact .inr (by rw [Hpn.out ct rfl h2, h4]; rfl)
              | some r4 => rw [h4] at h; cases h
            · intro _
              exact (Hpush.out ct rfl h3).fr hf6 (fun b hb h => by unfold Is at h; omega)
        obtain ⟨acc', rr', bb', e1, e2, e3, e4, e5, e6⟩ := Hnext.out
        have He3 := Lib.hid e3
        have He4 := Lib.hid e4
        have He5 := Lib.hid e5
        have He6 := Lib.hid e6
        clear hc6 e3 e4 e5 e6 hc5 hf6 hf5 hpn hcb
        go_wp2_with fail
        go_roundw
        case rel => exact ⟨acc', rr', bb', avb, cvb, m, by rw [e1], by omega, e2, He3.out, He4.out, He5.out, He6.out, Hf16.out⟩
        case measure => simp only [lenOf_slice]; omega
end Go.Proofs.YtbblkknndaoefaaGreatDoor
