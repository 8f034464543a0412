/- name.Compare. gather.ComparePaths. gather.Before. ahead. Maps with string keys that the call made, with values of any type; their keys, sorted. Members, and the best one of each ID. Plain. -/
import Derived.Test.YtbblkknndaoefaaGreatDoorZC4
import Derived.Test.YtbblkknndaoefaaGreatDoorZC3
import Derived.Test.YtbblkknndaoefaaGreatDoorShelf
import Derived.Maps.OwnSet
import Derived.Maps.StringElems
import Derived.OwnWalkIn
import Derived.Shelf.AbstractIn
namespace Go.Proofs.YtbblkknndaoefaaGreatDoor
open Go.RowKit Go.Maps
set_option linter.unusedVariables false
/-- What name.Compare answers. -/
def cmpP (s t : ByteArray) : Int × Int := if goodPath s && goodPath t then (cmpN (sparts s) (sparts t), 0) else (0, 10)
set_option maxRecDepth 100000 in
set_option maxHeartbeats 2000000 in
theorem name_compare (s t : ByteArray) (m : Int) (w : World) (hs : s.size ≤ 1000000) (ht : t.size ≤ 1000000) (hm : w.cell? ⟨1, 0, none⟩ = some (.int .i64 m)) :
    Calls Tryz.prog 156 #[.string s, .string t] w fun e w' => e = .returned (.tuple #[.int .i64 (cmpP s t).1, .int .i64 (cmpP s t).2]) ∧ Fr No w w' := by
  obtain ⟨r1, h1⟩ : ∃ r, r = (cmpP s t).1 := ⟨_, rfl⟩
  obtain ⟨r2, h2⟩ : ∃ r, r = (cmpP s t).2 := ⟨_, rfl⟩
  rw [← h1, ← h2]
  have H1 := Lib.hid h1
  have H2 := Lib.hid h2
  clear h1 h2
  go_enter Tryz.func156, Tryz.ntmps156
  go_wp2_with fail
  refine (n_split s m _ hs hm).mono ?_
  rintro e w1 ⟨hr1, hf1⟩
  have hm1 := hf1.cell hm id
  have Hf1 := Lib.hid hf1
  clear hm hf1
  rcases hr1 with ⟨hg1, rfl⟩ | ⟨hg1, ad1, rfl, hS1, _⟩
  · have G1 := Lib.hid hg1
    clear hg1
    go_wp2_with fail
    refine (n_split t m _ ht hm1).mono ?_
    rintro e w2 ⟨hr2, hf2⟩
    have Hf2 := Lib.hid (Hf1.out.step hf2 (fun _ _ h => h))
    clear hm1 hf2
    rcases hr2 with ⟨hg2, rfl⟩ | ⟨hg2, ad2, rfl, hS2, _⟩
    · clear hg2
      go_wp2_with fail
      go_ret2
      exact ⟨by rw [H1.out, H2.out, cmpP, G1.out]; rfl, Hf2.out⟩
    · clear hg2 hS2
      go_wp2_with fail
      go_ret2
      exact ⟨by rw [H1.out, H2.out, cmpP, G1.out]; rfl, Hf2.out⟩
  · have G1 := Lib.hid hg1
    clear hg1
    go_wp2_with fail
    refine (n_split t m _ ht hm1).mono ?_
    rintro e w2 ⟨hr2, hf2⟩
    have Hf2 := Lib.hid (Hf1.out.step hf2 (fun _ _ h => h))
    have hS1' := hS1.no hf2 (fun _ => id)
    clear hm1 hf2 hS1
    rcases hr2 with ⟨hg2, rfl⟩ | ⟨hg2, ad2, rfl, hS2, _⟩
    · have G2 := Lib.hid hg2
      clear hg2 hS1'
      go_wp2_with fail
      go_ret2
      exact ⟨by rw [H1.out, H2.out, cmpP, G1.out, G2.out]; rfl, Hf2.out⟩
    · have G2 := Lib.hid hg2
      have hsc := strs_compare (some ad1) _ _ (some ad2) _ _ w2 hS1' hS2
      clear hg2 hS1' hS2
      obtain ⟨p1, e1⟩ : ∃ p, p = sparts s := ⟨_, rfl⟩
      obtain ⟨p2, e2⟩ : ∃ p, p = sparts t := ⟨_, rfl⟩
      rw [← e1, ← e2] at hsc ⊢
      have E1 := Lib.hid e1
      have E2 := Lib.hid e2
      clear e1 e2
      go_wp2_with fail
      refine hsc.mono ?_
      rintro e w3 ⟨rfl, rfl⟩
      have Hr : Hid (r1 = cmpN p1 p2 ∧ r2 = 0) := by unfold Hid; rw [H1.out, H2.out, cmpP, G1.out, G2.out, ← E1.out, ← E2.out]; exact ⟨rfl, rfl⟩
      generalize cmpN p1 p2 = cn at *
      go_wp2_with fail
      go_ret2
      exact ⟨by rw [Hr.out.1, Hr.out.2]; rfl, Hf2.out⟩
end Go.Proofs.YtbblkknndaoefaaGreatDoor
namespace Go.Proofs.YtbblkknndaoefaaGreatDoor
open Go.RowKit Go.Maps
set_option linter.unusedVariables false
/-- The order of two paths. -/
def pathO (s t : ByteArray) : Int := if goodPath s then (if goodPath t then cmpN (sparts s) (sparts t) else -1) else if goodPath t then 1 else Lib.compareBytes s.data.toList t.data.toList
set_option maxRecDepth 100000 in
set_option maxHeartbeats 2000000 in
theorem path_order (s t : ByteArray) (m : Int) (w : World) (hs : s.size ≤ 1000000) (ht : t.size ≤ 1000000) (hm : w.cell? ⟨1, 0, none⟩ = some (.int .i64 m)) :
    Calls Tryz.prog 133 #[.string s, .string t] w fun e w' => e = .returned (.int .i64 (pathO s t)) ∧ Fr No w w' := by
  obtain ⟨r, h1⟩ : ∃ r, r = pathO s t := ⟨_, rfl⟩
  rw [← h1]
  have Hr := Lib.hid h1
  clear h1
  have hnc := name_compare s t m w hs ht hm
  cases hg1 : goodPath s with
  | true =>
    have G1 := Lib.hid hg1
    clear hg1
    cases hg2 : goodPath t with
    | true =>
      have G2 := Lib.hid hg2
      clear hg2
      have e1 : cmpP s t = (r, 0) := by rw [cmpP, Hr.out, pathO, G1.out, G2.out]; rfl
      rw [e1] at hnc
      clear e1
      go_enter Tryz.func133, Tryz.ntmps133
      go_wp2_with fail
      refine hnc.mono ?_
      rintro e w1 ⟨rfl, hf1⟩
      have Hf1 := Lib.hid hf1
      clear hf1
      go_wp2_with fail
      go_ret
      exact ⟨rfl, Hf1.out⟩
    | false =>
      have G2 := Lib.hid hg2
      clear hg2
      have e1 : cmpP s t = (0, 10) := by rw [cmpP, G1.out, G2.out]; rfl
      rw [e1] at hnc
      clear e1
      have Hr1 : Hid (r = -1) := by unfold Hid; rw [Hr.out, pathO, G1.out, G2.out]; rfl
      go_enter Tryz.func133, Tryz.ntmps133
      go_wp2_with fail
      refine hnc.mono ?_
      rintro e w1 ⟨rfl, hf1⟩
      have hm1 := hf1.cell hm id
      have Hf1 := Lib.hid hf1
      clear hf1 hm
      go_wp2_with fail
      refine (n_split s m _ hs hm1).mono ?_
      rintro e w2 ⟨hr2, hf2⟩
      have hm2 := hf2.cell hm1 id
      have Hf2 := Lib.hid (Hf1.out.step hf2 (fun _ _ h => h))
      clear hf2 hm1
      rcases hr2 with ⟨hg, rfl⟩ | ⟨hg, ad1, rfl, _, _⟩
      · rw [G1.out] at hg; cases hg
      · clear hg
        go_wp2_with fail
        refine (n_split t m _ ht hm2).mono ?_
        rintro e w3 ⟨hr3, hf3⟩
        have Hf3 := Lib.hid (Hf2.out.step hf3 (fun _ _ h => h))
        clear hf3 hm2
        rcases hr3 with ⟨hg, rfl⟩ | ⟨hg, ad2, rfl, _, _⟩
        · clear hg
          go_wp2_with fail
          go_ret
          exact ⟨by rw [Hr1.out]; rfl, Hf3.out⟩
        · rw [G2.out] at hg; cases hg
  | false =>
    have G1 := Lib.hid hg1
    clear hg1
    have e1 : cmpP s t = (0, 10) := by rw [cmpP, G1.out]; rfl
    rw [e1] at hnc
    clear e1
    go_enter Tryz.func133, Tryz.ntmps133
    go_wp2_with fail
    refine hnc.mono ?_
    rintro e w1 ⟨rfl, hf1⟩
    have hm1 := hf1.cell hm id
    have Hf1 := Lib.hid hf1
    clear hf1 hm
    go_wp2_with fail
    refine (n_split s m _ hs hm1).mono ?_
    rintro e w2 ⟨hr2, hf2⟩
    have hm2 := hf2.cell hm1 id
    have Hf2 := Lib.hid (Hf1.out.step hf2 (fun _ _ h => h))
    clear hf2 hm1
    rcases hr2 with ⟨hg, rfl⟩ | ⟨hg, ad1, rfl, _, _⟩
    · clear hg
      go_wp2_with fail
      refine (n_split t m _ ht hm2).mono ?_
      rintro e w3 ⟨hr3, hf3⟩
      have Hf3 := Lib.hid (Hf2.out.step hf3 (fun _ _ h => h))
      clear hf3 hm2
      rcases hr3 with ⟨hg, rfl⟩ | ⟨hg, ad2, rfl, _, _⟩
      · have Hr1 : Hid (r = Lib.compareBytes s.data.toList t.data.toList) := by unfold Hid; rw [Hr.out, pathO, G1.out, hg]; rfl
        clear hg
        go_wp2_with fail
        refine (cmp_str s t _).mono ?_
        rintro e w4 ⟨rfl, rfl⟩
        rw [← Hr1.out]
        go_wp2_with fail
        go_ret
        exact ⟨rfl, Hf3.out⟩
      · have Hr1 : Hid (r = 1) := by unfold Hid; rw [Hr.out, pathO, G1.out, hg]; rfl
        clear hg
        go_wp2_with fail
        go_ret
        exact ⟨by rw [Hr1.out]; rfl, Hf3.out⟩
    · rw [G1.out] at hg; cases hg
end Go.Proofs.YtbblkknndaoefaaGreatDoor
namespace Go.Proofs.YtbblkknndaoefaaGreatDoor
open Go.RowKit Go.Maps
set_option linter.unusedVariables false
/-- A member of round r at path p comes ahead of one of round r' at path p'. -/
def aheadB (p : ByteArray) (r : Int) (p' : ByteArray) (r' : Int) : Bool := decide (orI (cmpI r r') (pathO p p') < 0)
set_option maxRecDepth 100000 in
set_option maxHeartbeats 2000000 in
theorem m_before (p i p' i' : ByteArray) (r s t e r' s' t' e' : Int) (v v' : Value) (m : Int) (w : World) (hs : p.size ≤ 1000000) (ht : p'.size ≤ 1000000) (hm : w.cell? ⟨1, 0, none⟩ = some (.int .i64 m)) :
    Calls Tryz.prog 104 #[.agg #[.string p, .string i, .int .i64 r, .int .i64 s, .int .i64 t, .int .i64 e, v], .agg #[.string p', .string i', .int .i64 r', .int .i64 s', .int .i64 t', .int .i64 e', v']] w fun en w' => en = .returned (.bool (aheadB p r p' r')) ∧ Fr No w w' := by
  have h0 : Fr No w ((w.alloc (.cells #[.string p, .string i, .int .i64 r, .int .i64 s, .int .i64 t, .int .i64 e, v] 58)).alloc (.cells #[.string p', .string i', .int .i64 r', .int .i64 s', .int .i64 t', .int .i64 e', v'] 58)) := ((Fr.refl _ _).alloc _).alloc _
  have q1 := block_alloc1 w (.cells #[.string p, .string i, .int .i64 r, .int .i64 s, .int .i64 t, .int .i64 e, v] 58) (.cells #[.string p', .string i', .int .i64 r', .int .i64 s', .int .i64 t', .int .i64 e', v'] 58)
  have q2 := block_alloc2 w (.cells #[.string p, .string i, .int .i64 r, .int .i64 s, .int .i64 t, .int .i64 e, v] 58) (.cells #[.string p', .string i', .int .i64 r', .int .i64 s', .int .i64 t', .int .i64 e', v'] 58)
  obtain ⟨W0, hW0⟩ : ∃ W0, W0 = (w.alloc (.cells #[.string p, .string i, .int .i64 r, .int .i64 s, .int .i64 t, .int .i64 e, v] 58)).alloc (.cells #[.string p', .string i', .int .i64 r', .int .i64 s', .int .i64 t', .int .i64 e', v'] 58) := ⟨_, rfl⟩
  rw [← hW0] at h0 q1 q2
  have hm0 := h0.cell hm id
  have H0 := Lib.hid h0
  obtain ⟨rb, hrb⟩ : ∃ rb, rb = aheadB p r p' r' := ⟨_, rfl⟩
  rw [← hrb]
  have Hrb := Lib.hid hrb
  clear h0 hm hrb
  go_enter Tryz.func104, Tryz.ntmps104
  go_upto_region 1 with (fail)
  rw [← hW0]
  clear hW0
  refine region_sig No [(0, false), (1, false), (2, false), (3, false), (5, false), (6, false), (7, false), (8, false), (4, true), (9, true), (10, true), (11, true), (12, false), (13, false)] (by kernel_rfl) (by kernel_rfl) (fun w0 hf0 => ?_)
  have g0 : ∀ g : Gr No w0, g.W.cell? ⟨w.heap.size, 0, none⟩ = some (.string p) := fun g => g.fr.cell (hf0.cell (cell_of_block q1 0) id) id
  have g2 : ∀ g : Gr No w0, g.W.cell? ⟨w.heap.size, 2, none⟩ = some (.int .i64 r) := fun g => g.fr.cell (hf0.cell (cell_of_block q1 2) id) id
  have k0 : ∀ g : Gr No w0, g.W.cell? ⟨w.heap.size + 1, 0, none⟩ = some (.string p') := fun g => g.fr.cell (hf0.cell (cell_of_block q2 0) id) id
  have k2 : ∀ g : Gr No w0, g.W.cell? ⟨w.heap.size + 1, 2, none⟩ = some (.int .i64 r') := fun g => g.fr.cell (hf0.cell (cell_of_block q2 2) id) id
  have hm1 := hf0.cell hm0 id
  have Hf0 := Lib.hid (H0.out.step hf0 (fun _ _ h => h))
  clear q1 q2 hm0 hf0
  repeat (apply sig_q; exact rfl; exact rfl; exact rfl; intro K hK; go_big_quiet_op; go_big_quiet_on)
  clear g0 g2 k0 k2
  apply sig_m
  exact rfl
  go_wp2_with fail
  refine (cmp_int r r' _).mono ?_
  rintro en w1 ⟨rfl, rfl⟩
  generalize hc1 : cmpI r r' = c1
  go_wp2_with fail
  refine OnlyN.mk ⟨Fr.refl _ _, ?_⟩
  apply sig_m
  exact rfl
  go_wp2_with fail
  refine (path_order p p' m _ hs ht hm1).mono ?_
  rintro en w2 ⟨rfl, hf2⟩
  generalize hc2 : pathO p p' = c2
  have Hf2 := Lib.hid (Hf0.out.step hf2 (fun _ _ h => h))
  have Hc : Hid (rb = decide (orI c1 c2 < 0)) := by unfold Hid; rw [Hrb.out, aheadB, hc1, hc2]
  clear hc1 hc2 hm1
  go_wp2_with fail
  refine OnlyN.mk ⟨hf2, ?_⟩
  clear hf2
  apply sig_m
  exact rfl
  go_wp2_with fail
  have hx : Fr No w2 (w2.alloc (.cells #[.int .i64 c1, .int .i64 c2] 3)) := (Fr.refl _ _).alloc _
  have qx := block_alloc w2 (.cells #[.int .i64 c1, .int .i64 c2] 3)
  refine OnlyN.mk ⟨hx, ?_⟩
  have Hf3 := Lib.hid (Hf2.out.step hx (fun _ _ h => h))
  clear hx
  apply sig_m
  exact rfl
  go_wp2_with fail
  refine (or_int _ c1 c2 _ (cell_of_block qx 0) (cell_of_block qx 1)).mono ?_
  rintro en w3 ⟨rfl, rfl⟩
  generalize orI c1 c2 = o at *
  go_wp2_with fail
  refine OnlyN.mk ⟨Fr.refl _ _, ?_⟩
  repeat (apply sig_q; exact rfl; exact rfl; exact rfl; intro K hK; go_big_quiet_op; go_big_quiet_on)
  refine sig_end ?_
  go_wp2_with fail
  go_ret
  exact ⟨by rw [Hc.out]; rfl, Hf3.out⟩
end Go.Proofs.YtbblkknndaoefaaGreatDoor
namespace Go.Proofs.YtbblkknndaoefaaGreatDoor
open Go.RowKit Go.Maps
set_option linter.unusedVariables false
set_option maxRecDepth 100000 in
set_option maxHeartbeats 1000000 in
theorem l_ahead (p i p' i' : ByteArray) (r s t e r' s' t' e' : Int) (v v' : Value) (m : Int) (w : World) (hs : p.size ≤ 1000000) (ht : p'.size ≤ 1000000) (hm : w.cell? ⟨1, 0, none⟩ = some (.int .i64 m)) :
    Calls Tryz.prog 74 #[.agg #[.string p, .string i, .int .i64 r, .int .i64 s, .int .i64 t, .int .i64 e, v], .agg #[.string p', .string i', .int .i64 r', .int .i64 s', .int .i64 t', .int .i64 e', v']] w fun en w' => en = .returned (.bool (aheadB p r p' r')) ∧ Fr No w w' := by
  have h0 : Fr No w ((w.alloc (.cells #[.string p, .string i, .int .i64 r, .int .i64 s, .int .i64 t, .int .i64 e, v] 97)).alloc (.cells #[.string p', .string i', .int .i64 r', .int .i64 s', .int .i64 t', .int .i64 e', v'] 58)) := ((Fr.refl _ _).alloc _).alloc _
  have hm0 := h0.cell hm id
  have hb := m_before p i p' i' r s t e r' s' t' e' v v' m _ hs ht hm0
  have H0 := Lib.hid h0
  clear h0
  go_enter Tryz.func74, Tryz.ntmps74
  go_wp2_with fail
  refine hb.mono ?_
  rintro en w1 ⟨rfl, hf1⟩
  have Hf := Lib.hid (H0.out.step hf1 (fun _ _ h => h))
  clear hf1
  go_wp2_with fail
  go_ret
  exact ⟨rfl, Hf.out⟩
end Go.Proofs.YtbblkknndaoefaaGreatDoor
namespace Go.Proofs.YtbblkknndaoefaaGreatDoor
open Go.RowKit Go.Maps Go.Sort Go.Shelf
set_option linter.unusedVariables false

def kb (x : ByteArray) : List UInt8 := x.data.toList
def bk (x : List UInt8) : ByteArray := ⟨x.toArray⟩
theorem bk_kb (x : ByteArray) : bk (kb x) = x := by unfold bk kb; simp
theorem kb_bk (x : List UInt8) : kb (bk x) = x := by unfold bk kb; simp
theorem kb_inj {x y : ByteArray} (h : kb x = kb y) : x = y := by rw [← bk_kb x, h, bk_kb]
/-- How a value reads: as itself. -/
def heldV (v : Value) : Option (DataW Value × List MemPlace) := some (.held v, [])
/-- Block mb is a map with string keys: its look-up is g. -/
def VMap (w : World) (mb : Nat) (g : List UInt8 → Option Value) (N : Nat) : Prop :=
  ∃ (D : DataW Value) (n : Nat), n ≤ N ∧ w.ownsMap Tryz.prog 9 heldV mb n D ∧ (∀ x, has D (.string x) = (g x).isSome) ∧ ∀ x v, g x = some v → ∀ z, D.atKey (.string x) z = .held v
theorem VMap.lt {w : World} {mb : Nat} {g : List UInt8 → Option Value} {N : Nat} (h : VMap w mb g N) : mb < w.heap.size := by obtain ⟨D, n, _, ho, _⟩ := h; exact ho.lt
theorem VMap.fr {S : Nat → Prop} {w w' : World} {mb : Nat} {g : List UInt8 → Option Value} {N : Nat} (h : VMap w mb g N) (hf : Fr S w w') (hS : ¬ S mb) : VMap w' mb g N := by
  obtain ⟨D, n, hn, ho, r⟩ := h; exact ⟨D, n, hn, hf.ownsMap ho hS, r⟩
theorem VMap.made (w : World) : VMap (w.alloc (.map #[] 0)) w.heap.size (fun _ => none) 0 := ⟨.map [], 0, Nat.le_refl _, World.ownsMap_made _ _ _ _, fun _ => rfl, fun _ _ h => by cases h⟩
theorem VMap.mono {w : World} {mb : Nat} {g : List UInt8 → Option Value} {N M : Nat} (h : VMap w mb g N) (hN : N ≤ M) : VMap w mb g M := by
  obtain ⟨D, n, hn, r⟩ := h; exact ⟨D, n, by omega, r⟩
theorem lawS : Keyed Tryz.prog 9 := string_keyed Tryz.underlying9
theorem keyS {s : ByteArray} (hs : s.size ≤ maxLen) : keyOf Tryz.prog 9 (.string s) = some (.string (kb s)) := Go.WideMaps.keyOf_string_mk Tryz.underlying9 hs
theorem isKeyS (x : List UInt8) : WideAt.IsKeyLit (.string x) := trivial

theorem wp_vmap_ok {w : World} {ops : Array Oper} {rest : List Oper} {o : Oper} {a : Act} {Q : Exit → Act → World → Prop} (hg : o.guard = none) (m x : Operand) (t e : TypeId) (z : Value) (hz : (zeroValue e).run Tryz.prog w = .ok z w) (hop : o.op = Op.lookup t m x true) (ht : Tryz.prog.underlying t = some (.map 9 e))
    (mb : Nat) (g : List UInt8 → Option Value) (N : Nat) (k : ByteArray) (hk : k.size ≤ maxLen) (hm : a.eval m = .map (some mb)) (hown : VMap w mb g N) (hx : a.eval x = .string k)
    (v : Value) (hv : (g (kb k)).getD z = v) (b : Bool) (hb : (g (kb k)).isSome = b)
    (hK : wpList Tryz.prog ops Q rest (a.put o.dst (.tuple #[v, .bool b])) w) : wpList Tryz.prog ops Q (o :: rest) a w := by
  obtain ⟨D, n, _, ho, h1, h2⟩ := hown
  refine wpList_lookup_own_ok w hg m x t hop 9 e lawS ht heldV hz (.held z) [] rfl mb n D hm ho _ _ hx (keyS hk) (fun v1 ps hv1 => ?_)
  simp only [heldV, Option.some.injEq, Prod.mk.injEq] at hv1
  have e1 := hv1.1
  have hv' := hv
  have e : v1 = (g (kb k)).getD z := by
    rcases hgk : g (kb k) with _ | v'
    · have hh := h1 (kb k)
      rw [hgk] at hh
      rw [atKey_of_not_has hh] at e1
      simpa using e1
    · rw [h2 _ _ hgk] at e1
      simpa using e1
  rw [h1, e, hv', hb]; exact hK
theorem wp_vmap {w : World} {ops : Array Oper} {rest : List Oper} {o : Oper} {a : Act} {Q : Exit → Act → World → Prop} (hg : o.guard = none) (m x : Operand) (t e : TypeId) (z : Value) (hz : (zeroValue e).run Tryz.prog w = .ok z w) (hop : o.op = Op.lookup t m x false) (ht : Tryz.prog.underlying t = some (.map 9 e))
    (mb : Nat) (g : List UInt8 → Option Value) (N : Nat) (k : ByteArray) (hk : k.size ≤ maxLen) (hm : a.eval m = .map (some mb)) (hown : VMap w mb g N) (hx : a.eval x = .string k)
    (u : Value) (hu : (g (kb k)).getD z = u)
    (hK : wpList Tryz.prog ops Q rest (a.put o.dst u) w) : wpList Tryz.prog ops Q (o :: rest) a w := by
  obtain ⟨D, n, _, ho, h1, h2⟩ := hown
  refine wpList_plain hg fun K' hK' => ?_
  obtain ⟨v, ps, hrun, hv⟩ := ho.lookup lawS ht hz (zd := .held z) (zp := []) rfl (keyS hk)
  simp only [heldV, Option.some.injEq, Prod.mk.injEq] at hv
  have e1 := hv.1
  have e : v = (g (kb k)).getD z := by
    rcases hgk : g (kb k) with _ | v'
    · have hh := h1 (kb k)
      rw [hgk] at hh
      rw [atKey_of_not_has hh] at e1
      simpa using e1
    · rw [h2 _ _ hgk] at e1
      simpa using e1
  unfold Oper.wp
  simp [execOp, hop, hm, hx, hrun, Result.andThen]
  rw [e, hu]
  exact hK' _ _ hK

def updS (g : List UInt8 → Option Value) (x : List UInt8) (v : Value) : List UInt8 → Option Value := fun y => if y = x then some v else g y
theorem VMap.put {w w1 : World} {mb : Nat} {D : DataW Value} {n N : Nat} {g : List UInt8 → Option Value} (hn : n ≤ N) (ho : w.ownsMap Tryz.prog 9 heldV mb n D) (h1 : ∀ x, has D (.string x) = (g x).isSome) (h2 : ∀ x v, g x = some v → ∀ z, D.atKey (.string x) z = .held v)
    (x : List UInt8) (v : Value) (ho1 : w1.ownsMap Tryz.prog 9 heldV mb (n + 1) (D.put (.string x) (.held v))) : VMap w1 mb (updS g x v) (N + 1) := by
  refine ⟨_, n + 1, by omega, ho1, fun y => ?_, fun y u hu z => ?_⟩
  · unfold updS
    split
    · rename_i e; subst e; rw [has_put_same ho.isMap (isKeyS _) _]; rfl
    · rename_i e; rw [has_put_other (by intro e'; exact e (by simpa using e'))]; exact h1 y
  · unfold updS at hu
    split at hu
    · rename_i e; subst e; cases hu; rw [atKey_put_same ho.isMap (isKeyS _) _ _]
    · rename_i e; rw [atKey_put_other (by intro e'; exact e (by simpa using e'))]; exact h2 y u hu z
theorem wp_vmap_put {w : World} {ops : Array Oper} {rest : List Oper} {o : Oper} {a : Act} {Q : Exit → Act → World → Prop} (hg : o.guard = none) (m x v : Operand) (t e : TypeId) (hop : o.op = Op.mapUpdate t m x v) (ht : Tryz.prog.underlying t = some (.map 9 e))
    (mb : Nat) (g : List UInt8 → Option Value) (N : Nat) (hN : N < maxLen) (k : ByteArray) (hk : k.size ≤ maxLen) (u : Value) (hm : a.eval m = .map (some mb)) (hown : VMap w mb g N) (hx : a.eval x = .string k) (hv : a.eval v = u)
    (hK : ∀ w', VMap w' mb (updS g (kb k) u) (N + 1) → Fr (Is mb) w w' → wpList Tryz.prog ops Q rest (a.put o.dst undef) w') : wpList Tryz.prog ops Q (o :: rest) a w := by
  obtain ⟨D, n, hn, ho, h1, h2⟩ := hown
  exact wpList_mapUpdate_own w hg m x v t hop 9 e lawS ht heldV mb n D hm ho (by omega) _ _ _ hx hv (keyS hk) (.held u) [] rfl (fun w' h h' => hK w' (VMap.put hn ho h1 h2 _ _ h) (Fr.of_grown_some h'))

/-! ### the keys, sorted -/
def leS : List UInt8 → List UInt8 → Bool := fun x y => decide (x ≤ y)
/-- Strictly ascending texts. -/
def AscS (l : List (List UInt8)) : Prop := l.Pairwise (fun x y => leS x y = true ∧ x ≠ y)
theorem leS_antisymm {x y : List UInt8} (h : leS x y = true) (h' : leS y x = true) : x = y := by
  unfold leS at *
  simp only [decide_eq_true_eq] at *
  exact List.le_antisymm h h'
theorem leS_trans {x y z : List UInt8} (h : leS x y = true) (h' : leS y z = true) : leS x z = true := by
  unfold leS at *
  simp only [decide_eq_true_eq] at *
  exact List.le_trans h h'
theorem leS_total (x y : List UInt8) : (leS x y || leS y x) = true := by
  unfold leS
  simp only [Bool.or_eq_true, decide_eq_true_eq]
  exact List.le_total x y
theorem AscS.ext : ∀ {l l' : List (List UInt8)}, AscS l → AscS l' → (∀ x, x ∈ l ↔ x ∈ l') → l = l'
  | [], [], _, _, _ => rfl
  | [], y :: t, _, _, h => by have := (h y).2 (by simp); simp at this
  | x :: s, [], _, _, h => by have := (h x).1 (by simp); simp at this
  | x :: s, y :: t, h1, h2, h => by
    have a1 := List.pairwise_cons.1 h1
    have a2 := List.pairwise_cons.1 h2
    have hx := (h x).1 (by simp)
    have hy := (h y).2 (by simp)
    have e : x = y := by
      rcases List.mem_cons.1 hx with h3 | h3
      · exact h3
      · rcases List.mem_cons.1 hy with h4 | h4
        · exact h4.symm
        · exact leS_antisymm (a1.1 y h4).1 (a2.1 x h3).1
    subst e
    refine congrArg _ (AscS.ext a1.2 a2.2 fun z => ?_)
    constructor
    · intro hz
      rcases List.mem_cons.1 ((h z).1 (by simp [hz])) with h3 | h3
      · subst h3; exact absurd rfl (a1.1 z hz).2
      · exact h3
    · intro hz
      rcases List.mem_cons.1 ((h z).2 (by simp [hz])) with h3 | h3
      · subst h3; exact absurd rfl (a2.1 z hz).2
      · exact h3
theorem ascS_sorted {l : List (List UInt8)} (h : l.Nodup) : AscS (l.mergeSort leS) := by
  have h1 := List.pairwise_mergeSort (le := leS) (fun _ _ _ h h2 => leS_trans h h2) (fun a b => leS_total a b) l
  have h2 : (l.mergeSort leS).Nodup := (List.mergeSort_perm l _).nodup_iff.2 h
  exact (h1.and h2).imp (fun h => h)

theorem mem_strKeys {H : Type} {P : Program} {k : TypeId} {R : Value → Option (DataW H × List MemPlace)} {w : World} {b n : Nat} {D : DataW H} (h : w.ownsMap P k R b n D) (hk : P.underlying k = some .string) (x : List UInt8) :
    x ∈ strKeys D ↔ has D (.string x) = true := by
  obtain ⟨es, rfl, hko⟩ := h.keysOf
  rw [has_eq, List.any_eq_true]
  show x ∈ es.map (fun p => Go.strOf p.1) ↔ _
  rw [List.mem_map]
  constructor
  · rintro ⟨p, hp, rfl⟩
    obtain ⟨v, hv⟩ := hko p hp
    obtain ⟨y, _, hy, _⟩ := Maps.keyOf_str hk hv
    exact ⟨p, hp, by rw [hy]; simp [Lit.sameKey, Go.strOf]⟩
  · rintro ⟨p, hp, hs⟩
    obtain ⟨v, hv⟩ := hko p hp
    obtain ⟨y, _, hy, _⟩ := Maps.keyOf_str hk hv
    rw [hy] at hs
    exact ⟨p, hp, by rw [hy]; simpa [Lit.sameKey, Go.strOf] using hs⟩
theorem nodup_strKeys {H : Type} {P : Program} {k : TypeId} {R : Value → Option (DataW H × List MemPlace)} {w : World} {b n : Nat} {D : DataW H} (h : w.ownsMap P k R b n D) (K : Keyed P k) (hk : P.underlying k = some .string) :
    (strKeys D).Nodup := by
  obtain ⟨es, rfl, hko⟩ := h.keysOf
  obtain ⟨es', e, hp⟩ := h.tidy K
  obtain rfl : es = es' := by simpa using e
  show (es.map fun p => Go.strOf p.1).Nodup
  refine List.pairwise_map.2 (hp.imp_of_mem fun {p q} hp' hq' hne e => hne ?_)
  obtain ⟨v, hv⟩ := hko p hp'
  obtain ⟨a, _, ha, _⟩ := Maps.keyOf_str hk hv
  obtain ⟨v', hv'⟩ := hko q hq'
  obtain ⟨b, _, hb, _⟩ := Maps.keyOf_str hk hv'
  rw [ha, hb] at e ⊢
  exact congrArg _ e
theorem strKeys_len {H : Type} (D : DataW H) : (strKeys D).length ≤ Maps.size D := by
  cases D <;> simp [strKeys, Maps.size]

theorem sortsS (m : Nat) : AnyZ.SortsIn Tryz.prog Tryz.sortedS_ren Fence.wide m :=
  ⟨fun blk off cap ss W hH hblk hsz => callsIn_wide.2 (AnyM.slices_Sort_string Tryz.sortS blk off cap ss W hH hblk hsz),
   fun p cap W => callsIn_wide.2 (AnyM.slices_Sort_string_none Tryz.sortS p cap W)⟩

set_option maxHeartbeats 1000000 in
theorem m_keys (mb : Option Nat) (w : World) : Calls Tryz.prog 76 #[.map mb] w fun e w' => e = .returned (.func (.func 107) #[] #[.pointer (some ⟨w.heap.size, 0, none⟩)]) ∧ w' = w.alloc (.cells #[.map mb] 94) :=
  (callsIn_wide (n := 5)).1 (AnyZ.keys_in Tryz.keysM Fence.wide 5 trivial rfl mb w)

set_option maxHeartbeats 1000000 in
theorem m_sorted (mb Bm : Nat) (g : List UInt8 → Option Value) (N : Nat) (w : World) (hs : VMap w mb g N) (hN : N ≤ 1099511627776) (hB : w.cell? ⟨Bm, 0, none⟩ = some (.map (some mb))) (hBl : Bm < w.heap.size) :
    Calls Tryz.prog 75 #[.func (.func 107) #[] #[.pointer (some ⟨Bm, 0, none⟩)]] w fun e w' =>
      (∃ a cap ids, e = .returned (.slice a ids.length cap) ∧ Strs w' a cap ids ∧ AscS (ids.map kb) ∧ (∀ x : ByteArray, x ∈ ids ↔ (g (kb x)).isSome = true) ∧ ids.length ≤ N ∧ ∀ ad, a = some ad → w.heap.size ≤ ad.block) ∧ Fr No w w' := by
  obtain ⟨D, n, hn, hown, hf, _⟩ := hs
  have hsz := hown.size_le
  have hmax : Maps.size D ≤ maxLen := by unfold maxLen; omega
  have hbytes : Maps.size D * 16 ≤ 140737488355328 := by omega
  have hmem := mem_strKeys hown Tryz.underlying9
  have hnd := nodup_strKeys hown lawS Tryz.underlying9
  have hlen := strKeys_len D
  have hseq : SeqGives Fence.wide 2 Tryz.prog 107 #[.pointer (some ⟨Bm, 0, none⟩)] encStr (fun ss => ss.Perm (strKeys D)) (Maps.size D) w :=
    AnyZ.keys_gives (ρ := Tryz.keysM_ren) { Tryz.keysM with } Fence.wide _ trivial rfl (by omega) Bm mb n D _ hBl hB hown
  have cS := AnyZ.sorted_in Tryz.sortedS Fence.wide 5 trivial trivial trivial trivial rfl (by omega) (sortsS _) (enters_of Tryz.func106 (by kernel_rfl) rfl) 107 #[.pointer (some ⟨Bm, 0, none⟩)] trivial (enters_of Tryz.func107 (by kernel_rfl) rfl) _ _ hmax hbytes _ hseq
  refine ((callsIn_wide (n := 5)).1 cS).mono ?_
  rintro e w' ⟨v, ss, rfl, hperm, hrow, _, hb⟩
  have hp : (ss.mergeSort (fun x y => decide (x ≤ y))).Perm (strKeys D) := (List.mergeSort_perm ss _).trans hperm
  obtain ⟨L, hL⟩ : ∃ L, L = (ss.mergeSort (fun x y => decide (x ≤ y))) := ⟨_, rfl⟩
  have hl : (L.map bk).length = ss.length := by rw [hL]; simp
  have e1 : L.map encStr = (L.map bk).map Value.string := by rw [List.map_map]; rfl
  rw [← hL] at hp hrow
  rw [← hl, e1] at hrow
  obtain ⟨a, cap, rfl, h1, h2⟩ := Strs.of_own hrow
  have e2 : (L.map bk).map kb = L := by
    rw [List.map_map]
    have : kb ∘ bk = id := by funext x; exact kb_bk x
    rw [this, List.map_id]
  refine ⟨⟨a, cap, L.map bk, rfl, h1, ?_, fun x => ?_, ?_, h2⟩, Fr.of_below_size hb⟩
  · rw [e2, hL]; exact ascS_sorted (hperm.nodup_iff.2 hnd)
  · rw [← hf, ← hmem, ← hp.mem_iff]
    constructor
    · intro h
      obtain ⟨y, hy, rfl⟩ := List.mem_map.1 h
      rwa [kb_bk]
    · intro h
      exact List.mem_map.2 ⟨_, h, bk_kb x⟩
  · rw [List.length_map, hp.length_eq]; omega
end Go.Proofs.YtbblkknndaoefaaGreatDoor
namespace Go.Proofs.YtbblkknndaoefaaGreatDoor
open Go.RowKit
set_option linter.unusedVariables false

/-- A member: its path, ID, round, slot, total, least, and its inner texts with their place. -/
structure Mem where
  p : ByteArray
  i : ByteArray
  r : Int
  s : Int
  t : Int
  e : Int
  a : Option Addr
  l : List ByteArray
  c : Nat
def Mem.vals (m : Mem) : Array Value := #[.string m.p, .string m.i, .int .i64 m.r, .int .i64 m.s, .int .i64 m.t, .int .i64 m.e, .slice m.a m.l.length m.c]
def Mem.v (m : Mem) : Value := .agg m.vals
/-- A member without the place of its inner texts. -/
def Mem.k (m : Mem) : Mem := { m with a := none, c := 0 }
def Mem.zero : Mem := ⟨⟨#[]⟩, ⟨#[]⟩, 0, 0, 0, 0, none, [], 0⟩

/-- m comes ahead of o. -/
def ahead (m o : Mem) : Bool := aheadB m.p m.r o.p o.r
def bestS (g : List UInt8 → Option Mem) (m : Mem) : List UInt8 → Option Mem := fun x =>
  if (m.l.length == 1 && x == kb m.i && (match g x with | none => true | some o => ahead m o)) = true then some m else g x
def best (L : List Mem) : List UInt8 → Option Mem := L.foldl bestS fun _ => none
theorem best_snoc (L : List Mem) (m : Mem) : best (L ++ [m]) = bestS (best L) m := by simp [best, List.foldl_append]
theorem best_nil : best [] = fun _ => none := rfl
theorem bestS_skip {g : List UInt8 → Option Mem} {m : Mem} (h : m.l.length ≠ 1) : bestS g m = g := by
  funext x; unfold bestS; rw [if_neg (by simp [h])]
theorem bestS_keep {g : List UInt8 → Option Mem} {m o : Mem} (hg : g (kb m.i) = some o) (h : ahead m o = false) : bestS g m = g := by
  funext x; unfold bestS
  by_cases e : x = kb m.i
  · subst e; rw [hg]; simp [h]
  · rw [if_neg (by simp [e])]
theorem bestS_take {g : List UInt8 → Option Mem} {m : Mem} (h1 : m.l.length = 1) (h : ∀ o, g (kb m.i) = some o → ahead m o = true) : bestS g m = fun x => if x = kb m.i then some m else g x := by
  funext x; unfold bestS
  by_cases e : x = kb m.i
  · subst e
    rw [if_pos rfl]
    rcases hg : g (kb m.i) with _ | o
    · simp [h1]
    · simp [h1, h o hg]
  · rw [if_neg (by simp [e]), if_neg e]

theorem rev_ind {α : Type} {P : List α → Prop} (h0 : P []) (h1 : ∀ l x, P l → P (l ++ [x])) (l : List α) : P l := by
  have : ∀ l : List α, P l.reverse := by
    intro l
    induction l with
    | nil => exact h0
    | cons x t ih => rw [List.reverse_cons]; exact h1 _ _ ih
  simpa using this l.reverse

theorem bestS_cases (g : List UInt8 → Option Mem) (m : Mem) (x : List UInt8) : (bestS g m x = some m ∧ m.l.length = 1 ∧ x = kb m.i ∧ ∀ o, g x = some o → ahead m o = true) ∨ (bestS g m x = g x ∧ (m.l.length = 1 → x = kb m.i → ∃ o, g x = some o ∧ ahead m o = false)) := by
  by_cases h1 : m.l.length = 1
  · by_cases h2 : x = kb m.i
    · rcases hg : g x with _ | o
      · refine .inl ⟨?_, h1, h2, fun o ho => by cases ho⟩
        unfold bestS; rw [hg]; simp [h1, h2]
      · cases ha : ahead m o with
        | true =>
          refine .inl ⟨?_, h1, h2, fun o' ho => by cases ho; exact ha⟩
          unfold bestS; rw [hg]; simp [h1, h2, ha]
        | false =>
          refine .inr ⟨?_, fun _ _ => ⟨o, rfl, ha⟩⟩
          unfold bestS; rw [hg]; simp [ha]
    · refine .inr ⟨?_, fun _ h => absurd h h2⟩
      unfold bestS; rw [if_neg (by simp [h2])]
  · refine .inr ⟨?_, fun h => absurd h h1⟩
    unfold bestS; rw [if_neg (by simp [h1])]

theorem best_mem (L : List Mem) : ∀ x m, best L x = some m → m ∈ L ∧ m.l.length = 1 ∧ kb m.i = x := by
  refine rev_ind (P := fun L => ∀ x m, best L x = some m → m ∈ L ∧ m.l.length = 1 ∧ kb m.i = x) ?_ ?_ L
  · intro x m h; cases h
  · intro l y ih x m h
    rw [best_snoc] at h
    rcases bestS_cases (best l) y x with ⟨h1, h2, h3, _⟩ | ⟨h1, _⟩
    · rw [h1] at h; cases h
      exact ⟨by simp, h2, h3.symm⟩
    · rw [h1] at h
      obtain ⟨a, b⟩ := ih x m h
      exact ⟨by simp [a], b⟩
theorem best_some (L : List Mem) : ∀ m ∈ L, m.l.length = 1 → ∃ o, best L (kb m.i) = some o := by
  refine rev_ind (P := fun L => ∀ m ∈ L, m.l.length = 1 → ∃ o, best L (kb m.i) = some o) ?_ ?_ L
  · intro m h; cases h
  · intro l y ih m hm h1
    rw [best_snoc]
    rcases bestS_cases (best l) y (kb m.i) with ⟨h2, _⟩ | ⟨h2, h3⟩
    · exact ⟨y, h2⟩
    · rw [h2]
      rcases List.mem_append.1 hm with hm | hm
      · exact ih m hm h1
      · obtain rfl : m = y := by simpa using hm
        obtain ⟨o, ho, _⟩ := h3 h1 rfl
        exact ⟨o, ho⟩
theorem best_some_iff (L : List Mem) (x : List UInt8) : (best L x).isSome = true ↔ ∃ m ∈ L, m.l.length = 1 ∧ kb m.i = x := by
  constructor
  · intro h
    obtain ⟨m, hm⟩ := Option.isSome_iff_exists.1 h
    obtain ⟨h1, h2, h3⟩ := best_mem L x m hm
    exact ⟨m, h1, h2, h3⟩
  · rintro ⟨m, h1, h2, rfl⟩
    obtain ⟨o, ho⟩ := best_some L m h1 h2
    rw [ho]; rfl

/-! ### rounds -/
theorem ahead_round {m o : Mem} (h : ahead m o = true) : m.r ≤ o.r := by
  unfold ahead aheadB at h
  simp only [decide_eq_true_eq] at h
  unfold orI cmpI at h
  by_cases h1 : m.r < o.r
  · omega
  · by_cases h2 : o.r < m.r
    · simp [h1, h2] at h
    · omega
theorem not_ahead_round {m o : Mem} (h : ahead m o = false) : o.r ≤ m.r := by
  unfold ahead aheadB at h
  simp only [decide_eq_false_iff_not] at h
  unfold orI cmpI at h
  by_cases h1 : m.r < o.r
  · simp [h1] at h
  · omega
theorem best_round (L : List Mem) : ∀ m ∈ L, m.l.length = 1 → ∀ o, best L (kb m.i) = some o → o.r ≤ m.r := by
  refine rev_ind (P := fun L => ∀ m ∈ L, m.l.length = 1 → ∀ o, best L (kb m.i) = some o → o.r ≤ m.r) ?_ ?_ L
  · intro m h; cases h
  · intro l y ih m hm h1 o ho
    rw [best_snoc] at ho
    rcases bestS_cases (best l) y (kb m.i) with ⟨h2, h3, h4, h5⟩ | ⟨h2, h3⟩
    · rw [h2] at ho; cases ho
      rcases List.mem_append.1 hm with hm | hm
      · obtain ⟨o', ho'⟩ := best_some l m hm h1
        have h6 := ih m hm h1 o' ho'
        have h7 := ahead_round (h5 o' ho')
        omega
      · obtain rfl : m = y := by simpa using hm
        omega
    · rw [h2] at ho
      rcases List.mem_append.1 hm with hm | hm
      · exact ih m hm h1 o ho
      · obtain rfl : m = y := by simpa using hm
        obtain ⟨o', ho', h6⟩ := h3 h1 rfl
        rw [ho] at ho'; cases ho'
        exact not_ahead_round h6

/-! ### the IDs -/
/-- ids are the IDs of L, ascending. -/
structure IsIds (L : List Mem) (ids : List ByteArray) : Prop where
  asc : AscS (ids.map kb)
  mem : ∀ x : ByteArray, x ∈ ids ↔ (best L (kb x)).isSome = true
theorem map_kb_inj : ∀ {l l' : List ByteArray}, l.map kb = l'.map kb → l = l'
  | [], [], _ => rfl
  | [], _ :: _, h => by simp at h
  | _ :: _, [], h => by simp at h
  | x :: s, y :: t, h => by
    simp only [List.map_cons, List.cons.injEq] at h
    rw [kb_inj h.1, map_kb_inj h.2]
theorem mem_kb {l : List ByteArray} {x : List UInt8} : x ∈ l.map kb ↔ bk x ∈ l := by
  constructor
  · intro h
    obtain ⟨y, hy, rfl⟩ := List.mem_map.1 h
    rwa [bk_kb]
  · intro h
    exact List.mem_map.2 ⟨_, h, kb_bk x⟩
theorem IsIds.unique {L L' : List Mem} {ids ids' : List ByteArray} (h : IsIds L ids) (h' : IsIds L' ids') (hL : ∀ x, (best L x).isSome = (best L' x).isSome) : ids = ids' := by
  refine map_kb_inj (AscS.ext h.asc h'.asc fun x => ?_)
  rw [mem_kb, mem_kb, h.mem, h'.mem, hL]
/-- The members to which those of L belong. -/
def own1 (L : List Mem) (ids : List ByteArray) : List Mem := ids.map fun x => ((best L (kb x)).getD Mem.zero).k
end Go.Proofs.YtbblkknndaoefaaGreatDoor
