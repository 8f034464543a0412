/- Owners. Contents and their texts. Plain: no program is in sight. A valid content's text is parsed as this content. Plain. -/
import Derived.Test.YtbblkknndaoefaaGreatDoorZV5
import Derived.Test.YtbblkknndaoefaaGreatDoorZV6
import Derived.Laws.EntriesVeiled
import Derived.Lib.AtoiAll
import Derived.Lib.ItoaNum
namespace Go.Proofs.YtbblkknndaoefaaGreatDoor
open Go.RowKit Go.Maps
set_option linter.unusedVariables false

def mapM (g : List UInt8 → Option Mem) : List UInt8 → Option Value := fun x => (g x).map Mem.v
theorem mapM_upd (g : List UInt8 → Option Mem) (x : List UInt8) (m : Mem) : updS (mapM g) x m.v = mapM (fun y => if y = x then some m else g y) := by
  funext y
  unfold updS mapM
  by_cases h : y = x <;> simp [h]
def zeroMem : Value := .agg #[.string ⟨#[]⟩, .string ⟨#[]⟩, .int .i64 0, .int .i64 0, .int .i64 0, .int .i64 0, .slice none 0 0]
theorem zeroM (w : World) : (zeroValue 58).run Tryz.prog w = .ok zeroMem w := by kernel_rfl

/-- The sizes of a list of members. -/
structure MemSmall (L : List Mem) : Prop where
  len : L.length ≤ 1000
  p : ∀ m ∈ L, m.p.size ≤ 1000000
  i : ∀ m ∈ L, m.i.size ≤ 1000000
  l : ∀ m ∈ L, m.l.length ≤ 1000000
/-- What Owners answers. -/
def OwnRes (w : World) (L : List Mem) (e : Ending) (w' : World) : Prop :=
  ∃ (a' : Option Addr) (c' : Nat) (O : List Mem) (ids : List ByteArray), e = .returned (.slice a' O.length c') ∧ Mems w' a' c' O ∧ (∀ ad, a' = some ad → w.heap.size ≤ ad.block) ∧ MFresh w' w.heap.size O ∧ IsIds L ids ∧ O.map Mem.k = own1 L ids ∧ ids.length ≤ L.length

set_option maxRecDepth 100000 in
set_option maxHeartbeats 8000000 in
theorem c_owners (a : Option Addr) (cap : Nat) (L : List Mem) (m0 : Int) (w : World) (hl : Mems w a cap L) (hb : MemSmall L) (hm0 : w.cell? ⟨1, 0, none⟩ = some (.int .i64 m0)) (hw0 : 1 < w.heap.size) :
    Calls Tryz.prog 19 #[.slice a L.length cap] w fun e w' => OwnRes w L e w' ∧ Fr No w w' := by
  obtain ⟨i0, hi0, hz0, hz1, hz2⟩ := info_parts infoM
  have hlm := hb.len
  have hmm := @run_makeMap Tryz.prog
  have hx : Fr No w (w.alloc (.map #[] 0)) := (Fr.refl _ _).alloc _
  have hI0 := VMap.made w
  have hs0 : w.heap.size < (w.alloc (.map #[] 0)).heap.size := by simp
  have hlk : ∀ W : World, Fr (From w.heap.size) w W → Mems W a cap L := fun W hf => hl.keep hf (fun b hb h => by unfold From at h; omega)
  have Hlk := Lib.hid hlk
  have Hb := Lib.hid hb
  clear hlk hb hl
  go_enter Tryz.func19, Tryz.ntmps19
  go_wp2_with fail
  clear hmm
  generalize w.alloc (.map #[] 0) = W0 at *
  go_loopw [16] (fun i wr => ∃ k : Nat, k ≤ L.length ∧ i = .int .i64 (k : Int) ∧ VMap wr w.heap.size (mapM (best (L.take k))) k ∧ Fr (From w.heap.size) w wr ∧ w.heap.size < wr.heap.size) (fun i _ => L.length - (intOf i).toNat)
  case atStart => exact ⟨0, by omega, rfl, by exact hI0, hx.mono (fun _ _ h => h.elim), hs0⟩
  case round =>
    obtain ⟨k, hk, rfl, hI, hfr, hsr⟩ := hrel
    by_cases hlt : k < L.length
    · have hlt' : (k : Int) < L.length := by omega
      obtain ⟨b, off, m, rfl, hxk, hst, hat, hbl⟩ := (Hlk.out _ hfr).elem hlt
      have hmem := List.mem_of_getElem? hxk
      have Htk : Hid (L.take (k + 1) = L.take k ++ [m]) := by unfold Hid; rw [List.take_add_one, hxk]; rfl
      have hpm := Hb.out.p m hmem
      have him : m.i.size ≤ maxLen := by have := Hb.out.i m hmem; unfold maxLen; omega
      have hm1 : wr.cell? ⟨1, 0, none⟩ = some (.int .i64 m0) := hfr.cell hm0 (by show ¬ From w.heap.size 1; unfold From; omega)
      obtain ⟨mp, mi, mr, ms, mt, me, ma, ml, mc⟩ := m
      obtain ⟨c0, c1, c2, c3, c4, c5, c6⟩ := hat
      simp only at c0 c1 c2 c3 c4 c5 c6 hpm him
      clear hxk hst hmem
      by_cases hl1 : ml.length = 1
      · have hne : ((ml.length : Int) != 1) = false := by simp [hl1]
        have Hl1 := Lib.hid hl1
        clear hl1
        have hx1 : Fr No wr (wr.alloc (.cells #[.string mp, .string mi, .int .i64 mr, .int .i64 ms, .int .i64 mt, .int .i64 me, .slice ma ml.length mc] 58)) := (Fr.refl _ _).alloc _
        have q1 := block_alloc wr (.cells #[.string mp, .string mi, .int .i64 mr, .int .i64 ms, .int .i64 mt, .int .i64 me, .slice ma ml.length mc] 58)
        have hIx := hI.fr hx1 id
        clear hI
        rcases hg : best (L.take k) (kb mi) with _ | o
        · have hv : (mapM (best (L.take k)) (kb mi)).getD zeroMem = .agg #[.string ⟨#[]⟩, .string ⟨#[]⟩, .int .i64 0, .int .i64 0, .int .i64 0, .int .i64 0, .slice none 0 0] := by unfold mapM; rw [hg]; rfl
          have hbo : (mapM (best (L.take k)) (kb mi)).isSome = false := by unfold mapM; rw [hg]; rfl
          have Hg : Hid (∀ o, best (L.take k) (kb mi) = some o → ahead ⟨mp, mi, mr, ms, mt, me, ma, ml, mc⟩ o = true) := fun o ho => by rw [hg] at ho; cases ho
          clear hg
          go_upto_region 8 with (at_lookup; refine wp_vmap_ok rfl _ _ 94 58 zeroMem (zeroM _) rfl Tryz.underlying94 w.heap.size _ k mi him rfl hIx rfl (.agg #[.string ⟨#[]⟩, .string ⟨#[]⟩, .int .i64 0, .int .i64 0, .int .i64 0, .int .i64 0, .slice none 0 0]) hv false hbo ?_)
          have hx2 : Fr No wr ((wr.alloc (.cells #[.string mp, .string mi, .int .i64 mr, .int .i64 ms, .int .i64 mt, .int .i64 me, .slice ma ml.length mc] 58)).alloc (.cells #[.string ⟨#[]⟩, .string ⟨#[]⟩, .int .i64 0, .int .i64 0, .int .i64 0, .int .i64 0, .slice none 0 0] 58)) := hx1.alloc _
          have q2 := block_alloc1 wr (.cells #[.string mp, .string mi, .int .i64 mr, .int .i64 ms, .int .i64 mt, .int .i64 me, .slice ma ml.length mc] 58) (.cells #[.string ⟨#[]⟩, .string ⟨#[]⟩, .int .i64 0, .int .i64 0, .int .i64 0, .int .i64 0, .slice none 0 0] 58)
          have hI2 := hIx.fr ((Fr.refl No _).alloc (.cells #[.string ⟨#[]⟩, .string ⟨#[]⟩, .int .i64 0, .int .i64 0, .int .i64 0, .int .i64 0, .slice none 0 0] 58)) id
          clear hIx hv hbo c0 c1 c2 c3 c4 c5 c6 q1 hx1
          generalize (wr.alloc (.cells #[.string mp, .string mi, .int .i64 mr, .int .i64 ms, .int .i64 mt, .int .i64 me, .slice ma ml.length mc] 58)).alloc (.cells #[.string ⟨#[]⟩, .string ⟨#[]⟩, .int .i64 0, .int .i64 0, .int .i64 0, .int .i64 0, .slice none 0 0] 58) = W2 at *
          have y0 : W2.cell? ⟨wr.heap.size, 0, none⟩ = some (.string mp) := cell_of_block q2 0
          have y1 : W2.cell? ⟨wr.heap.size, 1, none⟩ = some (.string mi) := cell_of_block q2 1
          have y2 : W2.cell? ⟨wr.heap.size, 2, none⟩ = some (.int .i64 mr) := cell_of_block q2 2
          have y3 : W2.cell? ⟨wr.heap.size, 3, none⟩ = some (.int .i64 ms) := cell_of_block q2 3
          have y4 : W2.cell? ⟨wr.heap.size, 4, none⟩ = some (.int .i64 mt) := cell_of_block q2 4
          have y5 : W2.cell? ⟨wr.heap.size, 5, none⟩ = some (.int .i64 me) := cell_of_block q2 5
          have y6 : W2.cell? ⟨wr.heap.size, 6, none⟩ = some (.slice ma ml.length mc) := cell_of_block q2 6
          have Hf2 := Lib.hid (hfr.step hx2 (fun _ _ h => h.elim))
          have hs2 := hx2.size
          clear q2 hx2 hfr
          go_wp2_with (at_mapUpdate; refine wp_vmap_put rfl _ _ _ 94 58 rfl Tryz.underlying94 w.heap.size _ k (by unfold maxLen; omega) mi him (.agg #[.string mp, .string mi, .int .i64 mr, .int .i64 ms, .int .i64 mt, .int .i64 me, .slice ma ml.length mc]) rfl hI2 rfl rfl ?_; intro w4 hI4 hg4)
          have hI5 : VMap w4 w.heap.size (mapM (best (L.take (k + 1)))) (k + 1) := by rw [Htk.out, best_snoc, bestS_take Hl1.out Hg.out, ← mapM_upd]; exact hI4
          have H := Lib.hid (And.intro hI5 (And.intro (Hf2.out.step hg4 (fun b hb e => by unfold Is at e; unfold From; omega)) hg4.size))
          clear hI4 hI5 hg4
          go_roundw
          case rel => exact ⟨k + 1, by omega, by go_num, H.out.1, H.out.2.1, by have := H.out.2.2; omega⟩
          case measure => simp [intOf]; omega
        · obtain ⟨op, oi, or, os, ot, oe, oa, ol, oc⟩ := o
          have hv : (mapM (best (L.take k)) (kb mi)).getD zeroMem = .agg #[.string op, .string oi, .int .i64 or, .int .i64 os, .int .i64 ot, .int .i64 oe, .slice oa ol.length oc] := by unfold mapM; rw [hg]; rfl
          have hbo : (mapM (best (L.take k)) (kb mi)).isSome = true := by unfold mapM; rw [hg]; rfl
          have hop := Hb.out.p _ (List.mem_of_mem_take (best_mem _ _ _ hg).1)
          simp only at hop
          have Hg := Lib.hid hg
          clear hg
          go_upto_region 8 with (at_lookup; refine wp_vmap_ok rfl _ _ 94 58 zeroMem (zeroM _) rfl Tryz.underlying94 w.heap.size _ k mi him rfl hIx rfl (.agg #[.string op, .string oi, .int .i64 or, .int .i64 os, .int .i64 ot, .int .i64 oe, .slice oa ol.length oc]) hv true hbo ?_)
          have hx2 : Fr No wr ((wr.alloc (.cells #[.string mp, .string mi, .int .i64 mr, .int .i64 ms, .int .i64 mt, .int .i64 me, .slice ma ml.length mc] 58)).alloc (.cells #[.string op, .string oi, .int .i64 or, .int .i64 os, .int .i64 ot, .int .i64 oe, .slice oa ol.length oc] 58)) := hx1.alloc _
          have q2 := block_alloc1 wr (.cells #[.string mp, .string mi, .int .i64 mr, .int .i64 ms, .int .i64 mt, .int .i64 me, .slice ma ml.length mc] 58) (.cells #[.string op, .string oi, .int .i64 or, .int .i64 os, .int .i64 ot, .int .i64 oe, .slice oa ol.length oc] 58)
          have q3 := block_alloc2 wr (.cells #[.string mp, .string mi, .int .i64 mr, .int .i64 ms, .int .i64 mt, .int .i64 me, .slice ma ml.length mc] 58) (.cells #[.string op, .string oi, .int .i64 or, .int .i64 os, .int .i64 ot, .int .i64 oe, .slice oa ol.length oc] 58)
          have hI2 := hIx.fr ((Fr.refl No _).alloc (.cells #[.string op, .string oi, .int .i64 or, .int .i64 os, .int .i64 ot, .int .i64 oe, .slice oa ol.length oc] 58)) id
          clear hIx hv hbo c0 c1 c2 c3 c4 c5 c6 q1 hx1
          generalize (wr.alloc (.cells #[.string mp, .string mi, .int .i64 mr, .int .i64 ms, .int .i64 mt, .int .i64 me, .slice ma ml.length mc] 58)).alloc (.cells #[.string op, .string oi, .int .i64 or, .int .i64 os, .int .i64 ot, .int .i64 oe, .slice oa ol.length oc] 58) = W2 at *
          have z0 : W2.cell? ⟨wr.heap.size + 1, 0, none⟩ = some (.string op) := cell_of_block q3 0
          have z1 : W2.cell? ⟨wr.heap.size + 1, 1, none⟩ = some (.string oi) := cell_of_block q3 1
          have z2 : W2.cell? ⟨wr.heap.size + 1, 2, none⟩ = some (.int .i64 or) := cell_of_block q3 2
          have z3 : W2.cell? ⟨wr.heap.size + 1, 3, none⟩ = some (.int .i64 os) := cell_of_block q3 3
          have z4 : W2.cell? ⟨wr.heap.size + 1, 4, none⟩ = some (.int .i64 ot) := cell_of_block q3 4
          have z5 : W2.cell? ⟨wr.heap.size + 1, 5, none⟩ = some (.int .i64 oe) := cell_of_block q3 5
          have z6 : W2.cell? ⟨wr.heap.size + 1, 6, none⟩ = some (.slice oa ol.length oc) := cell_of_block q3 6
          have hm2 := hx2.cell hm1 id
          have Hf2 := Lib.hid (hfr.step hx2 (fun _ _ h => h.elim))
          have hs2 := hx2.size
          clear q3 hx2 hfr hm1
          go_wp2_with fail
          refine (l_ahead mp mi op oi mr ms mt me or os ot oe _ _ m0 _ hpm hop hm2).mono ?_
          rintro en w3 ⟨rfl, hf3⟩
          have q4 := hf3.heap q2 id
          have hI3 := hI2.fr hf3 id
          have Hf3 := Lib.hid (Hf2.out.step hf3 (fun _ _ h => h.elim))
          have hs3 := hf3.size
          clear z0 z1 z2 z3 z4 z5 z6 hf3 q2 hm2 hI2
          rcases ha : aheadB mp mr op or with _ | _
          · have hI5 : VMap w3 w.heap.size (mapM (best (L.take (k + 1)))) k := by rw [Htk.out, best_snoc, bestS_keep (m := ⟨mp, mi, mr, ms, mt, me, ma, ml, mc⟩) (o := ⟨op, oi, or, os, ot, oe, oa, ol, oc⟩) Hg.out ha]; exact hI3
            have H := Lib.hid (And.intro hI5 Hf3.out)
            clear hI5 hI3 q4
            go_wp2_with fail
            go_roundw
            case rel => exact ⟨k + 1, by omega, by go_num, H.out.1.mono (by omega), H.out.2, by omega⟩
            case measure => simp [intOf]; omega
          · have Hah : Hid (∀ o, best (L.take k) (kb mi) = some o → ahead ⟨mp, mi, mr, ms, mt, me, ma, ml, mc⟩ o = true) := fun o ho => by rw [Hg.out] at ho; cases ho; exact ha
            have y0 : w3.cell? ⟨wr.heap.size, 0, none⟩ = some (.string mp) := cell_of_block q4 0
            have y1 : w3.cell? ⟨wr.heap.size, 1, none⟩ = some (.string mi) := cell_of_block q4 1
            have y2 : w3.cell? ⟨wr.heap.size, 2, none⟩ = some (.int .i64 mr) := cell_of_block q4 2
            have y3 : w3.cell? ⟨wr.heap.size, 3, none⟩ = some (.int .i64 ms) := cell_of_block q4 3
            have y4 : w3.cell? ⟨wr.heap.size, 4, none⟩ = some (.int .i64 mt) := cell_of_block q4 4
            have y5 : w3.cell? ⟨wr.heap.size, 5, none⟩ = some (.int .i64 me) := cell_of_block q4 5
            have y6 : w3.cell? ⟨wr.heap.size, 6, none⟩ = some (.slice ma ml.length mc) := cell_of_block q4 6
            clear q4 ha
            go_wp2_with (at_mapUpdate; refine wp_vmap_put rfl _ _ _ 94 58 rfl Tryz.underlying94 w.heap.size _ k (by unfold maxLen; omega) mi him (.agg #[.string mp, .string mi, .int .i64 mr, .int .i64 ms, .int .i64 mt, .int .i64 me, .slice ma ml.length mc]) rfl hI3 rfl rfl ?_; intro w4 hI4 hg4)
            have hI5 : VMap w4 w.heap.size (mapM (best (L.take (k + 1)))) (k + 1) := by rw [Htk.out, best_snoc, bestS_take Hl1.out Hah.out, ← mapM_upd]; exact hI4
            have H := Lib.hid (And.intro hI5 (And.intro (Hf3.out.step hg4 (fun b hb e => by unfold Is at e; unfold From; omega)) hg4.size))
            clear hI4 hI5 hg4
            go_roundw
            case rel => exact ⟨k + 1, by omega, by go_num, H.out.1, H.out.2.1, by have := H.out.2.2; omega⟩
            case measure => simp [intOf]; omega
      · have hne : ((ml.length : Int) != 1) = true := by simp; omega
        have hx1 : Fr No wr (wr.alloc (.cells #[.string mp, .string mi, .int .i64 mr, .int .i64 ms, .int .i64 mt, .int .i64 me, .slice ma ml.length mc] 58)) := (Fr.refl _ _).alloc _
        have hI1 : VMap (wr.alloc (.cells #[.string mp, .string mi, .int .i64 mr, .int .i64 ms, .int .i64 mt, .int .i64 me, .slice ma ml.length mc] 58)) w.heap.size (mapM (best (L.take (k + 1)))) k := by rw [Htk.out, best_snoc, bestS_skip hl1]; exact hI.fr hx1 id
        have H := Lib.hid (And.intro hI1 (And.intro (hfr.step hx1 (fun _ _ h => h.elim)) hx1.size))
        clear hI1 hI hx1 hfr hl1
        go_wp2_with fail
        go_roundw
        case rel => exact ⟨k + 1, by omega, by go_num, H.out.1.mono (by omega), H.out.2.1, by have := H.out.2.2; omega⟩
        case measure => simp [intOf]; omega
    · obtain rfl : k = L.length := by omega
      rw [List.take_length] at hI
      go_wp2_with fail
      refine (m_keys _ _).mono ?_
      rintro en w1 ⟨rfl, rfl⟩
      have hx1 : Fr No wr (wr.alloc (.cells #[.map (some w.heap.size)] 94)) := (Fr.refl _ _).alloc _
      have q1 := block_alloc wr (.cells #[.map (some w.heap.size)] 94)
      have hs1 : wr.heap.size < (wr.alloc (.cells #[.map (some w.heap.size)] 94)).heap.size := by simp
      have hI1 := hI.fr hx1 id
      have Hf1 := Lib.hid (hfr.step hx1 (fun _ _ h => h.elim))
      clear hI hfr hx1
      go_wp2_with fail
      generalize wr.alloc (.cells #[.map (some w.heap.size)] 94) = W1 at *
      refine (m_sorted w.heap.size wr.heap.size _ L.length W1 hI1 (by omega) (cell_of_block q1 0) hs1).mono ?_
      rintro en w2 ⟨⟨ia, ic, ids, rfl, hS, hasc, hmem, hln, hfresh⟩, hf2⟩
      have hids : IsIds L ids := ⟨hasc, fun x => by rw [hmem]; unfold mapM; rw [Option.isSome_map]⟩
      have hI2 := hI1.fr hf2 id
      have Hf2 := Lib.hid (Hf1.out.step hf2 (fun _ _ h => h.elim))
      have hs2 := hf2.size
      have Hids := Lib.hid hids
      have hil := hS.lenmax
      clear q1 hI1 hf2 hasc hmem hids hfresh
      go_wp2_with fail
      go_loopw [9, 50] (fun v i wr => ∃ (j : Nat) (O : List Mem) (av : Option Addr) (cv : Nat), j ≤ ids.length ∧ O.length ≤ j ∧ v = .slice av O.length cv ∧ i = .int .i64 (j : Int) ∧ wr.ownsRow w2.heap.size 58 7 (.slice av O.length cv) O.length (mflat O) ∧ MFresh wr w2.heap.size O ∧ Hid (O.map Mem.k = own1 L (ids.take j)) ∧ Fr (From w2.heap.size) w2 wr) (fun _ i _ => ids.length - (intOf i).toNat)
      case atStart => exact ⟨0, [], none, 0, by omega, by simp, rfl, rfl, World.ownsRow_nil _ _ _ _, fun m hm => by simp at hm, by unfold Hid own1; simp, Fr.refl _ _⟩
      case round =>
        obtain ⟨j, O, av, cv, hj, hOj, rfl, rfl, hown, hMF, HO, hf⟩ := hrel
        by_cases hlt : j < ids.length
        · have hlt' : (j : Int) < ids.length := by omega
          obtain ⟨b, off, x, rfl, hxj, hc⟩ := (hS.keep hf (fun b hb h => by unfold From at h; omega)).at hlt
          have hxi := List.mem_of_getElem? hxj
          have Htj : Hid (ids.take (j + 1) = ids.take j ++ [x]) := by unfold Hid; rw [List.take_add_one, hxj]; rfl
          obtain ⟨o, ho⟩ := Option.isSome_iff_exists.1 ((Hids.out.mem x).1 hxi)
          obtain ⟨hoL, hol1, hok⟩ := best_mem _ _ _ ho
          have hosz := Hb.out.i o hoL
          have hoi := kb_inj hok
          have hxs : x.size ≤ maxLen := by rw [← hoi]; unfold maxLen; omega
          have hfw := Hf2.out.trans hf (fun b hb h => h) (fun b hb h => by unfold From at h ⊢; omega)
          have hoS := (Hlk.out _ hfw).ok o hoL
          have hv : (mapM (best L) (kb x)).getD zeroMem = o.v := by unfold mapM; rw [ho]; rfl
          have hI3 := hI2.fr hf (by unfold From; omega)
          have Hfw := Lib.hid hfw
          have Ho := Lib.hid ho
          clear ho hoL hosz hoi hok hxi hxj hfw
          obtain ⟨op, oi, or, os, ot, oe, oa, ol, oc⟩ := o
          simp only at hoS hol1
          unfold Mem.v Mem.vals at hv
          simp only at hv
          have hol2 : ol.length ≤ 1000000 := by omega
          have hx3 : Fr No wr (wr.alloc (.cells #[.string op, .string oi, .int .i64 or, .int .i64 os, .int .i64 ot, .int .i64 oe, .slice oa ol.length oc] 58)) := (Fr.refl _ _).alloc _
          have q3 := block_alloc wr (.cells #[.string op, .string oi, .int .i64 or, .int .i64 os, .int .i64 ot, .int .i64 oe, .slice oa ol.length oc] 58)
          have hoS3 := hoS.no hx3 (fun _ => id)
          have Hol1 := Lib.hid hol1
          clear hoS hol1
          go_upto_region 16 with (at_lookup; refine wp_vmap rfl _ _ 94 58 zeroMem (zeroM _) rfl Tryz.underlying94 w.heap.size _ _ x hxs rfl hI3 rfl (.agg #[.string op, .string oi, .int .i64 or, .int .i64 os, .int .i64 ot, .int .i64 oe, .slice oa ol.length oc]) hv ?_)
          generalize wr.alloc (.cells #[.string op, .string oi, .int .i64 or, .int .i64 os, .int .i64 ot, .int .i64 oe, .slice oa ol.length oc] 58) = W3 at *
          have z6 : W3.cell? ⟨wr.heap.size, 6, none⟩ = some (.slice oa ol.length oc) := cell_of_block q3 6
          clear hI3 hv hc
          go_wp2_with fail
          refine (strs_clone oa oc ol W3 hoS3 hol2).mono ?_
          rintro en w4 ⟨⟨a1, c1, rfl, hS4, hB4, hF4⟩, hf4⟩
          have q4 := hf4.heap q3 id
          have z7 : w4.frozen? ⟨wr.heap.size, 6, none⟩ = false := free_of_block q4 6
          have z8 : w4.cell? ⟨wr.heap.size, 6, none⟩ = some (.slice oa ol.length oc) := cell_of_block q4 6
          have q5 := block_setCell q4 6 (.slice a1 ol.length c1)
          have hs3 := hx3.size
          have hlb := lt_of_block q3
          have hf34 : Fr No wr w4 := hx3.step hf4 (fun _ _ h => h)
          have hf5 : Fr (Is wr.heap.size) w4 (w4.setCell ⟨wr.heap.size, 6, none⟩ (.slice a1 ol.length c1)) := Fr.setCell (S := Is wr.heap.size) (p := ⟨wr.heap.size, 6, none⟩) (Fr.refl _ _) (fun _ => rfl) _
          clear z6 q3 q4 hoS3
          go_upto_region 17 with (fail)
          generalize w4.setCell ⟨wr.heap.size, 6, none⟩ (.slice a1 ol.length c1) = W5 at *
          have hf25 : Fr (fun b => wr.heap.size ≤ b) wr W5 := (hf34.mono (fun _ _ h => h.elim)).step hf5 (fun b _ h => by unfold Is at h; omega)
          have hown5 := ownsRow_at hown hf25 (fun b hb h => by have h1 := ownsRow_lt hown hb; omega)
          have hMF5 := hMF.fr hf25 (fun b _ h1 h2 => by omega)
          have hS5 := hS4.fr hf5 (fun ad e _ h => by have := hF4 ad e; unfold Is at h; omega)
          have hB5 := hB4.fr hf5 (fun ad e h => by have := hF4 ad e; unfold Is at h; omega)
          simp at q5
          have y0 : W5.cell? ⟨wr.heap.size, 0, none⟩ = some (.string op) := cell_of_block q5 0
          have y1 : W5.cell? ⟨wr.heap.size, 1, none⟩ = some (.string oi) := cell_of_block q5 1
          have y2 : W5.cell? ⟨wr.heap.size, 2, none⟩ = some (.int .i64 or) := cell_of_block q5 2
          have y3 : W5.cell? ⟨wr.heap.size, 3, none⟩ = some (.int .i64 os) := cell_of_block q5 3
          have y4 : W5.cell? ⟨wr.heap.size, 4, none⟩ = some (.int .i64 ot) := cell_of_block q5 4
          have y5 : W5.cell? ⟨wr.heap.size, 5, none⟩ = some (.int .i64 oe) := cell_of_block q5 5
          have y6 : W5.cell? ⟨wr.heap.size, 6, none⟩ = some (.slice a1 ol.length c1) := cell_of_block q5 6
          have hsf := hf25.size
          have hsr2 := hf.size
          have Hf25 := Lib.hid hf25
          have HS5 := Lib.hid (And.intro hS5 (And.intro hB5 hF4))
          have Hown5 := Lib.hid hown5
          have HMF5 := Lib.hid hMF5
          clear z7 z8 q5 hf5 hf34 hx3 hf4 hS4 hB4 hF4 hown hMF hf25 hS5 hB5 hMF5
          go_wp2_with (at_builtin; refine wpList_append_own _ rfl _ _ 23 rfl w2.heap.size 58 i0 (.agg #[.string ByteArray.empty, .string ByteArray.empty, .int .i64 0, .int .i64 0, .int .i64 0, .int .i64 0, .slice none 0 0]) 7 88 Tryz.underlying23 hi0 hz0 hz1 hz2 rfl (by decide) _ _ _ rfl (hown5.alloc _) ⟨W5.heap.size, 0, none⟩ 1 1 (Mem.vals ⟨op, oi, or, os, ot, oe, a1, ol, c1⟩).toList rfl rfl (cells_new _ (Mem.vals ⟨op, oi, or, os, ot, oe, a1, ol, c1⟩) _ rfl) (mvals_one _) (by unfold maxLen; omega) (by omega) (by first | omega | (simp; done) | (simp; omega)) ?_; intro v' w6 hown6 hgrow6 _; obtain ⟨av', cv', rfl⟩ := ownsRow_slice hown6)
          have hal : Fr No W5 (W5.alloc (.cells #[.string op, .string oi, .int .i64 or, .int .i64 os, .int .i64 ot, .int .i64 oe, .slice a1 ol.length c1] 58)) := (Fr.refl _ _).alloc _
          have howa := Hown5.out.alloc (.cells #[.string op, .string oi, .int .i64 or, .int .i64 os, .int .i64 ot, .int .i64 oe, .slice a1 ol.length c1] 58)
          have hgf : Fr (fun b => (Value.slice av O.length cv).ownBlock = some b) (W5.alloc (.cells #[.string op, .string oi, .int .i64 or, .int .i64 os, .int .i64 ot, .int .i64 oe, .slice a1 ol.length c1] 58)) w6 := Fr.of_grown hgrow6
          have hMF6 : MFresh w6 w2.heap.size (O ++ [⟨op, oi, or, os, ot, oe, a1, ol, c1⟩]) := by
            refine MFresh.own (MFresh.snoc (HMF5.out.fr hal (fun _ _ _ => id)) (HS5.out.1.no hal (fun _ => id)) (HS5.out.2.1.fr hal (fun _ _ => id)) (fun ad e => ?_)) howa hgf
            have := HS5.out.2.2 ad e
            omega
          have hO6 : (O ++ [(⟨op, oi, or, os, ot, oe, a1, ol, c1⟩ : Mem)]).map Mem.k = own1 L (ids.take (j + 1)) := by
            rw [Htj.out]
            unfold own1
            rw [List.map_append, List.map_append, HO.out]
            congr 1
            simp only [List.map_cons, List.map_nil, Ho.out, Option.getD_some]
            rfl
          have hf6 : Fr (From w2.heap.size) w2 w6 := ((hf.step Hf25.out (fun b _ h => by unfold From; omega)).step hal (fun _ _ h => h.elim)).step hgf (fun b _ h => ownsRow_blk howa h)
          have HF := Lib.hid (And.intro hown6 (And.intro hMF6 (And.intro hO6 hf6)))
          clear hown6 hMF6 hO6 hf6 hgrow6 hgf howa hal y0 y1 y2 y3 y4 y5 y6 hown5 hf
          go_roundw
          case rel => exact ⟨j + 1, O ++ [⟨op, oi, or, os, ot, oe, a1, ol, c1⟩], av', cv', by omega, by simp; omega, by simp, by go_num, by rw [List.length_append, mflat_snoc]; exact HF.out.1, HF.out.2.1, Lib.hid HF.out.2.2.1, HF.out.2.2.2⟩
          case measure => simp [intOf]; omega
        · obtain rfl : j = ids.length := by omega
          obtain ⟨a', c', hv, hR, hfresh⟩ := Mems.of_own hown (fun m hm => (hMF m hm).1)
          cases hv
          have ho := HO.out
          rw [List.take_length] at ho
          have hs3 := Hf1.out.size
          have hs4 := hf.size
          have H := Lib.hid (And.intro hR (And.intro hfresh (And.intro hMF (And.intro ho ((Hf2.out.trans hf (fun b hb h => h) (fun b hb h => by unfold From at h ⊢; omega)).mono (T := No) (fun b hb h => by unfold From at h; omega))))))
          clear hown hMF HO hf hR hfresh ho
          go_wp2_with fail
          go_ret
          exact ⟨⟨_, _, O, ids, rfl, H.out.1, fun ad e => by have := H.out.2.1 ad e; omega, fun m hm => ⟨(H.out.2.2.1 m hm).1, (H.out.2.2.1 m hm).2.1, fun ad e => by have := (H.out.2.2.1 m hm).2.2 ad e; omega⟩, Hids.out, H.out.2.2.2.1, hln⟩, H.out.2.2.2.2⟩
end Go.Proofs.YtbblkknndaoefaaGreatDoor
namespace Go.Proofs.YtbblkknndaoefaaGreatDoor
open Go
set_option linter.unusedVariables false

/-- A content. -/
inductive Ct where
  | mk (kind : Int) (id label : ByteArray) (slot total least : Int) (inner : List Ct)
namespace Ct
def kind : Ct → Int | .mk k _ _ _ _ _ _ => k
def id : Ct → ByteArray | .mk _ i _ _ _ _ _ => i
def label : Ct → ByteArray | .mk _ _ l _ _ _ _ => l
def slot : Ct → Int | .mk _ _ _ s _ _ _ => s
def total : Ct → Int | .mk _ _ _ _ t _ _ => t
def least : Ct → Int | .mk _ _ _ _ _ e _ => e
def inner : Ct → List Ct | .mk _ _ _ _ _ _ n => n
def zero : Ct := .mk 0 ⟨#[]⟩ ⟨#[]⟩ 0 0 0 []
end Ct

/-- Texts with a comma between them. -/
def commas : List (List UInt8) → List UInt8
  | [] => []
  | [x] => x
  | x :: y :: t => x ++ 44 :: commas (y :: t)
/-- The bytes of a text. -/
abbrev bl (s : ByteArray) : List UInt8 := s.data.toList
def headText (k : Int) (i l : ByteArray) (s t e : Int) : List UInt8 :=
  if k = 1 then [102, 115, 58] ++ bl i ++ [58] ++ bl l
  else if k = 2 then [114, 97, 105, 100, 58] ++ bl i ++ [58] ++ Lib.itoa s ++ [47] ++ Lib.itoa t ++ [47] ++ Lib.itoa e
  else if k = 3 then [99, 114, 121, 112, 116, 58] ++ bl i
  else if k = 4 then [112, 118, 58] ++ bl i ++ [58] ++ Lib.itoa s ++ [47] ++ Lib.itoa t
  else if k = 5 then [116, 97, 98, 108, 101, 58] ++ bl i
  else []
def hasIn (k : Int) : Bool := decide (k = 2) || decide (k = 3) || decide (k = 4) || decide (k = 5)
mutual
/-- The text of a content. -/
def Ct.text : Ct → List UInt8
  | .mk k i l s t e n => headText k i l s t e ++ if hasIn k = true then 40 :: commas (Ct.texts n) ++ [41] else []
def Ct.texts : List Ct → List (List UInt8)
  | [] => []
  | c :: t => c.text :: Ct.texts t
end
theorem texts_map : ∀ l : List Ct, Ct.texts l = l.map Ct.text
  | [] => rfl
  | c :: t => by rw [Ct.texts, texts_map t]; rfl
section
variable (i l : ByteArray) (s t e : Int) (n : List Ct)
theorem text0 : (Ct.mk 0 i l s t e n).text = [] := by rw [Ct.text]; rfl
theorem text1 : (Ct.mk 1 i l s t e n).text = [102, 115] ++ 58 :: (bl i ++ 58 :: bl l) := by rw [Ct.text]; simp [headText, hasIn]
theorem text2 : (Ct.mk 2 i l s t e n).text = [114, 97, 105, 100] ++ 58 :: (bl i ++ 58 :: (Lib.itoa s ++ 47 :: (Lib.itoa t ++ 47 :: (Lib.itoa e ++ 40 :: (commas (n.map Ct.text) ++ [41]))))) := by rw [Ct.text, texts_map]; simp [headText, hasIn]
theorem text3 : (Ct.mk 3 i l s t e n).text = [99, 114, 121, 112, 116] ++ 58 :: (bl i ++ 40 :: (commas (n.map Ct.text) ++ [41])) := by rw [Ct.text, texts_map]; simp [headText, hasIn]
theorem text4 : (Ct.mk 4 i l s t e n).text = [112, 118] ++ 58 :: (bl i ++ 58 :: (Lib.itoa s ++ 47 :: (Lib.itoa t ++ 40 :: (commas (n.map Ct.text) ++ [41])))) := by rw [Ct.text, texts_map]; simp [headText, hasIn]
theorem text5 : (Ct.mk 5 i l s t e n).text = [116, 97, 98, 108, 101] ++ 58 :: (bl i ++ 40 :: (commas (n.map Ct.text) ++ [41])) := by rw [Ct.text, texts_map]; simp [headText, hasIn]
end

def idByte (b : UInt8) : Bool := (decide (65 ≤ b) && decide (b ≤ 90)) || (decide (97 ≤ b) && decide (b ≤ 122)) || (decide (48 ≤ b) && decide (b ≤ 57)) || decide (b = 95) || decide (b = 46) || decide (b = 45)
/-- An ID. -/
def isId (s : ByteArray) : Bool := !(bl s).isEmpty && decide ((bl s).length ≤ 16) && (bl s).all idByte
def noNum (s t e : Int) : Bool := decide (s = 0) && decide (t = 0) && decide (e = 0)
def slotsOk (s t : Int) : Bool := decide (1 ≤ t) && decide (t ≤ 16) && decide (1 ≤ s) && decide (s ≤ t)
def someIn (n : List Ct) : Bool := decide (1 ≤ n.length) && decide (n.length ≤ 16)
/-- A content has the fields of its kind. -/
def alike : Ct → Bool
  | .mk k i l s t e n =>
    if k = 0 then (bl i).isEmpty && (bl l).isEmpty && noNum s t e && n.isEmpty
    else if k = 1 then isId i && ((bl l).isEmpty || isId l) && noNum s t e && n.isEmpty
    else if k = 2 then isId i && (bl l).isEmpty && slotsOk s t && decide (1 ≤ e) && decide (e ≤ t) && decide (n.length = 1)
    else if k = 3 then isId i && (bl l).isEmpty && noNum s t e && decide (n.length = 1)
    else if k = 4 then isId i && (bl l).isEmpty && slotsOk s t && decide (e = 0) && someIn n
    else if k = 5 then isId i && (bl l).isEmpty && noNum s t e && someIn n
    else false
mutual
/-- All contents in it have the fields of their kinds. -/
def Ct.good : Ct → Bool
  | .mk k i l s t e n => alike (.mk k i l s t e n) && Ct.goods n
def Ct.goods : List Ct → Bool
  | [] => true
  | c :: t => c.good && Ct.goods t
end
mutual
def Ct.depth : Ct → Nat
  | .mk k _ _ _ _ _ n => if k = 0 then Ct.depths n else Ct.depths n + 1
def Ct.depths : List Ct → Nat
  | [] => 0
  | c :: t => max c.depth (Ct.depths t)
end
/-- A valid content. -/
def Ct.valid (c : Ct) : Bool := decide (c.depth ≤ 6) && c.good

/-! ### The program's parser -/
def upto (ends r : List UInt8) : List UInt8 := r.takeWhile fun b => !ends.contains b
def past (ends r : List UInt8) : List UInt8 := r.dropWhile fun b => !ends.contains b
theorem upto_past (ends r : List UInt8) : upto ends r ++ past ends r = r := List.takeWhile_append_dropWhile
def skip1 (b : UInt8) : List UInt8 → Option (List UInt8)
  | [] => none
  | x :: t => if x = b then some t else none
theorem skip1_some {b : UInt8} {r t : List UInt8} (h : skip1 b r = some t) : r = b :: t := by
  cases r with
  | nil => cases h
  | cons x r =>
    simp only [skip1] at h
    by_cases e : x = b
    · rw [if_pos e] at h; injection h with h; rw [e, h]
    · rw [if_neg e] at h; cases h
/-- A number: canonical digits up to one of / ( , ) : -/
def pNum (r : List UInt8) : Option (Int × List UInt8) :=
  match Lib.atoiAll (upto [47, 40, 44, 41, 58] r) with
  | .ok v => if Lib.itoa v = upto [47, 40, 44, 41, 58] r then some (v, past [47, 40, 44, 41, 58] r) else none
  | _ => none
theorem pNum_some {r r' : List UInt8} {v : Int} (h : pNum r = some (v, r')) : r = Lib.itoa v ++ r' := by
  unfold pNum at h
  split at h
  · split at h
    · rename_i e
      injection h with h
      injection h with h1 h2
      subst h1; subst h2
      rw [e, upto_past]
    · cases h
  · cases h
mutual
def pC : Nat → List UInt8 → Option (Ct × List UInt8)
  | 0, _ => none
  | n + 1, r =>
    if upto [58, 44, 41] r = [] then some (Ct.zero, r) else
    (skip1 58 (past [58, 44, 41] r)).bind fun r2 =>
    let id : ByteArray := ⟨(upto [58, 40, 44, 41] r2).toArray⟩
    let r3 := past [58, 40, 44, 41] r2
    if upto [58, 44, 41] r = [102, 115] then
      (skip1 58 r3).bind fun r4 => some (.mk 1 id ⟨(upto [44, 41] r4).toArray⟩ 0 0 0 [], past [44, 41] r4)
    else if upto [58, 44, 41] r = [114, 97, 105, 100] then
      (skip1 58 r3).bind fun r4 => (pNum r4).bind fun p5 => (skip1 47 p5.2).bind fun r6 => (pNum r6).bind fun p7 => (skip1 47 p7.2).bind fun r8 => (pNum r8).bind fun p9 =>
        (skip1 40 p9.2).bind fun ra => (pL n [] ra).bind fun pb => some (.mk 2 id ⟨#[]⟩ p5.1 p7.1 p9.1 pb.1, pb.2)
    else if upto [58, 44, 41] r = [99, 114, 121, 112, 116] then
      (skip1 40 r3).bind fun ra => (pL n [] ra).bind fun pb => some (.mk 3 id ⟨#[]⟩ 0 0 0 pb.1, pb.2)
    else if upto [58, 44, 41] r = [112, 118] then
      (skip1 58 r3).bind fun r4 => (pNum r4).bind fun p5 => (skip1 47 p5.2).bind fun r6 => (pNum r6).bind fun p7 =>
        (skip1 40 p7.2).bind fun ra => (pL n [] ra).bind fun pb => some (.mk 4 id ⟨#[]⟩ p5.1 p7.1 0 pb.1, pb.2)
    else if upto [58, 44, 41] r = [116, 97, 98, 108, 101] then
      (skip1 40 r3).bind fun ra => (pL n [] ra).bind fun pb => some (.mk 5 id ⟨#[]⟩ 0 0 0 pb.1, pb.2)
    else none
def pL : Nat → List Ct → List UInt8 → Option (List Ct × List UInt8)
  | 0, _, _ => none
  | n + 1, acc, r => (pC n r).bind fun p =>
    match skip1 41 p.2 with
    | some r2 => some (acc ++ [p.1], r2)
    | none => (skip1 44 p.2).bind fun r2 => pL n (acc ++ [p.1]) r2
end

/-! ### What is parsed is the text -/
theorem commas_snoc : ∀ (l : List (List UInt8)) (x : List UInt8), l ≠ [] → commas (l ++ [x]) = commas l ++ 44 :: x
  | [], x, h => absurd rfl h
  | [y], x, _ => rfl
  | y :: z :: t, x, _ => by
    show commas (y :: z :: (t ++ [x])) = _
    have h := commas_snoc (z :: t) x (by simp)
    simp only [commas, List.cons_append] at h ⊢
    rw [h]
    simp
theorem bl_mk (l : List UInt8) : bl (⟨l.toArray⟩ : ByteArray) = l := by simp [bl]

/-- What stands ahead of a further content in brackets. -/
def accText (acc : List Ct) : List UInt8 := if acc = [] then [] else commas (acc.map Ct.text) ++ [44]
theorem acc_snoc (acc : List Ct) (c : Ct) : accText acc ++ c.text = commas ((acc ++ [c]).map Ct.text) := by
  unfold accText
  by_cases h : acc = []
  · subst h; simp [commas]
  · rw [if_neg h, List.map_append, List.map_cons, List.map_nil, commas_snoc _ _ (by simpa using h)]
    simp
theorem acc_snoc2 (acc : List Ct) (c : Ct) : accText (acc ++ [c]) = accText acc ++ c.text ++ [44] := by
  rw [acc_snoc]
  unfold accText
  rw [if_neg (by simp)]

theorem p_sound : ∀ n : Nat, (∀ r c r', pC n r = some (c, r') → r = c.text ++ r') ∧ (∀ acc r l r', pL n acc r = some (l, r') → accText acc ++ r = commas (l.map Ct.text) ++ 41 :: r')
  | 0 => ⟨fun r c r' h => by simp [pC] at h, fun acc r l r' h => by simp [pL] at h⟩
  | n + 1 => by
    obtain ⟨ihC, ihL⟩ := p_sound n
    have hin : ∀ ra (pb : List Ct × List UInt8), pL n [] ra = some pb → ra = commas (pb.1.map Ct.text) ++ 41 :: pb.2 := fun ra pb h => by
      have := ihL [] ra pb.1 pb.2 h
      simpa [accText] using this
    refine ⟨fun r c r' h => ?_, fun acc r l r' h => ?_⟩
    · have hr := upto_past [58, 44, 41] r
      rw [pC] at h
      by_cases h0 : upto [58, 44, 41] r = []
      · rw [if_pos h0] at h
        injection h with h
        injection h with h1 h2
        subst h1; subst h2
        rw [Ct.zero, text0]; rfl
      rw [if_neg h0] at h
      obtain ⟨r2, hr2, h⟩ := Option.bind_eq_some_iff.1 h
      have e2 := skip1_some hr2
      have hid := upto_past [58, 40, 44, 41] r2
      rw [e2] at hr
      simp only at h
      generalize upto [58, 40, 44, 41] r2 = di at h hid
      generalize past [58, 40, 44, 41] r2 = r3 at h hid
      generalize upto [58, 44, 41] r = kd at h hr
      split at h
      · rename_i hk
        obtain ⟨r4, hr4, h⟩ := Option.bind_eq_some_iff.1 h
        have e4 := skip1_some hr4
        have hl := upto_past [44, 41] r4
        generalize upto [44, 41] r4 = lb at h hl
        generalize past [44, 41] r4 = rs at h hl
        injection h with h
        injection h with h1 h2
        subst h1; subst h2
        rw [text1, bl_mk, bl_mk]
        rw [← hr, hk, ← hid, e4, ← hl]
        simp
      split at h
      · rename_i hk
        obtain ⟨r4, hr4, h⟩ := Option.bind_eq_some_iff.1 h
        obtain ⟨p5, hp5, h⟩ := Option.bind_eq_some_iff.1 h
        obtain ⟨r6, hr6, h⟩ := Option.bind_eq_some_iff.1 h
        obtain ⟨p7, hp7, h⟩ := Option.bind_eq_some_iff.1 h
        obtain ⟨r8, hr8, h⟩ := Option.bind_eq_some_iff.1 h
        obtain ⟨p9, hp9, h⟩ := Option.bind_eq_some_iff.1 h
        obtain ⟨ra, hra, h⟩ := Option.bind_eq_some_iff.1 h
        obtain ⟨pb, hpb, h⟩ := Option.bind_eq_some_iff.1 h
        injection h with h
        injection h with h1 h2
        subst h1; subst h2
        have e5 := pNum_some hp5
        have e7 := pNum_some hp7
        have e9 := pNum_some hp9
        rw [text2, bl_mk]
        rw [← hr, hk, ← hid, skip1_some hr4, e5, skip1_some hr6, e7, skip1_some hr8, e9, skip1_some hra, hin ra pb hpb]
        simp
      split at h
      · rename_i hk
        obtain ⟨ra, hra, h⟩ := Option.bind_eq_some_iff.1 h
        obtain ⟨pb, hpb, h⟩ := Option.bind_eq_some_iff.1 h
        injection h with h
        injection h with h1 h2
        subst h1; subst h2
        rw [text3, bl_mk]
        rw [← hr, hk, ← hid, skip1_some hra, hin ra pb hpb]
        simp
      split at h
      · rename_i hk
        obtain ⟨r4, hr4, h⟩ := Option.bind_eq_some_iff.1 h
        obtain ⟨p5, hp5, h⟩ := Option.bind_eq_some_iff.1 h
        obtain ⟨r6, hr6, h⟩ := Option.bind_eq_some_iff.1 h
        obtain ⟨p7, hp7, h⟩ := Option.bind_eq_some_iff.1 h
        obtain ⟨ra, hra, h⟩ := Option.bind_eq_some_iff.1 h
        obtain ⟨pb, hpb, h⟩ := Option.bind_eq_some_iff.1 h
        injection h with h
        injection h with h1 h2
        subst h1; subst h2
        have e5 := pNum_some hp5
        have e7 := pNum_some hp7
        rw [text4, bl_mk]
        rw [← hr, hk, ← hid, skip1_some hr4, e5, skip1_some hr6, e7, skip1_some hra, hin ra pb hpb]
        simp
      split at h
      · rename_i hk
        obtain ⟨ra, hra, h⟩ := Option.bind_eq_some_iff.1 h
        obtain ⟨pb, hpb, h⟩ := Option.bind_eq_some_iff.1 h
        injection h with h
        injection h with h1 h2
        subst h1; subst h2
        rw [text5, bl_mk]
        rw [← hr, hk, ← hid, skip1_some hra, hin ra pb hpb]
        simp
      · cases h
    · rw [pL] at h
      obtain ⟨p, hp, h⟩ := Option.bind_eq_some_iff.1 h
      have e1 := ihC r p.1 p.2 hp
      cases hs : skip1 41 p.2 with
      | some r2 =>
        rw [hs] at h
        simp only at h
        injection h with h
        injection h with h1 h2
        subst h1; subst h2
        rw [← acc_snoc, e1, skip1_some hs]
        simp
      | none =>
        rw [hs] at h
        simp only at h
        obtain ⟨r2, hr2, h⟩ := Option.bind_eq_some_iff.1 h
        have := ihL _ r2 l r' h
        rw [acc_snoc2] at this
        rw [← this, e1, skip1_some hr2]
        simp
end Go.Proofs.YtbblkknndaoefaaGreatDoor
namespace Go.Proofs.YtbblkknndaoefaaGreatDoor
open Go
set_option linter.unusedVariables false

theorem upto_stop {ends : List UInt8} : ∀ {w : List UInt8} {b : UInt8} {t : List UInt8}, (∀ x ∈ w, ends.contains x = false) → ends.contains b = true → upto ends (w ++ b :: t) = w ∧ past ends (w ++ b :: t) = b :: t
  | [], b, t, _, hb => by
    simp only [upto, past, List.nil_append, List.takeWhile_cons, List.dropWhile_cons, hb]
    simp
  | x :: w, b, t, hw, hb => by
    have hx := hw x (by simp)
    have ih := upto_stop (w := w) (b := b) (t := t) (fun y hy => hw y (by simp [hy])) hb
    simp only [upto, past, List.cons_append, List.takeWhile_cons, List.dropWhile_cons, hx, Bool.not_false, if_true] at ih ⊢
    rw [ih.1, ih.2]
    exact ⟨rfl, rfl⟩
theorem upto_end {ends : List UInt8} : ∀ {w : List UInt8}, (∀ x ∈ w, ends.contains x = false) → upto ends w = w ∧ past ends w = []
  | [], _ => ⟨rfl, rfl⟩
  | x :: w, hw => by
    have hx := hw x (by simp)
    have ih := upto_end (w := w) (fun y hy => hw y (by simp [hy]))
    simp only [upto, past, List.takeWhile_cons, List.dropWhile_cons, hx, Bool.not_false, if_true] at ih ⊢
    rw [ih.1, ih.2]
    exact ⟨rfl, rfl⟩
theorem skip1_at (b : UInt8) (t : List UInt8) : skip1 b (b :: t) = some t := by simp [skip1]

theorem dec_small (k : Nat) (h1 : 1 ≤ k) (h2 : k ≤ 16) : Lib.decDigits k = if k < 10 then [UInt8.ofNat (48 + k)] else [49, UInt8.ofNat (48 + k % 10)] := by
  rw [Lib.decDigits]
  by_cases h : k < 10
  · rw [dif_pos h, if_pos h]
  · rw [dif_neg h, if_neg h, Lib.decDigits, dif_pos (by omega)]
    have : k / 10 = 1 := by omega
    rw [this]
    rfl
theorem pNum_ok (v : Int) (h1 : 1 ≤ v) (h2 : v ≤ 16) (b : UInt8) (t : List UInt8) (hb : ([47, 40, 44, 41, 58] : List UInt8).contains b = true) : pNum (Lib.itoa v ++ b :: t) = some (v, b :: t) := by
  obtain ⟨k, rfl⟩ := Int.eq_ofNat_of_zero_le (show 0 ≤ v by omega)
  have hd := dec_small k (by omega) (by omega)
  have hi : Lib.itoa (k : Int) = Lib.decDigits k := by unfold Lib.itoa; rw [if_neg (by omega)]; simp
  have key : (∀ x ∈ Lib.itoa (k : Int), ([47, 40, 44, 41, 58] : List UInt8).contains x = false) ∧ Lib.atoiAll (Lib.itoa (k : Int)) = .ok (k : Int) := by
    rw [hi, hd]
    rcases (by omega : k = 1 ∨ k = 2 ∨ k = 3 ∨ k = 4 ∨ k = 5 ∨ k = 6 ∨ k = 7 ∨ k = 8 ∨ k = 9 ∨ k = 10 ∨ k = 11 ∨ k = 12 ∨ k = 13 ∨ k = 14 ∨ k = 15 ∨ k = 16) with rfl | rfl | rfl | rfl | rfl | rfl | rfl | rfl | rfl | rfl | rfl | rfl | rfl | rfl | rfl | rfl <;> exact ⟨by decide, rfl⟩
  obtain ⟨e1, e2⟩ := upto_stop (t := t) key.1 hb
  unfold pNum
  rw [e1, e2, key.2]
  simp

theorem id_stop {s : ByteArray} (h : isId s = true) : ∀ x ∈ bl s, x ≠ 58 ∧ x ≠ 40 ∧ x ≠ 44 ∧ x ≠ 41 ∧ x ≠ 47 := by
  unfold isId at h
  simp only [Bool.and_eq_true, List.all_eq_true] at h
  intro x hx
  have h1 := h.2 x hx
  refine ⟨?_, ?_, ?_, ?_, ?_⟩ <;> (rintro rfl; revert h1; decide)
theorem stop_id {s : ByteArray} (h : isId s = true) : ∀ x ∈ bl s, ([58, 40, 44, 41] : List UInt8).contains x = false := by
  intro x hx
  obtain ⟨h1, h2, h3, h4, h5⟩ := id_stop h x hx
  simp [h1, h2, h3, h4]
theorem stop_label {s : ByteArray} (h : ((bl s).isEmpty || isId s) = true) : ∀ x ∈ bl s, ([44, 41] : List UInt8).contains x = false := by
  intro x hx
  rw [Bool.or_eq_true] at h
  rcases h with h | h
  · rw [List.isEmpty_iff] at h; rw [h] at hx; simp at hx
  · obtain ⟨h1, h2, h3, h4, h5⟩ := id_stop h x hx
    simp [h3, h4]
theorem ba_empty {s : ByteArray} (h : (bl s).isEmpty = true) : s = ⟨#[]⟩ := by
  rw [List.isEmpty_iff] at h
  apply ByteArray.ext
  apply Array.ext'
  simpa [bl] using h
theorem mk_bl (s : ByteArray) : (⟨(bl s).toArray⟩ : ByteArray) = s := by simp [bl]

/-- A text ends here, or with a comma or a bracket. -/
def Stop (r : List UInt8) : Prop := r = [] ∨ ∃ b t, r = b :: t ∧ (b = 44 ∨ b = 41)
theorem Stop.c {r : List UInt8} (h : Stop r) : upto [58, 44, 41] r = [] ∧ past [58, 44, 41] r = r := by
  rcases h with rfl | ⟨b, t, rfl, h⟩
  · exact ⟨rfl, rfl⟩
  · have := upto_stop (ends := [58, 44, 41]) (w := []) (b := b) (t := t) (by simp) (by rcases h with rfl | rfl <;> rfl)
    simpa using this
theorem Stop.l {r : List UInt8} (h : Stop r) {w : List UInt8} (hw : ∀ x ∈ w, ([44, 41] : List UInt8).contains x = false) : upto [44, 41] (w ++ r) = w ∧ past [44, 41] (w ++ r) = r := by
  rcases h with rfl | ⟨b, t, rfl, h⟩
  · rw [List.append_nil]; exact upto_end hw
  · exact upto_stop hw (by rcases h with rfl | rfl <;> rfl)

theorem good_mk (c : Ct) : c.good = (alike c && Ct.goods c.inner) := by
  obtain ⟨k, i, l, s, t, e, n⟩ := c
  rw [Ct.good]
  rfl
theorem goods_all : ∀ l : List Ct, Ct.goods l = l.all Ct.good
  | [] => rfl
  | c :: t => by rw [Ct.goods, goods_all t]; rfl

set_option maxHeartbeats 1000000 in
theorem p_comp : ∀ n : Nat, (∀ c rest, Ct.good c = true → Stop rest → (c.text ++ rest).length < n → pC n (c.text ++ rest) = some (c, rest)) ∧
    (∀ acc cs rest, cs ≠ [] → Ct.goods cs = true → (commas (cs.map Ct.text) ++ 41 :: rest).length + 1 < n → pL n acc (commas (cs.map Ct.text) ++ 41 :: rest) = some (acc ++ cs, rest))
  | 0 => ⟨fun c rest _ _ h => by omega, fun acc cs rest _ _ h => by omega⟩
  | n + 1 => by
    obtain ⟨ihC, ihL⟩ := p_comp n
    refine ⟨fun c rest hg hs hn => ?_, fun acc cs rest hne hg hn => ?_⟩
    · obtain ⟨k, i, l, s, t, e, inn⟩ := c
      rw [good_mk, Bool.and_eq_true] at hg
      obtain ⟨ha, hi⟩ := hg
      have hin : ∀ tl, tl = commas (inn.map Ct.text) ++ 41 :: rest → inn ≠ [] → tl.length + 1 < n → pL n [] tl = some (inn, rest) := by
        rintro tl rfl hne hl
        have := ihL [] inn rest hne hi hl
        simpa using this
      simp only [alike, noNum, slotsOk, someIn] at ha
      by_cases k0 : k = 0
      · subst k0
        simp only [if_true, Bool.and_eq_true, decide_eq_true_eq, List.isEmpty_iff] at ha
        obtain ⟨⟨⟨h1, h2⟩, ⟨h3, h4⟩, h5⟩, h6⟩ := ha
        have e1 := ba_empty (by rw [List.isEmpty_iff]; exact h1)
        have e2 := ba_empty (by rw [List.isEmpty_iff]; exact h2)
        subst e1; subst e2; subst h3; subst h4; subst h5; subst h6
        rw [text0, List.nil_append, pC]
        simp [hs.c.1, Ct.zero]
      by_cases k1 : k = 1
      · subst k1
        simp only [if_true, if_neg (show ¬ (1 : Int) = 0 by decide), Bool.and_eq_true, decide_eq_true_eq, List.isEmpty_iff] at ha
        obtain ⟨⟨⟨h1, h2⟩, ⟨h3, h4⟩, h5⟩, h6⟩ := ha
        subst h3; subst h4; subst h5; subst h6
        have u1 := upto_stop (ends := [58, 44, 41]) (w := [102, 115]) (b := 58) (t := bl i ++ 58 :: (bl l ++ rest)) (by decide) rfl
        have u2 := upto_stop (ends := [58, 40, 44, 41]) (w := bl i) (b := 58) (t := bl l ++ rest) (stop_id h1) rfl
        have u3 := hs.l (stop_label h2)
        rw [text1] at hn ⊢
        rw [show [102, 115] ++ 58 :: (bl i ++ 58 :: bl l) ++ rest = [102, 115] ++ 58 :: (bl i ++ 58 :: (bl l ++ rest)) by simp]
        rw [pC, u1.1, u1.2]
        simp [skip1_at, u2.1, u2.2, u3.1, u3.2]
      by_cases k2 : k = 2
      · subst k2
        simp only [if_true, if_neg (show ¬ (2 : Int) = 0 by decide), if_neg (show ¬ (2 : Int) = 1 by decide), Bool.and_eq_true, decide_eq_true_eq] at ha
        obtain ⟨⟨⟨⟨⟨h1, h2⟩, ⟨⟨h3, h4⟩, h5⟩, h6⟩, h7⟩, h8⟩, h9⟩ := ha
        have e2 := ba_empty h2
        subst e2
        have hne : inn ≠ [] := by intro h; subst h; simp at h9
        rw [text2] at hn ⊢
        rw [show [114, 97, 105, 100] ++ 58 :: (bl i ++ 58 :: (Lib.itoa s ++ 47 :: (Lib.itoa t ++ 47 :: (Lib.itoa e ++ 40 :: (commas (inn.map Ct.text) ++ [41]))))) ++ rest = [114, 97, 105, 100] ++ 58 :: (bl i ++ 58 :: (Lib.itoa s ++ 47 :: (Lib.itoa t ++ 47 :: (Lib.itoa e ++ 40 :: (commas (inn.map Ct.text) ++ 41 :: rest))))) by simp] at hn ⊢
        generalize htl : commas (inn.map Ct.text) ++ 41 :: rest = tl at *
        have u1 := upto_stop (ends := [58, 44, 41]) (w := [114, 97, 105, 100]) (b := 58) (t := bl i ++ 58 :: (Lib.itoa s ++ 47 :: (Lib.itoa t ++ 47 :: (Lib.itoa e ++ 40 :: tl)))) (by decide) rfl
        have u2 := upto_stop (ends := [58, 40, 44, 41]) (w := bl i) (b := 58) (t := Lib.itoa s ++ 47 :: (Lib.itoa t ++ 47 :: (Lib.itoa e ++ 40 :: tl))) (stop_id h1) rfl
        have n1 := pNum_ok s (by omega) (by omega) 47 (Lib.itoa t ++ 47 :: (Lib.itoa e ++ 40 :: tl)) rfl
        have n2 := pNum_ok t (by omega) (by omega) 47 (Lib.itoa e ++ 40 :: tl) rfl
        have n3 := pNum_ok e (by omega) (by omega) 40 tl rfl
        have hl := hin tl rfl hne (by simp at hn; omega)
        rw [pC, u1.1, u1.2]
        simp [skip1_at, u2.1, u2.2, n1, n2, n3, hl]
      by_cases k3 : k = 3
      · subst k3
        simp only [if_true, if_neg (show ¬ (3 : Int) = 0 by decide), if_neg (show ¬ (3 : Int) = 1 by decide), if_neg (show ¬ (3 : Int) = 2 by decide), Bool.and_eq_true, decide_eq_true_eq] at ha
        obtain ⟨⟨⟨h1, h2⟩, ⟨h3, h4⟩, h5⟩, h9⟩ := ha
        have e2 := ba_empty h2
        subst e2; subst h3; subst h4; subst h5
        have hne : inn ≠ [] := by intro h; subst h; simp at h9
        rw [text3] at hn ⊢
        rw [show [99, 114, 121, 112, 116] ++ 58 :: (bl i ++ 40 :: (commas (inn.map Ct.text) ++ [41])) ++ rest = [99, 114, 121, 112, 116] ++ 58 :: (bl i ++ 40 :: (commas (inn.map Ct.text) ++ 41 :: rest)) by simp] at hn ⊢
        generalize htl : commas (inn.map Ct.text) ++ 41 :: rest = tl at *
        have u1 := upto_stop (ends := [58, 44, 41]) (w := [99, 114, 121, 112, 116]) (b := 58) (t := bl i ++ 40 :: tl) (by decide) rfl
        have u2 := upto_stop (ends := [58, 40, 44, 41]) (w := bl i) (b := 40) (t := tl) (stop_id h1) rfl
        have hl := hin tl rfl hne (by simp at hn; omega)
        rw [pC, u1.1, u1.2]
        simp [skip1_at, u2.1, u2.2, hl]
      by_cases k4 : k = 4
      · subst k4
        simp only [if_true, if_neg (show ¬ (4 : Int) = 0 by decide), if_neg (show ¬ (4 : Int) = 1 by decide), if_neg (show ¬ (4 : Int) = 2 by decide), if_neg (show ¬ (4 : Int) = 3 by decide), Bool.and_eq_true, decide_eq_true_eq] at ha
        obtain ⟨⟨⟨⟨h1, h2⟩, ⟨⟨h3, h4⟩, h5⟩, h6⟩, h7⟩, h8, h9⟩ := ha
        have e2 := ba_empty h2
        subst e2; subst h7
        have hne : inn ≠ [] := by intro h; subst h; simp at h8
        rw [text4] at hn ⊢
        rw [show [112, 118] ++ 58 :: (bl i ++ 58 :: (Lib.itoa s ++ 47 :: (Lib.itoa t ++ 40 :: (commas (inn.map Ct.text) ++ [41])))) ++ rest = [112, 118] ++ 58 :: (bl i ++ 58 :: (Lib.itoa s ++ 47 :: (Lib.itoa t ++ 40 :: (commas (inn.map Ct.text) ++ 41 :: rest)))) by simp] at hn ⊢
        generalize htl : commas (inn.map Ct.text) ++ 41 :: rest = tl at *
        have u1 := upto_stop (ends := [58, 44, 41]) (w := [112, 118]) (b := 58) (t := bl i ++ 58 :: (Lib.itoa s ++ 47 :: (Lib.itoa t ++ 40 :: tl))) (by decide) rfl
        have u2 := upto_stop (ends := [58, 40, 44, 41]) (w := bl i) (b := 58) (t := Lib.itoa s ++ 47 :: (Lib.itoa t ++ 40 :: tl)) (stop_id h1) rfl
        have n1 := pNum_ok s (by omega) (by omega) 47 (Lib.itoa t ++ 40 :: tl) rfl
        have n2 := pNum_ok t (by omega) (by omega) 40 tl rfl
        have hl := hin tl rfl hne (by simp at hn; omega)
        rw [pC, u1.1, u1.2]
        simp [skip1_at, u2.1, u2.2, n1, n2, hl]
      by_cases k5 : k = 5
      · subst k5
        simp only [if_true, if_neg (show ¬ (5 : Int) = 0 by decide), if_neg (show ¬ (5 : Int) = 1 by decide), if_neg (show ¬ (5 : Int) = 2 by decide), if_neg (show ¬ (5 : Int) = 3 by decide), if_neg (show ¬ (5 : Int) = 4 by decide), Bool.and_eq_true, decide_eq_true_eq] at ha
        obtain ⟨⟨⟨h1, h2⟩, ⟨h3, h4⟩, h5⟩, h8, h9⟩ := ha
        have e2 := ba_empty h2
        subst e2; subst h3; subst h4; subst h5
        have hne : inn ≠ [] := by intro h; subst h; simp at h8
        rw [text5] at hn ⊢
        rw [show [116, 97, 98, 108, 101] ++ 58 :: (bl i ++ 40 :: (commas (inn.map Ct.text) ++ [41])) ++ rest = [116, 97, 98, 108, 101] ++ 58 :: (bl i ++ 40 :: (commas (inn.map Ct.text) ++ 41 :: rest)) by simp] at hn ⊢
        generalize htl : commas (inn.map Ct.text) ++ 41 :: rest = tl at *
        have u1 := upto_stop (ends := [58, 44, 41]) (w := [116, 97, 98, 108, 101]) (b := 58) (t := bl i ++ 40 :: tl) (by decide) rfl
        have u2 := upto_stop (ends := [58, 40, 44, 41]) (w := bl i) (b := 40) (t := tl) (stop_id h1) rfl
        have hl := hin tl rfl hne (by simp at hn; omega)
        rw [pC, u1.1, u1.2]
        simp [skip1_at, u2.1, u2.2, hl]
      simp [k0, k1, k2, k3, k4, k5] at ha
    · cases cs with
      | nil => exact absurd rfl hne
      | cons c t =>
        rw [Ct.goods, Bool.and_eq_true] at hg
        rw [pL]
        cases t with
        | nil =>
          simp only [List.map_cons, List.map_nil, commas] at hn ⊢
          rw [ihC c (41 :: rest) hg.1 (.inr ⟨_, _, rfl, .inr rfl⟩) (by omega)]
          simp [skip1_at]
        | cons d u =>
          have e : commas (List.map Ct.text (c :: d :: u)) ++ 41 :: rest = c.text ++ 44 :: (commas (List.map Ct.text (d :: u)) ++ 41 :: rest) := by
            simp [commas]
          rw [e] at hn ⊢
          rw [ihC c _ hg.1 (.inr ⟨_, _, rfl, .inl rfl⟩) (by omega)]
          have h2 : skip1 41 (44 :: (commas (List.map Ct.text (d :: u)) ++ 41 :: rest)) = none := by simp [skip1]
          have h3 := ihL (acc ++ [c]) (d :: u) rest (by simp) hg.2 (by simp at hn ⊢; omega)
          simp only [Option.bind_some, h2, skip1_at, h3]
          simp

/-- The content whose text s is. -/
def parseC (s : ByteArray) : Option Ct :=
  if 256 < (bl s).length then none else
  match pC ((bl s).length + 1) (bl s) with
  | some (c, []) => if c.valid = true then some c else none
  | _ => none
theorem parse_iff (s : ByteArray) (c : Ct) : parseC s = some c ↔ (bl s).length ≤ 256 ∧ c.valid = true ∧ c.text = bl s := by
  unfold parseC
  constructor
  · intro h
    split at h
    · cases h
    · rename_i hl
      split at h
      · rename_i c' hp
        split at h
        · rename_i hv
          injection h with h
          subst h
          have := (p_sound _).1 _ _ _ hp
          exact ⟨by omega, hv, by rw [this]; simp⟩
        · cases h
      · cases h
  · rintro ⟨h1, h2, h3⟩
    rw [if_neg (by omega)]
    have hg : c.good = true := by unfold Ct.valid at h2; rw [Bool.and_eq_true] at h2; exact h2.2
    have := (p_comp ((bl s).length + 1)).1 c [] hg (.inl rfl) (by simp [h3])
    rw [List.append_nil, h3] at this
    rw [this]
    simp [h2]
end Go.Proofs.YtbblkknndaoefaaGreatDoor
