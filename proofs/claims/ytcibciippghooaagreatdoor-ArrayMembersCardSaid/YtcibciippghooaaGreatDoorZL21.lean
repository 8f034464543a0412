/- Owners. keySet. Open. -/
import Derived.Test.YtcibciippghooaaGreatDoorZL20
import Derived.Laws.EntriesVeiled
namespace Go.Proofs.YtcibciippghooaaGreatDoor
open Go.RowKit Go.Maps
set_option linter.unusedVariables false

def mapM (g : List UInt8 → Option Mem) : List UInt8 → Option Value := fun x => (g x).map Mem.v
theorem mapM_upd (g : List UInt8 → Option Mem) (x : List UInt8) (m : Mem) : updS (mapM g) x m.v = mapM (fun y => if y = x then some m else g y) := by
  funext y
  unfold updS mapM
  by_cases h : y = x <;> simp [h]
def zeroMem : Value := .agg #[.string ⟨#[]⟩, .string ⟨#[]⟩, .int .i64 0, .int .i64 0, .int .i64 0, .int .i64 0, .slice none 0 0]
theorem zeroM (w : World) : (zeroValue 31).run Tryz.prog w = .ok zeroMem w := by kernel_rfl

/-- The sizes of a list of members. -/
structure MemSmall (L : List Mem) : Prop where
  len : L.length ≤ 1000
  p : ∀ m ∈ L, m.p.size ≤ 1000000
  i : ∀ m ∈ L, m.i.size ≤ 1000000
  l : ∀ m ∈ L, m.l.length ≤ 1000000
/-- What Owners answers. -/
def OwnRes (w : World) (L : List Mem) (e : Ending) (w' : World) : Prop :=
  ∃ (a' : Option Addr) (c' : Nat) (O : List Mem) (ids : List ByteArray), e = .returned (.slice a' O.length c') ∧ Mems w' a' c' O ∧ (∀ ad, a' = some ad → w.heap.size ≤ ad.block) ∧ MFresh w' w.heap.size O ∧ IsIds L ids ∧ O.map Mem.k = own1 L ids ∧ ids.length ≤ L.length

set_option maxRecDepth 100000 in
set_option maxHeartbeats 8000000 in
theorem c_owners (a : Option Addr) (cap : Nat) (L : List Mem) (m0 : Int) (w : World) (hl : Mems w a cap L) (hb : MemSmall L) (hm0 : w.cell? ⟨3, 0, none⟩ = some (.int .i64 m0)) (hw0 : 3 < w.heap.size) :
    Calls Tryz.prog 20 #[.slice a L.length cap] w fun e w' => OwnRes w L e w' ∧ Fr No w w' := by
  obtain ⟨i0, hi0, hz0, hz1, hz2⟩ := info_parts infoM
  have hlm := hb.len
  have hmm := @run_makeMap Tryz.prog
  have hx : Fr No w (w.alloc (.map #[] 0)) := (Fr.refl _ _).alloc _
  have hI0 := VMap.made w
  have hs0 : w.heap.size < (w.alloc (.map #[] 0)).heap.size := by simp
  have hlk : ∀ W : World, Fr (From w.heap.size) w W → Mems W a cap L := fun W hf => hl.keep hf (fun b hb h => by unfold From at h; omega)
  have Hlk := Lib.hid hlk
  have Hb := Lib.hid hb
  clear hlk hb hl
  go_enter Tryz.func20, Tryz.ntmps20
  go_wp2_with fail
  clear hmm
  generalize w.alloc (.map #[] 0) = W0 at *
  go_loopw [16] (fun i wr => ∃ k : Nat, k ≤ L.length ∧ i = .int .i64 (k : Int) ∧ VMap wr w.heap.size (mapM (best (L.take k))) k ∧ Fr (From w.heap.size) w wr ∧ w.heap.size < wr.heap.size) (fun i _ => L.length - (intOf i).toNat)
  case atStart => exact ⟨0, by omega, rfl, by exact hI0, hx.mono (fun _ _ h => h.elim), hs0⟩
  case round =>
    obtain ⟨k, hk, rfl, hI, hfr, hsr⟩ := hrel
    by_cases hlt : k < L.length
    · have hlt' : (k : Int) < L.length := by omega
      obtain ⟨b, off, m, rfl, hxk, hst, hat, hbl⟩ := (Hlk.out _ hfr).elem hlt
      have hmem := List.mem_of_getElem? hxk
      have Htk : Hid (L.take (k + 1) = L.take k ++ [m]) := by unfold Hid; rw [List.take_add_one, hxk]; rfl
      have hpm := Hb.out.p m hmem
      have him : m.i.size ≤ maxLen := by have := Hb.out.i m hmem; unfold maxLen; omega
      have hm1 : wr.cell? ⟨3, 0, none⟩ = some (.int .i64 m0) := hfr.cell hm0 (by show ¬ From w.heap.size 3; unfold From; omega)
      obtain ⟨mp, mi, mr, ms, mt, me, ma, ml, mc⟩ := m
      obtain ⟨c0, c1, c2, c3, c4, c5, c6⟩ := hat
      simp only at c0 c1 c2 c3 c4 c5 c6 hpm him
      clear hxk hst hmem
      by_cases hl1 : ml.length = 1
      · have hne : ((ml.length : Int) != 1) = false := by simp [hl1]
        have Hl1 := Lib.hid hl1
        clear hl1
        have hx1 : Fr No wr (wr.alloc (.cells #[.string mp, .string mi, .int .i64 mr, .int .i64 ms, .int .i64 mt, .int .i64 me, .slice ma ml.length mc] 31)) := (Fr.refl _ _).alloc _
        have q1 := block_alloc wr (.cells #[.string mp, .string mi, .int .i64 mr, .int .i64 ms, .int .i64 mt, .int .i64 me, .slice ma ml.length mc] 31)
        have hIx := hI.fr hx1 id
        clear hI
        rcases hg : best (L.take k) (kb mi) with _ | o
        · have hv : (mapM (best (L.take k)) (kb mi)).getD zeroMem = .agg #[.string ⟨#[]⟩, .string ⟨#[]⟩, .int .i64 0, .int .i64 0, .int .i64 0, .int .i64 0, .slice none 0 0] := by unfold mapM; rw [hg]; rfl
          have hbo : (mapM (best (L.take k)) (kb mi)).isSome = false := by unfold mapM; rw [hg]; rfl
          have Hg : Hid (∀ o, best (L.take k) (kb mi) = some o → ahead ⟨mp, mi, mr, ms, mt, me, ma, ml, mc⟩ o = true) := fun o ho => by rw [hg] at ho; cases ho
          clear hg
          go_upto_region 8 with (at_lookup; refine wp_vmap_ok rfl _ _ 74 31 zeroMem (zeroM _) rfl Tryz.underlying74 w.heap.size _ k mi him rfl hIx rfl (.agg #[.string ⟨#[]⟩, .string ⟨#[]⟩, .int .i64 0, .int .i64 0, .int .i64 0, .int .i64 0, .slice none 0 0]) hv false hbo ?_)
          have hx2 : Fr No wr ((wr.alloc (.cells #[.string mp, .string mi, .int .i64 mr, .int .i64 ms, .int .i64 mt, .int .i64 me, .slice ma ml.length mc] 31)).alloc (.cells #[.string ⟨#[]⟩, .string ⟨#[]⟩, .int .i64 0, .int .i64 0, .int .i64 0, .int .i64 0, .slice none 0 0] 31)) := hx1.alloc _
          have q2 := block_alloc1 wr (.cells #[.string mp, .string mi, .int .i64 mr, .int .i64 ms, .int .i64 mt, .int .i64 me, .slice ma ml.length mc] 31) (.cells #[.string ⟨#[]⟩, .string ⟨#[]⟩, .int .i64 0, .int .i64 0, .int .i64 0, .int .i64 0, .slice none 0 0] 31)
          have hI2 := hIx.fr ((Fr.refl No _).alloc (.cells #[.string ⟨#[]⟩, .string ⟨#[]⟩, .int .i64 0, .int .i64 0, .int .i64 0, .int .i64 0, .slice none 0 0] 31)) id
          clear hIx hv hbo c0 c1 c2 c3 c4 c5 c6 q1 hx1
          generalize (wr.alloc (.cells #[.string mp, .string mi, .int .i64 mr, .int .i64 ms, .int .i64 mt, .int .i64 me, .slice ma ml.length mc] 31)).alloc (.cells #[.string ⟨#[]⟩, .string ⟨#[]⟩, .int .i64 0, .int .i64 0, .int .i64 0, .int .i64 0, .slice none 0 0] 31) = W2 at *
          have y0 : W2.cell? ⟨wr.heap.size, 0, none⟩ = some (.string mp) := cell_of_block q2 0
          have y1 : W2.cell? ⟨wr.heap.size, 1, none⟩ = some (.string mi) := cell_of_block q2 1
          have y2 : W2.cell? ⟨wr.heap.size, 2, none⟩ = some (.int .i64 mr) := cell_of_block q2 2
          have y3 : W2.cell? ⟨wr.heap.size, 3, none⟩ = some (.int .i64 ms) := cell_of_block q2 3
          have y4 : W2.cell? ⟨wr.heap.size, 4, none⟩ = some (.int .i64 mt) := cell_of_block q2 4
          have y5 : W2.cell? ⟨wr.heap.size, 5, none⟩ = some (.int .i64 me) := cell_of_block q2 5
          have y6 : W2.cell? ⟨wr.heap.size, 6, none⟩ = some (.slice ma ml.length mc) := cell_of_block q2 6
          have Hf2 := Lib.hid (hfr.step hx2 (fun _ _ h => h.elim))
          have hs2 := hx2.size
          clear q2 hx2 hfr
          go_wp2_with (at_mapUpdate; refine wp_vmap_put rfl _ _ _ 74 31 rfl Tryz.underlying74 w.heap.size _ k (by unfold maxLen; omega) mi him (.agg #[.string mp, .string mi, .int .i64 mr, .int .i64 ms, .int .i64 mt, .int .i64 me, .slice ma ml.length mc]) rfl hI2 rfl rfl ?_; intro w4 hI4 hg4)
          have hI5 : VMap w4 w.heap.size (mapM (best (L.take (k + 1)))) (k + 1) := by rw [Htk.out, best_snoc, bestS_take Hl1.out Hg.out, ← mapM_upd]; exact hI4
          have H := Lib.hid (And.intro hI5 (And.intro (Hf2.out.step hg4 (fun b hb e => by unfold Is at e; unfold From; omega)) hg4.size))
          clear hI4 hI5 hg4
          go_roundw
          case rel => exact ⟨k + 1, by omega, by go_num, H.out.1, H.out.2.1, by have := H.out.2.2; omega⟩
          case measure => simp [intOf]; omega
        · obtain ⟨op, oi, or, os, ot, oe, oa, ol, oc⟩ := o
          have hv : (mapM (best (L.take k)) (kb mi)).getD zeroMem = .agg #[.string op, .string oi, .int .i64 or, .int .i64 os, .int .i64 ot, .int .i64 oe, .slice oa ol.length oc] := by unfold mapM; rw [hg]; rfl
          have hbo : (mapM (best (L.take k)) (kb mi)).isSome = true := by unfold mapM; rw [hg]; rfl
          have hop := Hb.out.p _ (List.mem_of_mem_take (best_mem _ _ _ hg).1)
          simp only at hop
          have Hg := Lib.hid hg
          clear hg
          go_upto_region 8 with (at_lookup; refine wp_vmap_ok rfl _ _ 74 31 zeroMem (zeroM _) rfl Tryz.underlying74 w.heap.size _ k mi him rfl hIx rfl (.agg #[.string op, .string oi, .int .i64 or, .int .i64 os, .int .i64 ot, .int .i64 oe, .slice oa ol.length oc]) hv true hbo ?_)
          have hx2 : Fr No wr ((wr.alloc (.cells #[.string mp, .string mi, .int .i64 mr, .int .i64 ms, .int .i64 mt, .int .i64 me, .slice ma ml.length mc] 31)).alloc (.cells #[.string op, .string oi, .int .i64 or, .int .i64 os, .int .i64 ot, .int .i64 oe, .slice oa ol.length oc] 31)) := hx1.alloc _
          have q2 := block_alloc1 wr (.cells #[.string mp, .string mi, .int .i64 mr, .int .i64 ms, .int .i64 mt, .int .i64 me, .slice ma ml.length mc] 31) (.cells #[.string op, .string oi, .int .i64 or, .int .i64 os, .int .i64 ot, .int .i64 oe, .slice oa ol.length oc] 31)
          have q3 := block_alloc2 wr (.cells #[.string mp, .string mi, .int .i64 mr, .int .i64 ms, .int .i64 mt, .int .i64 me, .slice ma ml.length mc] 31) (.cells #[.string op, .string oi, .int .i64 or, .int .i64 os, .int .i64 ot, .int .i64 oe, .slice oa ol.length oc] 31)
          have hI2 := hIx.fr ((Fr.refl No _).alloc (.cells #[.string op, .string oi, .int .i64 or, .int .i64 os, .int .i64 ot, .int .i64 oe, .slice oa ol.length oc] 31)) id
          clear hIx hv hbo c0 c1 c2 c3 c4 c5 c6 q1 hx1
          generalize (wr.alloc (.cells #[.string mp, .string mi, .int .i64 mr, .int .i64 ms, .int .i64 mt, .int .i64 me, .slice ma ml.length mc] 31)).alloc (.cells #[.string op, .string oi, .int .i64 or, .int .i64 os, .int .i64 ot, .int .i64 oe, .slice oa ol.length oc] 31) = W2 at *
          have z0 : W2.cell? ⟨wr.heap.size + 1, 0, none⟩ = some (.string op) := cell_of_block q3 0
          have z1 : W2.cell? ⟨wr.heap.size + 1, 1, none⟩ = some (.string oi) := cell_of_block q3 1
          have z2 : W2.cell? ⟨wr.heap.size + 1, 2, none⟩ = some (.int .i64 or) := cell_of_block q3 2
          have z3 : W2.cell? ⟨wr.heap.size + 1, 3, none⟩ = some (.int .i64 os) := cell_of_block q3 3
          have z4 : W2.cell? ⟨wr.heap.size + 1, 4, none⟩ = some (.int .i64 ot) := cell_of_block q3 4
          have z5 : W2.cell? ⟨wr.heap.size + 1, 5, none⟩ = some (.int .i64 oe) := cell_of_block q3 5
          have z6 : W2.cell? ⟨wr.heap.size + 1, 6, none⟩ = some (.slice oa ol.length oc) := cell_of_block q3 6
          have hm2 := hx2.cell hm1 id
          have Hf2 := Lib.hid (hfr.step hx2 (fun _ _ h => h.elim))
          have hs2 := hx2.size
          clear q3 hx2 hfr hm1
          go_wp2_with fail
          refine (l_ahead mp mi op oi mr ms mt me or os ot oe _ _ m0 _ hpm hop hm2).mono ?_
          rintro en w3 ⟨rfl, hf3⟩
          have q4 := hf3.heap q2 id
          have hI3 := hI2.fr hf3 id
          have Hf3 := Lib.hid (Hf2.out.step hf3 (fun _ _ h => h.elim))
          have hs3 := hf3.size
          clear z0 z1 z2 z3 z4 z5 z6 hf3 q2 hm2 hI2
          rcases ha : aheadB mp mr op or with _ | _
          · have hI5 : VMap w3 w.heap.size (mapM (best (L.take (k + 1)))) k := by rw [Htk.out, best_snoc, bestS_keep (m := ⟨mp, mi, mr, ms, mt, me, ma, ml, mc⟩) (o := ⟨op, oi, or, os, ot, oe, oa, ol, oc⟩) Hg.out ha]; exact hI3
            have H := Lib.hid (And.intro hI5 Hf3.out)
            clear hI5 hI3 q4
            go_wp2_with fail
            go_roundw
            case rel => exact ⟨k + 1, by omega, by go_num, H.out.1.mono (by omega), H.out.2, by omega⟩
            case measure => simp [intOf]; omega
          · have Hah : Hid (∀ o, best (L.take k) (kb mi) = some o → ahead ⟨mp, mi, mr, ms, mt, me, ma, ml, mc⟩ o = true) := fun o ho => by rw [Hg.out] at ho; cases ho; exact ha
            have y0 : w3.cell? ⟨wr.heap.size, 0, none⟩ = some (.string mp) := cell_of_block q4 0
            have y1 : w3.cell? ⟨wr.heap.size, 1, none⟩ = some (.string mi) := cell_of_block q4 1
            have y2 : w3.cell? ⟨wr.heap.size, 2, none⟩ = some (.int .i64 mr) := cell_of_block q4 2
            have y3 : w3.cell? ⟨wr.heap.size, 3, none⟩ = some (.int .i64 ms) := cell_of_block q4 3
            have y4 : w3.cell? ⟨wr.heap.size, 4, none⟩ = some (.int .i64 mt) := cell_of_block q4 4
            have y5 : w3.cell? ⟨wr.heap.size, 5, none⟩ = some (.int .i64 me) := cell_of_block q4 5
            have y6 : w3.cell? ⟨wr.heap.size, 6, none⟩ = some (.slice ma ml.length mc) := cell_of_block q4 6
            clear q4 ha
            go_wp2_with (at_mapUpdate; refine wp_vmap_put rfl _ _ _ 74 31 rfl Tryz.underlying74 w.heap.size _ k (by unfold maxLen; omega) mi him (.agg #[.string mp, .string mi, .int .i64 mr, .int .i64 ms, .int .i64 mt, .int .i64 me, .slice ma ml.length mc]) rfl hI3 rfl rfl ?_; intro w4 hI4 hg4)
            have hI5 : VMap w4 w.heap.size (mapM (best (L.take (k + 1)))) (k + 1) := by rw [Htk.out, best_snoc, bestS_take Hl1.out Hah.out, ← mapM_upd]; exact hI4
            have H := Lib.hid (And.intro hI5 (And.intro (Hf3.out.step hg4 (fun b hb e => by unfold Is at e; unfold From; omega)) hg4.size))
            clear hI4 hI5 hg4
            go_roundw
            case rel => exact ⟨k + 1, by omega, by go_num, H.out.1, H.out.2.1, by have := H.out.2.2; omega⟩
            case measure => simp [intOf]; omega
      · have hne : ((ml.length : Int) != 1) = true := by simp; omega
        have hx1 : Fr No wr (wr.alloc (.cells #[.string mp, .string mi, .int .i64 mr, .int .i64 ms, .int .i64 mt, .int .i64 me, .slice ma ml.length mc] 31)) := (Fr.refl _ _).alloc _
        have hI1 : VMap (wr.alloc (.cells #[.string mp, .string mi, .int .i64 mr, .int .i64 ms, .int .i64 mt, .int .i64 me, .slice ma ml.length mc] 31)) w.heap.size (mapM (best (L.take (k + 1)))) k := by rw [Htk.out, best_snoc, bestS_skip hl1]; exact hI.fr hx1 id
        have H := Lib.hid (And.intro hI1 (And.intro (hfr.step hx1 (fun _ _ h => h.elim)) hx1.size))
        clear hI1 hI hx1 hfr hl1
        go_wp2_with fail
        go_roundw
        case rel => exact ⟨k + 1, by omega, by go_num, H.out.1.mono (by omega), H.out.2.1, by have := H.out.2.2; omega⟩
        case measure => simp [intOf]; omega
    · obtain rfl : k = L.length := by omega
      rw [List.take_length] at hI
      go_wp2_with fail
      refine (m_keys _ _).mono ?_
      rintro en w1 ⟨rfl, rfl⟩
      have hx1 : Fr No wr (wr.alloc (.cells #[.map (some w.heap.size)] 74)) := (Fr.refl _ _).alloc _
      have q1 := block_alloc wr (.cells #[.map (some w.heap.size)] 74)
      have hs1 : wr.heap.size < (wr.alloc (.cells #[.map (some w.heap.size)] 74)).heap.size := by simp
      have hI1 := hI.fr hx1 id
      have Hf1 := Lib.hid (hfr.step hx1 (fun _ _ h => h.elim))
      clear hI hfr hx1
      go_wp2_with fail
      generalize wr.alloc (.cells #[.map (some w.heap.size)] 74) = W1 at *
      refine (m_sorted w.heap.size wr.heap.size _ L.length W1 hI1 (by omega) (cell_of_block q1 0) hs1).mono ?_
      rintro en w2 ⟨⟨ia, ic, ids, rfl, hS, hasc, hmem, hln, hfresh⟩, hf2⟩
      have hids : IsIds L ids := ⟨hasc, fun x => by rw [hmem]; unfold mapM; rw [Option.isSome_map]⟩
      have hI2 := hI1.fr hf2 id
      have Hf2 := Lib.hid (Hf1.out.step hf2 (fun _ _ h => h.elim))
      have hs2 := hf2.size
      have Hids := Lib.hid hids
      have hil := hS.lenmax
      clear q1 hI1 hf2 hasc hmem hids hfresh
      go_wp2_with fail
      go_loopw [9, 50] (fun v i wr => ∃ (j : Nat) (O : List Mem) (av : Option Addr) (cv : Nat), j ≤ ids.length ∧ O.length ≤ j ∧ v = .slice av O.length cv ∧ i = .int .i64 (j : Int) ∧ wr.ownsRow w2.heap.size 31 7 (.slice av O.length cv) O.length (mflat O) ∧ MFresh wr w2.heap.size O ∧ Hid (O.map Mem.k = own1 L (ids.take j)) ∧ Fr (From w2.heap.size) w2 wr) (fun _ i _ => ids.length - (intOf i).toNat)
      case atStart => exact ⟨0, [], none, 0, by omega, by simp, rfl, rfl, World.ownsRow_nil _ _ _ _, fun m hm => by simp at hm, by unfold Hid own1; simp, Fr.refl _ _⟩
      case round =>
        obtain ⟨j, O, av, cv, hj, hOj, rfl, rfl, hown, hMF, HO, hf⟩ := hrel
        by_cases hlt : j < ids.length
        · have hlt' : (j : Int) < ids.length := by omega
          obtain ⟨b, off, x, rfl, hxj, hc⟩ := (hS.keep hf (fun b hb h => by unfold From at h; omega)).at hlt
          have hxi := List.mem_of_getElem? hxj
          have Htj : Hid (ids.take (j + 1) = ids.take j ++ [x]) := by unfold Hid; rw [List.take_add_one, hxj]; rfl
          obtain ⟨o, ho⟩ := Option.isSome_iff_exists.1 ((Hids.out.mem x).1 hxi)
          obtain ⟨hoL, hol1, hok⟩ := best_mem _ _ _ ho
          have hosz := Hb.out.i o hoL
          have hoi := kb_inj hok
          have hxs : x.size ≤ maxLen := by rw [← hoi]; unfold maxLen; omega
          have hfw := Hf2.out.trans hf (fun b hb h => h) (fun b hb h => by unfold From at h ⊢; omega)
          have hoS := (Hlk.out _ hfw).ok o hoL
          have hv : (mapM (best L) (kb x)).getD zeroMem = o.v := by unfold mapM; rw [ho]; rfl
          have hI3 := hI2.fr hf (by unfold From; omega)
          have Hfw := Lib.hid hfw
          have Ho := Lib.hid ho
          clear ho hoL hosz hoi hok hxi hxj hfw
          obtain ⟨op, oi, or, os, ot, oe, oa, ol, oc⟩ := o
          simp only at hoS hol1
          unfold Mem.v Mem.vals at hv
          simp only at hv
          have hol2 : ol.length ≤ 1000000 := by omega
          have hx3 : Fr No wr (wr.alloc (.cells #[.string op, .string oi, .int .i64 or, .int .i64 os, .int .i64 ot, .int .i64 oe, .slice oa ol.length oc] 31)) := (Fr.refl _ _).alloc _
          have q3 := block_alloc wr (.cells #[.string op, .string oi, .int .i64 or, .int .i64 os, .int .i64 ot, .int .i64 oe, .slice oa ol.length oc] 31)
          have hoS3 := hoS.no hx3 (fun _ => id)
          have Hol1 := Lib.hid hol1
          clear hoS hol1
          go_upto_region 16 with (at_lookup; refine wp_vmap rfl _ _ 74 31 zeroMem (zeroM _) rfl Tryz.underlying74 w.heap.size _ _ x hxs rfl hI3 rfl (.agg #[.string op, .string oi, .int .i64 or, .int .i64 os, .int .i64 ot, .int .i64 oe, .slice oa ol.length oc]) hv ?_)
          generalize wr.alloc (.cells #[.string op, .string oi, .int .i64 or, .int .i64 os, .int .i64 ot, .int .i64 oe, .slice oa ol.length oc] 31) = W3 at *
          have z6 : W3.cell? ⟨wr.heap.size, 6, none⟩ = some (.slice oa ol.length oc) := cell_of_block q3 6
          clear hI3 hv hc
          go_wp2_with fail
          refine (strs_clone oa oc ol W3 hoS3 hol2).mono ?_
          rintro en w4 ⟨⟨a1, c1, rfl, hS4, hB4, hF4⟩, hf4⟩
          have q4 := hf4.heap q3 id
          have z7 : w4.frozen? ⟨wr.heap.size, 6, none⟩ = false := free_of_block q4 6
          have z8 : w4.cell? ⟨wr.heap.size, 6, none⟩ = some (.slice oa ol.length oc) := cell_of_block q4 6
          have q5 := block_setCell q4 6 (.slice a1 ol.length c1)
          have hs3 := hx3.size
          have hlb := lt_of_block q3
          have hf34 : Fr No wr w4 := hx3.step hf4 (fun _ _ h => h)
          have hf5 : Fr (Is wr.heap.size) w4 (w4.setCell ⟨wr.heap.size, 6, none⟩ (.slice a1 ol.length c1)) := Fr.setCell (S := Is wr.heap.size) (p := ⟨wr.heap.size, 6, none⟩) (Fr.refl _ _) (fun _ => rfl) _
          clear z6 q3 q4 hoS3
          go_upto_region 17 with (fail)
          generalize w4.setCell ⟨wr.heap.size, 6, none⟩ (.slice a1 ol.length c1) = W5 at *
          have hf25 : Fr (fun b => wr.heap.size ≤ b) wr W5 := (hf34.mono (fun _ _ h => h.elim)).step hf5 (fun b _ h => by unfold Is at h; omega)
          have hown5 := ownsRow_at hown hf25 (fun b hb h => by have h1 := ownsRow_lt hown hb; omega)
          have hMF5 := hMF.fr hf25 (fun b _ h1 h2 => by omega)
          have hS5 := hS4.fr hf5 (fun ad e _ h => by have := hF4 ad e; unfold Is at h; omega)
          have hB5 := hB4.fr hf5 (fun ad e h => by have := hF4 ad e; unfold Is at h; omega)
          simp at q5
          have y0 : W5.cell? ⟨wr.heap.size, 0, none⟩ = some (.string op) := cell_of_block q5 0
          have y1 : W5.cell? ⟨wr.heap.size, 1, none⟩ = some (.string oi) := cell_of_block q5 1
          have y2 : W5.cell? ⟨wr.heap.size, 2, none⟩ = some (.int .i64 or) := cell_of_block q5 2
          have y3 : W5.cell? ⟨wr.heap.size, 3, none⟩ = some (.int .i64 os) := cell_of_block q5 3
          have y4 : W5.cell? ⟨wr.heap.size, 4, none⟩ = some (.int .i64 ot) := cell_of_block q5 4
          have y5 : W5.cell? ⟨wr.heap.size, 5, none⟩ = some (.int .i64 oe) := cell_of_block q5 5
          have y6 : W5.cell? ⟨wr.heap.size, 6, none⟩ = some (.slice a1 ol.length c1) := cell_of_block q5 6
          have hsf := hf25.size
          have hsr2 := hf.size
          have Hf25 := Lib.hid hf25
          have HS5 := Lib.hid (And.intro hS5 (And.intro hB5 hF4))
          have Hown5 := Lib.hid hown5
          have HMF5 := Lib.hid hMF5
          clear z7 z8 q5 hf5 hf34 hx3 hf4 hS4 hB4 hF4 hown hMF hf25 hS5 hB5 hMF5
          go_wp2_with (at_builtin; refine wpList_append_own _ rfl _ _ 37 rfl w2.heap.size 31 i0 (.agg #[.string ByteArray.empty, .string ByteArray.empty, .int .i64 0, .int .i64 0, .int .i64 0, .int .i64 0, .slice none 0 0]) 7 88 Tryz.underlying37 hi0 hz0 hz1 hz2 rfl (by decide) _ _ _ rfl (hown5.alloc _) ⟨W5.heap.size, 0, none⟩ 1 1 (Mem.vals ⟨op, oi, or, os, ot, oe, a1, ol, c1⟩).toList rfl rfl (cells_new _ (Mem.vals ⟨op, oi, or, os, ot, oe, a1, ol, c1⟩) _ rfl) (mvals_one _) (by unfold maxLen; omega) (by omega) (by first | omega | (simp; done) | (simp; omega)) ?_; intro v' w6 hown6 hgrow6 _; obtain ⟨av', cv', rfl⟩ := ownsRow_slice hown6)
          have hal : Fr No W5 (W5.alloc (.cells #[.string op, .string oi, .int .i64 or, .int .i64 os, .int .i64 ot, .int .i64 oe, .slice a1 ol.length c1] 31)) := (Fr.refl _ _).alloc _
          have howa := Hown5.out.alloc (.cells #[.string op, .string oi, .int .i64 or, .int .i64 os, .int .i64 ot, .int .i64 oe, .slice a1 ol.length c1] 31)
          have hgf : Fr (fun b => (Value.slice av O.length cv).ownBlock = some b) (W5.alloc (.cells #[.string op, .string oi, .int .i64 or, .int .i64 os, .int .i64 ot, .int .i64 oe, .slice a1 ol.length c1] 31)) w6 := Fr.of_grown hgrow6
          have hMF6 : MFresh w6 w2.heap.size (O ++ [⟨op, oi, or, os, ot, oe, a1, ol, c1⟩]) := by
            refine MFresh.own (MFresh.snoc (HMF5.out.fr hal (fun _ _ _ => id)) (HS5.out.1.no hal (fun _ => id)) (HS5.out.2.1.fr hal (fun _ _ => id)) (fun ad e => ?_)) howa hgf
            have := HS5.out.2.2 ad e
            omega
          have hO6 : (O ++ [(⟨op, oi, or, os, ot, oe, a1, ol, c1⟩ : Mem)]).map Mem.k = own1 L (ids.take (j + 1)) := by
            rw [Htj.out]
            unfold own1
            rw [List.map_append, List.map_append, HO.out]
            congr 1
            simp only [List.map_cons, List.map_nil, Ho.out, Option.getD_some]
            rfl
          have hf6 : Fr (From w2.heap.size) w2 w6 := ((hf.step Hf25.out (fun b _ h => by unfold From; omega)).step hal (fun _ _ h => h.elim)).step hgf (fun b _ h => ownsRow_blk howa h)
          have HF := Lib.hid (And.intro hown6 (And.intro hMF6 (And.intro hO6 hf6)))
          clear hown6 hMF6 hO6 hf6 hgrow6 hgf howa hal y0 y1 y2 y3 y4 y5 y6 hown5 hf
          go_roundw
          case rel => exact ⟨j + 1, O ++ [⟨op, oi, or, os, ot, oe, a1, ol, c1⟩], av', cv', by omega, by simp; omega, by simp, by go_num, by rw [List.length_append, mflat_snoc]; exact HF.out.1, HF.out.2.1, Lib.hid HF.out.2.2.1, HF.out.2.2.2⟩
          case measure => simp [intOf]; omega
        · obtain rfl : j = ids.length := by omega
          obtain ⟨a', c', hv, hR, hfresh⟩ := Mems.of_own hown (fun m hm => (hMF m hm).1)
          cases hv
          have ho := HO.out
          rw [List.take_length] at ho
          have hs3 := Hf1.out.size
          have hs4 := hf.size
          have H := Lib.hid (And.intro hR (And.intro hfresh (And.intro hMF (And.intro ho ((Hf2.out.trans hf (fun b hb h => h) (fun b hb h => by unfold From at h ⊢; omega)).mono (T := No) (fun b hb h => by unfold From at h; omega))))))
          clear hown hMF HO hf hR hfresh ho
          go_wp2_with fail
          go_ret
          exact ⟨⟨_, _, O, ids, rfl, H.out.1, fun ad e => by have := H.out.2.1 ad e; omega, fun m hm => ⟨(H.out.2.2.1 m hm).1, (H.out.2.2.1 m hm).2.1, fun ad e => by have := (H.out.2.2.1 m hm).2.2 ad e; omega⟩, Hids.out, H.out.2.2.2.1, hln⟩, H.out.2.2.2.2⟩
end Go.Proofs.YtcibciippghooaaGreatDoor
namespace Go.Proofs.YtcibciippghooaaGreatDoor
open Go.RowKit Go.Maps
set_option linter.unusedVariables false

/-- Block mb is the set of the keys K. -/
def KSet (w : World) (mb : Nat) (K : List ByteArray) (N : Nat) : Prop := VMap w mb (fun x => if hasS K (bk x) = true then some (.agg #[]) else none) N
theorem KSet.fr {S : Nat → Prop} {w w' : World} {mb : Nat} {K : List ByteArray} {N : Nat} (h : KSet w mb K N) (hf : Fr S w w') (hS : ¬ S mb) : KSet w' mb K N := VMap.fr h hf hS
theorem kset_upd (K : List ByteArray) (x : ByteArray) : updS (fun x => if hasS K (bk x) = true then some (.agg #[]) else none) (kb x) (.agg #[]) = fun y => if hasS (K ++ [x]) (bk y) = true then some (.agg #[]) else none := by
  funext y
  unfold updS
  have e : hasS (K ++ [x]) (bk y) = (hasS K (bk y) || decide (y = kb x)) := by
    unfold hasS
    rw [List.any_append]
    simp only [List.any_cons, List.any_nil, Bool.or_false]
    congr 1
    rw [strEq, decide_eq_decide]
    constructor
    · intro h; rw [h, kb_bk]
    · intro h; rw [h, bk_kb]
  rw [e]
  by_cases h : y = kb x
  · simp [h]
  · simp [h]
theorem zeroE (w : World) : (zeroValue 72).run Tryz.prog w = .ok (.agg #[]) w := by kernel_rfl

set_option maxRecDepth 100000 in
set_option maxHeartbeats 1000000 in
theorem key_set (a : Option Addr) (cap : Nat) (K : List ByteArray) (w : World) (hl : Strs w a cap K) (hb : K.length ≤ 1000000) (hs : ∀ x ∈ K, x.size ≤ maxLen) :
    Calls Tryz.prog 37 #[.slice a K.length cap] w fun e w' => (∃ mb, e = .returned (.map (some mb)) ∧ KSet w' mb K K.length ∧ w.heap.size ≤ mb) ∧ Fr No w w' := by
  have hmm := @run_makeMap Tryz.prog
  have hx : Fr No w (w.alloc (.map #[] 0)) := (Fr.refl _ _).alloc _
  have hI0 := VMap.made w
  have hlx := hl.no hx (fun _ => id)
  have hs0 : w.heap.size < (w.alloc (.map #[] 0)).heap.size := by simp
  go_enter Tryz.func37, Tryz.ntmps37
  go_wp2_with fail
  clear hmm
  generalize w.alloc (.map #[] 0) = W0 at *
  go_loopw [9] (fun i wr => ∃ k : Nat, k ≤ K.length ∧ i = .int .i64 (k : Int) ∧ KSet wr w.heap.size (K.take k) k ∧ Fr (From w.heap.size) w wr) (fun i _ => K.length - (intOf i).toNat)
  case atStart => exact ⟨0, by omega, rfl, by unfold KSet; simpa [hasS] using hI0, hx.mono (fun _ _ h => h.elim)⟩
  case round =>
    obtain ⟨k, hk, rfl, hI, hfr⟩ := hrel
    by_cases hlt : k < K.length
    · have hlt' : (k : Int) < K.length := by omega
      obtain ⟨b, off, x, rfl, hxk, hc⟩ := (hl.keep hfr (fun b hb h => by unfold From at h; omega)).at hlt
      have hxw := hs x (List.mem_of_getElem? hxk)
      have Hup : Hid (K.take (k + 1) = K.take k ++ [x]) := by unfold Hid; rw [List.take_add_one, hxk]; rfl
      clear hxk
      unfold KSet at hI
      go_wp2_with (at_mapUpdate; refine wp_vmap_put rfl _ _ _ 70 72 rfl Tryz.underlying70 w.heap.size _ k (by unfold maxLen; omega) x hxw (.agg #[]) rfl hI rfl rfl ?_; intro w1 hI1 hg1)
      rw [kset_upd, ← Hup.out] at hI1
      have hf1 : Fr (From w.heap.size) w w1 := hfr.step hg1 (fun b hb e => by unfold Is at e; unfold From; omega)
      have H := Lib.hid (And.intro hI1 hf1)
      clear hI1 hf1 hg1 hI hfr
      go_roundw
      case rel => exact ⟨k + 1, by omega, by go_num, H.out.1, H.out.2⟩
      case measure => simp [intOf]; omega
    · obtain rfl : k = K.length := by omega
      rw [List.take_length] at hI
      have H := Lib.hid (And.intro hI (hfr.mono (T := No) (fun b hb h => by unfold From at h; omega)))
      clear hI hfr
      go_wp2_with fail
      go_ret
      exact ⟨⟨_, rfl, H.out.1, Nat.le_refl _⟩, H.out.2⟩
end Go.Proofs.YtcibciippghooaaGreatDoor
namespace Go.Proofs.YtcibciippghooaaGreatDoor
open Go.RowKit Go.Maps
set_option linter.unusedVariables false

/-- An owner is the best one of its ID. -/
theorem own_at {L O : List Mem} {ids : List ByteArray} (hids : IsIds L ids) (h : O.map Mem.k = own1 L ids) {j : Nat} {m : Mem} (hj : O[j]? = some m) :
    ∃ o, ids[j]? = some m.i ∧ best L (kb m.i) = some o ∧ m.k = o.k ∧ m.l = o.l ∧ m.l.length = 1 ∧ o ∈ L := by
  have h1 : (O.map Mem.k)[j]? = some m.k := by rw [List.getElem?_map, hj]; rfl
  rw [h, own1, List.getElem?_map] at h1
  obtain ⟨x, hx, he⟩ := Option.map_eq_some_iff.1 h1
  obtain ⟨o, ho⟩ := Option.isSome_iff_exists.1 ((hids.mem x).1 (List.mem_of_getElem? hx))
  obtain ⟨h2, h3, h4⟩ := best_mem _ _ _ ho
  rw [ho, Option.getD_some] at he
  have e1 : m.i = o.i := (congrArg Mem.i he).symm
  have e2 : m.l = o.l := (congrArg Mem.l he).symm
  have e3 : m.i = x := by rw [e1]; exact kb_inj h4
  refine ⟨o, by rw [e3]; exact hx, by rw [e3]; exact ho, he.symm, e2, by rw [e2]; exact h3, h2⟩
theorem own_len {L O : List Mem} {ids : List ByteArray} (h : O.map Mem.k = own1 L ids) : O.length = ids.length := by
  have := congrArg List.length h
  simpa [own1] using this
theorem opened_snoc (ids K : List ByteArray) (x : ByteArray) : opened (ids ++ [x]) K = opened ids K ++ (if hasS K x = true then [x] else []) := by
  unfold opened
  rw [List.filter_append]
  congr 1
  rw [List.filter_cons]
  split <;> rfl
theorem asked_snoc (ids K : List ByteArray) (x : ByteArray) : asked (ids ++ [x]) K = asked ids K ++ (if hasS K x = true then [] else [x]) := by
  unfold asked
  rw [List.filter_append]
  congr 1
  rw [List.filter_cons]
  cases hasS K x <;> rfl
theorem opened_le (ids K : List ByteArray) : (opened ids K).length ≤ ids.length := List.length_filter_le _ _
theorem asked_le (ids K : List ByteArray) : (asked ids K).length ≤ ids.length := List.length_filter_le _ _

/-- What Open answers. -/
def OpenRes (w : World) (L : List Mem) (K : List ByteArray) (r : Int) (e : Ending) (w' : World) : Prop :=
  ∃ (a' : Option Addr) (c' : Nat) (V : List Vir) (ids : List ByteArray), e = .returned (.slice a' V.length c') ∧ Virs w' a' c' V ∧ (∀ ad, a' = some ad → w.heap.size ≤ ad.block) ∧ IsIds L ids ∧ V = (opened ids K).map (virOf L r) ∧ ids.length ≤ L.length

set_option maxRecDepth 100000 in
set_option maxHeartbeats 8000000 in
theorem c_open (a : Option Addr) (cap : Nat) (L : List Mem) (ka : Option Addr) (kc : Nat) (K : List ByteArray) (r : Int) (m0 : Int) (w : World) (hl : Mems w a cap L) (hb : MemSmall L) (hk : Strs w ka kc K) (hkl : K.length ≤ 1000000) (hks : ∀ x ∈ K, x.size ≤ maxLen)
    (hm0 : w.cell? ⟨3, 0, none⟩ = some (.int .i64 m0)) (hw0 : 3 < w.heap.size) :
    Calls Tryz.prog 19 #[.slice a L.length cap, .slice ka K.length kc, .int .i64 r] w fun e w' => OpenRes w L K r e w' ∧ Fr No w w' := by
  obtain ⟨i0, hi0, hz0, hz1, hz2⟩ := info_parts infoV
  have hlm := hb.len
  have Hb := Lib.hid hb
  clear hb
  go_enter Tryz.func19, Tryz.ntmps19
  go_wp2_with fail
  refine (key_set ka kc K w hk hkl hks).mono ?_
  rintro e w1 ⟨⟨mb, rfl, hK1, hmb⟩, hf1⟩
  have hl1 := hl.no hf1 (fun _ => id)
  have hm1 := hf1.cell hm0 id
  have hs1 := hf1.size
  have Hf1 := Lib.hid hf1
  have hmb1 : mb < w1.heap.size := VMap.lt hK1
  clear hk hks hl hm0 hf1
  go_wp2_with fail
  refine (c_owners a cap L m0 w1 hl1 Hb.out hm1 (by omega)).mono ?_
  rintro e w2 ⟨⟨oa, oc, O, ids, rfl, hO, hOf, hOm, hids, ho, hil⟩, hf2⟩
  have hol := own_len ho
  have hs2 := hf2.size
  have hK2 := hK1.fr hf2 id
  have Hf2 := Lib.hid (Hf1.out.step hf2 (fun _ _ h => h))
  have Hids := Lib.hid hids
  have Ho := Lib.hid ho
  have HOm := Lib.hid hOm
  have hom := hO.lenmax
  clear hl1 hm1 hf2 hK1 hids ho hOm hOf
  go_wp2_with fail
  go_loopw [8, 18] (fun v i wr => ∃ (j : Nat) (V : List Vir) (av : Option Addr) (cv : Nat), j ≤ O.length ∧ V.length ≤ j ∧ v = .slice av V.length cv ∧ i = .int .i64 (j : Int) ∧ wr.ownsRow w2.heap.size 42 4 (.slice av V.length cv) V.length (vflat V) ∧ Hid (V = (opened (ids.take j) K).map (virOf L r)) ∧ Fr (From w2.heap.size) w2 wr) (fun _ i _ => O.length - (intOf i).toNat)
  case atStart => exact ⟨0, [], none, 0, by omega, by simp, rfl, rfl, World.ownsRow_nil _ _ _ _, by unfold Hid; simp [opened], Fr.refl _ _⟩
  case round =>
    obtain ⟨j, V, av, cv, hj, hVj, rfl, rfl, hown, HV, hf⟩ := hrel
    have hsr := hf.size
    by_cases hlt : j < O.length
    · have hlt' : (j : Int) < O.length := by omega
      obtain ⟨b, off, m, rfl, hxj, hst, hat, hbl⟩ := (hO.keep hf (fun b hb h => by unfold From at h; omega)).elem hlt
      obtain ⟨o, hid, hbo, hmk, hml, hm1, hoL⟩ := own_at Hids.out Ho.out hxj
      have hib : ∀ ad, m.a = some ad → ad.block < w2.heap.size := fun ad e => ((hO.ok m (List.mem_of_getElem? hxj)).cell ad e (by intro e; rw [e] at hm1; cases hm1)).2.1
      have him : m.i.size ≤ 1000000 := by have h1 := Hb.out.i o hoL; have h2 := congrArg Mem.i hmk; have h3 : m.i = o.i := h2; rw [h3]; exact h1
      have hix : m.i.size ≤ maxLen := by unfold maxLen; omega
      have Htj : Hid (ids.take (j + 1) = ids.take j ++ [m.i]) := by unfold Hid; rw [List.take_add_one, hid]; rfl
      have hK3 := hK2.fr hf (by unfold From; omega)
      have hst0 := hst.at (k := 0) (by omega)
      have Hin : Hid (∀ c, m.l[0]? = some c → virOf L r m.i = ⟨⟨#[]⟩, openT ++ m.i, c, r⟩) := fun c hc => by
        unfold virOf inner0
        rw [hbo, Option.getD_some, ← hml]
        congr 1
        rcases hll : m.l with _ | ⟨d, t⟩
        · rw [hll] at hc; cases hc
        · rw [hll] at hc; simpa using hc
      have hml1 : (0 : Int) < m.l.length := by omega
      clear hxj hid hbo hmk hml hoL hst
      obtain ⟨mp, mi, mr, ms, mt, me, ma, ml, mc⟩ := m
      obtain ⟨c0, c1, c2, c3, c4, c5, c6⟩ := hat
      simp only at c0 c1 c2 c3 c4 c5 c6 him hix hst0 hml1 hm1 hib
      obtain ⟨ib, io, c, rfl, hc, hcc⟩ := hst0
      rw [Nat.add_zero] at hcc
      have hibl := hib _ rfl
      simp only at hibl
      clear hib
      have Hc := Lib.hid (Hin.out c hc)
      have Hm1 := Lib.hid hm1
      clear hc Hin hm1
      simp only at Hc Htj
      have hx1 : Fr No wr (wr.alloc (.cells #[.string mp, .string mi, .int .i64 mr, .int .i64 ms, .int .i64 mt, .int .i64 me, .slice (some ⟨ib, io, none⟩) ml.length mc] 31)) := (Fr.refl _ _).alloc _
      have hKx := hK3.fr hx1 id
      unfold KSet at hKx
      have hv : ((fun x => if hasS K (bk x) = true then some (Value.agg #[]) else none) (kb mi)).getD (.agg #[]) = .agg #[] := by
        simp only [bk_kb]; cases hasS K mi <;> rfl
      rcases hh : hasS K mi with _ | _
      · have hbo : ((fun x => if hasS K (bk x) = true then some (Value.agg #[]) else none) (kb mi)).isSome = false := by simp only [bk_kb, hh]; rfl
        have hx2 : Fr No wr ((wr.alloc (.cells #[.string mp, .string mi, .int .i64 mr, .int .i64 ms, .int .i64 mt, .int .i64 me, .slice (some ⟨ib, io, none⟩) ml.length mc] 31)).alloc (.cells #[] 72)) := hx1.alloc _
        have hown2 := ownsRow_at hown hx2 (fun _ _ h => h)
        have HV2 : Hid (V = (opened (ids.take (j + 1)) K).map (virOf L r)) := by unfold Hid; rw [Htj.out, opened_snoc, hh]; simpa using HV.out
        have HF := Lib.hid (And.intro hown2 (hf.step hx2 (fun _ _ h => h.elim)))
        clear hown2 hown hx2 hx1 hf hh HV
        go_wp2_with (at_lookup; refine wp_vmap_ok rfl _ _ 70 72 (.agg #[]) (zeroE _) rfl Tryz.underlying70 mb _ _ mi hix rfl hKx rfl (.agg #[]) hv false hbo ?_)
        go_roundw
        case rel => exact ⟨j + 1, V, av, cv, by omega, by omega, rfl, by go_num, HF.out.1, HV2, HF.out.2⟩
        case measure => simp [intOf]; omega
      · have hbo : ((fun x => if hasS K (bk x) = true then some (Value.agg #[]) else none) (kb mi)).isSome = true := by simp only [bk_kb, hh]; rfl
        have hx2 : Fr No wr ((wr.alloc (.cells #[.string mp, .string mi, .int .i64 mr, .int .i64 ms, .int .i64 mt, .int .i64 me, .slice (some ⟨ib, io, none⟩) ml.length mc] 31)).alloc (.cells #[] 72)) := hx1.alloc _
        have q1 := block_alloc1 wr (.cells #[.string mp, .string mi, .int .i64 mr, .int .i64 ms, .int .i64 mt, .int .i64 me, .slice (some ⟨ib, io, none⟩) ml.length mc] 31) (.cells #[] 72)
        have hown2 := ownsRow_at hown hx2 (fun _ _ h => h)
        have HV2 : Hid ((opened (ids.take (j + 1)) K).map (virOf L r) = V ++ [⟨⟨#[]⟩, openT ++ mi, c, r⟩]) := by unfold Hid; rw [Htj.out, opened_snoc, hh, if_pos rfl, List.map_append, ← HV.out, List.map_cons, List.map_nil, Hc.out]
        go_upto_region 8 with (at_lookup; refine wp_vmap_ok rfl _ _ 70 72 (.agg #[]) (zeroE _) rfl Tryz.underlying70 mb _ _ mi hix rfl hKx rfl (.agg #[]) hv true hbo ?_)
        have hcx := hx2.cell hcc id
        have hsx := hx2.size
        have hfx := hf.step hx2 (fun _ _ h => h.elim)
        have nO : ¬ (Value.slice av V.length cv).ownBlock = some wr.heap.size := fun h => by have := ownsRow_lt hown h; omega
        have nI : ¬ (Value.slice av V.length cv).ownBlock = some ib := fun h => by have := ownsRow_blk hown h; unfold From at this; omega
        clear hx2 hx1 hown hcc hf hKx hv hbo c0 c1 c2 c3 c4 c5 c6
        generalize (wr.alloc (.cells #[.string mp, .string mi, .int .i64 mr, .int .i64 ms, .int .i64 mt, .int .i64 me, .slice (some ⟨ib, io, none⟩) ml.length mc] 31)).alloc (.cells #[] 72) = W5 at *
        refine region_sig (fun b => (Value.slice av V.length cv).ownBlock = some b) [(0, false), (1, false), (2, false), (3, false), (4, false), (5, false), (6, false), (7, false), (8, false), (9, false), (10, true), (11, true), (12, false)] (by kernel_rfl) (by kernel_rfl) (fun w0 hf0 => ?_)
        have g1 : ∀ g : Gr (fun b => (Value.slice av V.length cv).ownBlock = some b) w0, g.W.cell? ⟨wr.heap.size, 1, none⟩ = some (.string mi) := fun g => g.fr.cell (hf0.cell (cell_of_block q1 1) id) nO
        have g6 : ∀ g : Gr (fun b => (Value.slice av V.length cv).ownBlock = some b) w0, g.W.cell? ⟨wr.heap.size, 6, none⟩ = some (.slice (some ⟨ib, io, none⟩) ml.length mc) := fun g => g.fr.cell (hf0.cell (cell_of_block q1 6) id) nO
        have gc : ∀ g : Gr (fun b => (Value.slice av V.length cv).ownBlock = some b) w0, g.W.cell? ⟨ib, io, none⟩ = some (.string c) := fun g => g.fr.cell (hf0.cell hcx id) nI
        have hown3 := ownsRow_at hown2 hf0 (fun _ _ h => h)
        have hz : ¬ 9223372036854775807 < 5 + mi.size := by omega
        have hs0 := hf0.size
        have Hfx := Lib.hid (hfx.step hf0 (fun _ _ h => h.elim))
        have Hown3 := Lib.hid hown3
        have HV0 := Lib.hid HV
        clear hown2 hf0 hfx q1 hcx nO nI HV hown3
        repeat (apply sig_q; exact rfl; exact rfl; exact rfl; intro K hK; go_big_quiet_op; go_big_quiet_on)
        clear g1 g6 gc
        apply sig_m
        exact rfl
        go_wp2_with fail
        refine OnlyN.mk ⟨(Fr.refl _ _).alloc _, ?_⟩
        apply sig_m
        exact rfl
        go_wp2_with (at_builtin; refine wpList_append_own _ rfl _ _ 38 rfl w2.heap.size 42 i0 (.agg #[.string ByteArray.empty, .string ByteArray.empty, .string ByteArray.empty, .int .i64 0]) 4 56 Tryz.underlying38 hi0 hz0 hz1 hz2 rfl (by decide) _ _ _ rfl (Hown3.out.alloc _) ⟨w0.heap.size, 0, none⟩ 1 1 (Vir.vals ⟨⟨#[]⟩, openT ++ mi, c, r⟩).toList rfl rfl (cells_new _ (Vir.vals ⟨⟨#[]⟩, openT ++ mi, c, r⟩) _ rfl) (vvals_one _) (by unfold maxLen; omega) (by omega) (by first | omega | (simp; done) | (simp; omega)) ?_; intro v' w6 hown6 hgrow6 _; obtain ⟨av', cv', rfl⟩ := ownsRow_slice hown6)
        have hgf : Fr (fun b => (Value.slice av V.length cv).ownBlock = some b) (w0.alloc (.cells (Vir.vals ⟨⟨#[]⟩, openT ++ mi, c, r⟩) 42)) w6 := Fr.of_grown hgrow6
        have hal : Fr No w0 (w0.alloc (.cells (Vir.vals ⟨⟨#[]⟩, openT ++ mi, c, r⟩) 42)) := (Fr.refl _ _).alloc _
        refine OnlyN.mk ⟨hgf, ?_⟩
        have HF := Lib.hid (And.intro hown6 ((Hfx.out.step hal (fun _ _ h => h.elim)).step hgf (fun b _ h => ownsRow_blk Hown3.out h)))
        clear hown6 hgf hal hgrow6
        repeat (apply sig_q; exact rfl; exact rfl; exact rfl; intro K hK; go_big_quiet_op; go_big_quiet_on)
        refine sig_end ?_
        go_wp2_with fail
        go_roundw
        case rel => exact ⟨j + 1, V ++ [⟨⟨#[]⟩, openT ++ mi, c, r⟩], av', cv', by omega, by simp; omega, by simp, by go_num, by rw [List.length_append, vflat_snoc]; exact HF.out.1, Lib.hid HV2.out.symm, HF.out.2⟩
        case measure => simp [intOf]; omega
    · obtain rfl : j = O.length := by omega
      obtain ⟨a', c', hv, hR, hfresh⟩ := Virs.of_own hown
      cases hv
      have hV := HV.out
      rw [hol, List.take_length] at hV
      have H := Lib.hid (And.intro hR (And.intro hfresh (And.intro hV ((Hf2.out.step hf (fun b hb h => by have := Hf2.out.size; unfold From at h; omega))))))
      clear hown HV hf hR hfresh hV
      go_wp2_with fail
      go_ret
      exact ⟨⟨_, _, V, ids, rfl, H.out.1, fun ad e => by have := H.out.2.1 ad e; omega, Hids.out, H.out.2.2.1, hil⟩, H.out.2.2.2⟩
end Go.Proofs.YtcibciippghooaaGreatDoor
