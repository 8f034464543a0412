/- Owners. coldplugref33.Owners. -/
import Derived.Test.YtbblkknndaoefaaGreatDoorZC7
import Derived.Test.YtbblkknndaoefaaGreatDoorZC8
import Derived.Laws.EntriesVeiled
import Derived.Test.YtbblkknndaoefaaGreatDoorZC6
namespace Go.Proofs.YtbblkknndaoefaaGreatDoor
open Go.RowKit Go.Maps
set_option linter.unusedVariables false

def mapM (g : List UInt8 → Option Mem) : List UInt8 → Option Value := fun x => (g x).map Mem.v
theorem mapM_upd (g : List UInt8 → Option Mem) (x : List UInt8) (m : Mem) : updS (mapM g) x m.v = mapM (fun y => if y = x then some m else g y) := by
  funext y
  unfold updS mapM
  by_cases h : y = x <;> simp [h]
def zeroMem : Value := .agg #[.string ⟨#[]⟩, .string ⟨#[]⟩, .int .i64 0, .int .i64 0, .int .i64 0, .int .i64 0, .slice none 0 0]
theorem zeroM (w : World) : (zeroValue 58).run Tryz.prog w = .ok zeroMem w := by kernel_rfl

/-- The sizes of a list of members. -/
structure MemSmall (L : List Mem) : Prop where
  len : L.length ≤ 1000
  p : ∀ m ∈ L, m.p.size ≤ 1000000
  i : ∀ m ∈ L, m.i.size ≤ 1000000
  l : ∀ m ∈ L, m.l.length ≤ 1000000
/-- What Owners answers. -/
def OwnRes (w : World) (L : List Mem) (e : Ending) (w' : World) : Prop :=
  ∃ (a' : Option Addr) (c' : Nat) (O : List Mem) (ids : List ByteArray), e = .returned (.slice a' O.length c') ∧ Mems w' a' c' O ∧ (∀ ad, a' = some ad → w.heap.size ≤ ad.block) ∧ MFresh w' w.heap.size O ∧ IsIds L ids ∧ O.map Mem.k = own1 L ids ∧ ids.length ≤ L.length

set_option maxRecDepth 100000 in
set_option maxHeartbeats 8000000 in
theorem c_owners (a : Option Addr) (cap : Nat) (L : List Mem) (m0 : Int) (w : World) (hl : Mems w a cap L) (hb : MemSmall L) (hm0 : w.cell? ⟨1, 0, none⟩ = some (.int .i64 m0)) (hw0 : 1 < w.heap.size) :
    Calls Tryz.prog 19 #[.slice a L.length cap] w fun e w' => OwnRes w L e w' ∧ Fr No w w' := by
  obtain ⟨i0, hi0, hz0, hz1, hz2⟩ := info_parts infoM
  have hlm := hb.len
  have hmm := @run_makeMap Tryz.prog
  have hx : Fr No w (w.alloc (.map #[] 0)) := (Fr.refl _ _).alloc _
  have hI0 := VMap.made w
  have hs0 : w.heap.size < (w.alloc (.map #[] 0)).heap.size := by simp
  have hlk : ∀ W : World, Fr (From w.heap.size) w W → Mems W a cap L := fun W hf => hl.keep hf (fun b hb h => by unfold From at h; omega)
  have Hlk := Lib.hid hlk
  have Hb := Lib.hid hb
  clear hlk hb hl
  go_enter Tryz.func19, Tryz.ntmps19
  go_wp2_with fail
  clear hmm
  generalize w.alloc (.map #[] 0) = W0 at *
  go_loopw [16] (fun i wr => ∃ k : Nat, k ≤ L.length ∧ i = .int .i64 (k : Int) ∧ VMap wr w.heap.size (mapM (best (L.take k))) k ∧ Fr (From w.heap.size) w wr ∧ w.heap.size < wr.heap.size) (fun i _ => L.length - (intOf i).toNat)
  case atStart => exact ⟨0, by omega, rfl, by exact hI0, hx.mono (fun _ _ h => h.elim), hs0⟩
  case round =>
    obtain ⟨k, hk, rfl, hI, hfr, hsr⟩ := hrel
    by_cases hlt : k < L.length
    · have hlt' : (k : Int) < L.length := by omega
      obtain ⟨b, off, m, rfl, hxk, hst, hat, hbl⟩ := (Hlk.out _ hfr).elem hlt
      have hmem := List.mem_of_getElem? hxk
      have Htk : Hid (L.take (k + 1) = L.take k ++ [m]) := by unfold Hid; rw [List.take_add_one, hxk]; rfl
      have hpm := Hb.out.p m hmem
      have him : m.i.size ≤ maxLen := by have := Hb.out.i m hmem; unfold maxLen; omega
      have hm1 : wr.cell? ⟨1, 0, none⟩ = some (.int .i64 m0) := hfr.cell hm0 (by show ¬ From w.heap.size 1; unfold From; omega)
      obtain ⟨mp, mi, mr, ms, mt, me, ma, ml, mc⟩ := m
      obtain ⟨c0, c1, c2, c3, c4, c5, c6⟩ := hat
      simp only at c0 c1 c2 c3 c4 c5 c6 hpm him
      clear hxk hst hmem
      by_cases hl1 : ml.length = 1
      · have hne : ((ml.length : Int) != 1) = false := by simp [hl1]
        have Hl1 := Lib.hid hl1
        clear hl1
        have hx1 : Fr No wr (wr.alloc (.cells #[.string mp, .string mi, .int .i64 mr, .int .i64 ms, .int .i64 mt, .int .i64 me, .slice ma ml.length mc] 58)) := (Fr.refl _ _).alloc _
        have q1 := block_alloc wr (.cells #[.string mp, .string mi, .int .i64 mr, .int .i64 ms, .int .i64 mt, .int .i64 me, .slice ma ml.length mc] 58)
        have hIx := hI.fr hx1 id
        clear hI
        rcases hg : best (L.take k) (kb mi) with _ | o
        · have hv : (mapM (best (L.take k)) (kb mi)).getD zeroMem = .agg #[.string ⟨#[]⟩, .string ⟨#[]⟩, .int .i64 0, .int .i64 0, .int .i64 0, .int .i64 0, .slice none 0 0] := by unfold mapM; rw [hg]; rfl
          have hbo : (mapM (best (L.take k)) (kb mi)).isSome = false := by unfold mapM; rw [hg]; rfl
          have Hg : Hid (∀ o, best (L.take k) (kb mi) = some o → ahead ⟨mp, mi, mr, ms, mt, me, ma, ml, mc⟩ o = true) := fun o ho => by rw [hg] at ho; cases ho
          clear hg
          go_upto_region 8 with (at_lookup; refine wp_vmap_ok rfl _ _ 94 58 zeroMem (zeroM _) rfl Tryz.underlying94 w.heap.size _ k mi him rfl hIx rfl (.agg #[.string ⟨#[]⟩, .string ⟨#[]⟩, .int .i64 0, .int .i64 0, .int .i64 0, .int .i64 0, .slice none 0 0]) hv false hbo ?_)
          have hx2 : Fr No wr ((wr.alloc (.cells #[.string mp, .string mi, .int .i64 mr, .int .i64 ms, .int .i64 mt, .int .i64 me, .slice ma ml.length mc] 58)).alloc (.cells #[.string ⟨#[]⟩, .string ⟨#[]⟩, .int .i64 0, .int .i64 0, .int .i64 0, .int .i64 0, .slice none 0 0] 58)) := hx1.alloc _
          have q2 := block_alloc1 wr (.cells #[.string mp, .string mi, .int .i64 mr, .int .i64 ms, .int .i64 mt, .int .i64 me, .slice ma ml.length mc] 58) (.cells #[.string ⟨#[]⟩, .string ⟨#[]⟩, .int .i64 0, .int .i64 0, .int .i64 0, .int .i64 0, .slice none 0 0] 58)
          have hI2 := hIx.fr ((Fr.refl No _).alloc (.cells #[.string ⟨#[]⟩, .string ⟨#[]⟩, .int .i64 0, .int .i64 0, .int .i64 0, .int .i64 0, .slice none 0 0] 58)) id
          clear hIx hv hbo c0 c1 c2 c3 c4 c5 c6 q1 hx1
          generalize (wr.alloc (.cells #[.string mp, .string mi, .int .i64 mr, .int .i64 ms, .int .i64 mt, .int .i64 me, .slice ma ml.length mc] 58)).alloc (.cells #[.string ⟨#[]⟩, .string ⟨#[]⟩, .int .i64 0, .int .i64 0, .int .i64 0, .int .i64 0, .slice none 0 0] 58) = W2 at *
          have y0 : W2.cell? ⟨wr.heap.size, 0, none⟩ = some (.string mp) := cell_of_block q2 0
          have y1 : W2.cell? ⟨wr.heap.size, 1, none⟩ = some (.string mi) := cell_of_block q2 1
          have y2 : W2.cell? ⟨wr.heap.size, 2, none⟩ = some (.int .i64 mr) := cell_of_block q2 2
          have y3 : W2.cell? ⟨wr.heap.size, 3, none⟩ = some (.int .i64 ms) := cell_of_block q2 3
          have y4 : W2.cell? ⟨wr.heap.size, 4, none⟩ = some (.int .i64 mt) := cell_of_block q2 4
          have y5 : W2.cell? ⟨wr.heap.size, 5, none⟩ = some (.int .i64 me) := cell_of_block q2 5
          have y6 : W2.cell? ⟨wr.heap.size, 6, none⟩ = some (.slice ma ml.length mc) := cell_of_block q2 6
          have Hf2 := Lib.hid (hfr.step hx2 (fun _ _ h => h.elim))
          have hs2 := hx2.size
          clear q2 hx2 hfr
          go_wp2_with (at_mapUpdate; refine wp_vmap_put rfl _ _ _ 94 58 rfl Tryz.underlying94 w.heap.size _ k (by unfold maxLen; omega) mi him (.agg #[.string mp, .string mi, .int .i64 mr, .int .i64 ms, .int .i64 mt, .int .i64 me, .slice ma ml.length mc]) rfl hI2 rfl rfl ?_; intro w4 hI4 hg4)
          have hI5 : VMap w4 w.heap.size (mapM (best (L.take (k + 1)))) (k + 1) := by rw [Htk.out, best_snoc, bestS_take Hl1.out Hg.out, ← mapM_upd]; exact hI4
          have H := Lib.hid (And.intro hI5 (And.intro (Hf2.out.step hg4 (fun b hb e => by unfold Is at e; unfold From; omega)) hg4.size))
          clear hI4 hI5 hg4
          go_roundw
          case rel => exact ⟨k + 1, by omega, by go_num, H.out.1, H.out.2.1, by have := H.out.2.2; omega⟩
          case measure => simp [intOf]; omega
        · obtain ⟨op, oi, or, os, ot, oe, oa, ol, oc⟩ := o
          have hv : (mapM (best (L.take k)) (kb mi)).getD zeroMem = .agg #[.string op, .string oi, .int .i64 or, .int .i64 os, .int .i64 ot, .int .i64 oe, .slice oa ol.length oc] := by unfold mapM; rw [hg]; rfl
          have hbo : (mapM (best (L.take k)) (kb mi)).isSome = true := by unfold mapM; rw [hg]; rfl
          have hop := Hb.out.p _ (List.mem_of_mem_take (best_mem _ _ _ hg).1)
          simp only at hop
          have Hg := Lib.hid hg
          clear hg
          go_upto_region 8 with (at_lookup; refine wp_vmap_ok rfl _ _ 94 58 zeroMem (zeroM _) rfl Tryz.underlying94 w.heap.size _ k mi him rfl hIx rfl (.agg #[.string op, .string oi, .int .i64 or, .int .i64 os, .int .i64 ot, .int .i64 oe, .slice oa ol.length oc]) hv true hbo ?_)
          have hx2 : Fr No wr ((wr.alloc (.cells #[.string mp, .string mi, .int .i64 mr, .int .i64 ms, .int .i64 mt, .int .i64 me, .slice ma ml.length mc] 58)).alloc (.cells #[.string op, .string oi, .int .i64 or, .int .i64 os, .int .i64 ot, .int .i64 oe, .slice oa ol.length oc] 58)) := hx1.alloc _
          have q2 := block_alloc1 wr (.cells #[.string mp, .string mi, .int .i64 mr, .int .i64 ms, .int .i64 mt, .int .i64 me, .slice ma ml.length mc] 58) (.cells #[.string op, .string oi, .int .i64 or, .int .i64 os, .int .i64 ot, .int .i64 oe, .slice oa ol.length oc] 58)
          have q3 := block_alloc2 wr (.cells #[.string mp, .string mi, .int .i64 mr, .int .i64 ms, .int .i64 mt, .int .i64 me, .slice ma ml.length mc] 58) (.cells #[.string op, .string oi, .int .i64 or, .int .i64 os, .int .i64 ot, .int .i64 oe, .slice oa ol.length oc] 58)
          have hI2 := hIx.fr ((Fr.refl No _).alloc (.cells #[.string op, .string oi, .int .i64 or, .int .i64 os, .int .i64 ot, .int .i64 oe, .slice oa ol.length oc] 58)) id
          clear hIx hv hbo c0 c1 c2 c3 c4 c5 c6 q1 hx1
          generalize (wr.alloc (.cells #[.string mp, .string mi, .int .i64 mr, .int .i64 ms, .int .i64 mt, .int .i64 me, .slice ma ml.length mc] 58)).alloc (.cells #[.string op, .string oi, .int .i64 or, .int .i64 os, .int .i64 ot, .int .i64 oe, .slice oa ol.length oc] 58) = W2 at *
          have z0 : W2.cell? ⟨wr.heap.size + 1, 0, none⟩ = some (.string op) := cell_of_block q3 0
          have z1 : W2.cell? ⟨wr.heap.size + 1, 1, none⟩ = some (.string oi) := cell_of_block q3 1
          have z2 : W2.cell? ⟨wr.heap.size + 1, 2, none⟩ = some (.int .i64 or) := cell_of_block q3 2
          have z3 : W2.cell? ⟨wr.heap.size + 1, 3, none⟩ = some (.int .i64 os) := cell_of_block q3 3
          have z4 : W2.cell? ⟨wr.heap.size + 1, 4, none⟩ = some (.int .i64 ot) := cell_of_block q3 4
          have z5 : W2.cell? ⟨wr.heap.size + 1, 5, none⟩ = some (.int .i64 oe) := cell_of_block q3 5
          have z6 : W2.cell? ⟨wr.heap.size + 1, 6, none⟩ = some (.slice oa ol.length oc) := cell_of_block q3 6
          have hm2 := hx2.cell hm1 id
          have Hf2 := Lib.hid (hfr.step hx2 (fun _ _ h => h.elim))
          have hs2 := hx2.size
          clear q3 hx2 hfr hm1
          go_wp2_with fail
          refine (l_ahead mp mi op oi mr ms mt me or os ot oe _ _ m0 _ hpm hop hm2).mono ?_
          rintro en w3 ⟨rfl, hf3⟩
          have q4 := hf3.heap q2 id
          have hI3 := hI2.fr hf3 id
          have Hf3 := Lib.hid (Hf2.out.step hf3 (fun _ _ h => h.elim))
          have hs3 := hf3.size
          clear z0 z1 z2 z3 z4 z5 z6 hf3 q2 hm2 hI2
          rcases ha : aheadB mp mr op or with _ | _
          · have hI5 : VMap w3 w.heap.size (mapM (best (L.take (k + 1)))) k := by rw [Htk.out, best_snoc, bestS_keep (m := ⟨mp, mi, mr, ms, mt, me, ma, ml, mc⟩) (o := ⟨op, oi, or, os, ot, oe, oa, ol, oc⟩) Hg.out ha]; exact hI3
            have H := Lib.hid (And.intro hI5 Hf3.out)
            clear hI5 hI3 q4
            go_wp2_with fail
            go_roundw
            case rel => exact ⟨k + 1, by omega, by go_num, H.out.1.mono (by omega), H.out.2, by omega⟩
            case measure => simp [intOf]; omega
          · have Hah : Hid (∀ o, best (L.take k) (kb mi) = some o → ahead ⟨mp, mi, mr, ms, mt, me, ma, ml, mc⟩ o = true) := fun o ho => by rw [Hg.out] at ho; cases ho; exact ha
            have y0 : w3.cell? ⟨wr.heap.size, 0, none⟩ = some (.string mp) := cell_of_block q4 0
            have y1 : w3.cell? ⟨wr.heap.size, 1, none⟩ = some (.string mi) := cell_of_block q4 1
            have y2 : w3.cell? ⟨wr.heap.size, 2, none⟩ = some (.int .i64 mr) := cell_of_block q4 2
            have y3 : w3.cell? ⟨wr.heap.size, 3, none⟩ = some (.int .i64 ms) := cell_of_block q4 3
            have y4 : w3.cell? ⟨wr.heap.size, 4, none⟩ = some (.int .i64 mt) := cell_of_block q4 4
            have y5 : w3.cell? ⟨wr.heap.size, 5, none⟩ = some (.int .i64 me) := cell_of_block q4 5
            have y6 : w3.cell? ⟨wr.heap.size, 6, none⟩ = some (.slice ma ml.length mc) := cell_of_block q4 6
            clear q4 ha
            go_wp2_with (at_mapUpdate; refine wp_vmap_put rfl _ _ _ 94 58 rfl Tryz.underlying94 w.heap.size _ k (by unfold maxLen; omega) mi him (.agg #[.string mp, .string mi, .int .i64 mr, .int .i64 ms, .int .i64 mt, .int .i64 me, .slice ma ml.length mc]) rfl hI3 rfl rfl ?_; intro w4 hI4 hg4)
            have hI5 : VMap w4 w.heap.size (mapM (best (L.take (k + 1)))) (k + 1) := by rw [Htk.out, best_snoc, bestS_take Hl1.out Hah.out, ← mapM_upd]; exact hI4
            have H := Lib.hid (And.intro hI5 (And.intro (Hf3.out.step hg4 (fun b hb e => by unfold Is at e; unfold From; omega)) hg4.size))
            clear hI4 hI5 hg4
            go_roundw
            case rel => exact ⟨k + 1, by omega, by go_num, H.out.1, H.out.2.1, by have := H.out.2.2; omega⟩
            case measure => simp [intOf]; omega
      · have hne : ((ml.length : Int) != 1) = true := by simp; omega
        have hx1 : Fr No wr (wr.alloc (.cells #[.string mp, .string mi, .int .i64 mr, .int .i64 ms, .int .i64 mt, .int .i64 me, .slice ma ml.length mc] 58)) := (Fr.refl _ _).alloc _
        have hI1 : VMap (wr.alloc (.cells #[.string mp, .string mi, .int .i64 mr, .int .i64 ms, .int .i64 mt, .int .i64 me, .slice ma ml.length mc] 58)) w.heap.size (mapM (best (L.take (k + 1)))) k := by rw [Htk.out, best_snoc, bestS_skip hl1]; exact hI.fr hx1 id
        have H := Lib.hid (And.intro hI1 (And.intro (hfr.step hx1 (fun _ _ h => h.elim)) hx1.size))
        clear hI1 hI hx1 hfr hl1
        go_wp2_with fail
        go_roundw
        case rel => exact ⟨k + 1, by omega, by go_num, H.out.1.mono (by omega), H.out.2.1, by have := H.out.2.2; omega⟩
        case measure => simp [intOf]; omega
    · obtain rfl : k = L.length := by omega
      rw [List.take_length] at hI
      go_wp2_with fail
      refine (m_keys _ _).mono ?_
      rintro en w1 ⟨rfl, rfl⟩
      have hx1 : Fr No wr (wr.alloc (.cells #[.map (some w.heap.size)] 94)) := (Fr.refl _ _).alloc _
      have q1 := block_alloc wr (.cells #[.map (some w.heap.size)] 94)
      have hs1 : wr.heap.size < (wr.alloc (.cells #[.map (some w.heap.size)] 94)).heap.size := by simp
      have hI1 := hI.fr hx1 id
      have Hf1 := Lib.hid (hfr.step hx1 (fun _ _ h => h.elim))
      clear hI hfr hx1
      go_wp2_with fail
      generalize wr.alloc (.cells #[.map (some w.heap.size)] 94) = W1 at *
      refine (m_sorted w.heap.size wr.heap.size _ L.length W1 hI1 (by omega) (cell_of_block q1 0) hs1).mono ?_
      rintro en w2 ⟨⟨ia, ic, ids, rfl, hS, hasc, hmem, hln, hfresh⟩, hf2⟩
      have hids : IsIds L ids := ⟨hasc, fun x => by rw [hmem]; unfold mapM; rw [Option.isSome_map]⟩
      have hI2 := hI1.fr hf2 id
      have Hf2 := Lib.hid (Hf1.out.step hf2 (fun _ _ h => h.elim))
      have hs2 := hf2.size
      have Hids := Lib.hid hids
      have hil := hS.lenmax
      clear q1 hI1 hf2 hasc hmem hids hfresh
      go_wp2_with fail
      go_loopw [9, 50] (fun v i wr => ∃ (j : Nat) (O : List Mem) (av : Option Addr) (cv : Nat), j ≤ ids.length ∧ O.length ≤ j ∧ v = .slice av O.length cv ∧ i = .int .i64 (j : Int) ∧ wr.ownsRow w2.heap.size 58 7 (.slice av O.length cv) O.length (mflat O) ∧ MFresh wr w2.heap.size O ∧ Hid (O.map Mem.k = own1 L (ids.take j)) ∧ Fr (From w2.heap.size) w2 wr) (fun _ i _ => ids.length - (intOf i).toNat)
      case atStart => exact ⟨0, [], none, 0, by omega, by simp, rfl, rfl, World.ownsRow_nil _ _ _ _, fun m hm => by simp at hm, by unfold Hid own1; simp, Fr.refl _ _⟩
      case round =>
        obtain ⟨j, O, av, cv, hj, hOj, rfl, rfl, hown, hMF, HO, hf⟩ := hrel
        by_cases hlt : j < ids.length
        · have hlt' : (j : Int) < ids.length := by omega
          obtain ⟨b, off, x, rfl, hxj, hc⟩ := (hS.keep hf (fun b hb h => by unfold From at h; omega)).at hlt
          have hxi := List.mem_of_getElem? hxj
          have Htj : Hid (ids.take (j + 1) = ids.take j ++ [x]) := by unfold Hid; rw [List.take_add_one, hxj]; rfl
          obtain ⟨o, ho⟩ := Option.isSome_iff_exists.1 ((Hids.out.mem x).1 hxi)
          obtain ⟨hoL, hol1, hok⟩ := best_mem _ _ _ ho
          have hosz := Hb.out.i o hoL
          have hoi := kb_inj hok
          have hxs : x.size ≤ maxLen := by rw [← hoi]; unfold maxLen; omega
          have hfw := Hf2.out.trans hf (fun b hb h => h) (fun b hb h => by unfold From at h ⊢; omega)
          have hoS := (Hlk.out _ hfw).ok o hoL
          have hv : (mapM (best L) (kb x)).getD zeroMem = o.v := by unfold mapM; rw [ho]; rfl
          have hI3 := hI2.fr hf (by unfold From; omega)
          have Hfw := Lib.hid hfw
          have Ho := Lib.hid ho
          clear ho hoL hosz hoi hok hxi hxj hfw
          obtain ⟨op, oi, or, os, ot, oe, oa, ol, oc⟩ := o
          simp only at hoS hol1
          unfold Mem.v Mem.vals at hv
          simp only at hv
          have hol2 : ol.length ≤ 1000000 := by omega
          have hx3 : Fr No wr (wr.alloc (.cells #[.string op, .string oi, .int .i64 or, .int .i64 os, .int .i64 ot, .int .i64 oe, .slice oa ol.length oc] 58)) := (Fr.refl _ _).alloc _
          have q3 := block_alloc wr (.cells #[.string op, .string oi, .int .i64 or, .int .i64 os, .int .i64 ot, .int .i64 oe, .slice oa ol.length oc] 58)
          have hoS3 := hoS.no hx3 (fun _ => id)
          have Hol1 := Lib.hid hol1
          clear hoS hol1
          go_upto_region 16 with (at_lookup; refine wp_vmap rfl _ _ 94 58 zeroMem (zeroM _) rfl Tryz.underlying94 w.heap.size _ _ x hxs rfl hI3 rfl (.agg #[.string op, .string oi, .int .i64 or, .int .i64 os, .int .i64 ot, .int .i64 oe, .slice oa ol.length oc]) hv ?_)
          generalize wr.alloc (.cells #[.string op, .string oi, .int .i64 or, .int .i64 os, .int .i64 ot, .int .i64 oe, .slice oa ol.length oc] 58) = W3 at *
          have z6 : W3.cell? ⟨wr.heap.size, 6, none⟩ = some (.slice oa ol.length oc) := cell_of_block q3 6
          clear hI3 hv hc
          go_wp2_with fail
          refine (strs_clone oa oc ol W3 hoS3 hol2).mono ?_
          rintro en w4 ⟨⟨a1, c1, rfl, hS4, hB4, hF4⟩, hf4⟩
          have q4 := hf4.heap q3 id
          have z7 : w4.frozen? ⟨wr.heap.size, 6, none⟩ = false := free_of_block q4 6
          have z8 : w4.cell? ⟨wr.heap.size, 6, none⟩ = some (.slice oa ol.length oc) := cell_of_block q4 6
          have q5 := block_setCell q4 6 (.slice a1 ol.length c1)
          have hs3 := hx3.size
          have hlb := lt_of_block q3
          have hf34 : Fr No wr w4 := hx3.step hf4 (fun _ _ h => h)
          have hf5 : Fr (Is wr.heap.size) w4 (w4.setCell ⟨wr.heap.size, 6, none⟩ (.slice a1 ol.length c1)) := Fr.setCell (S := Is wr.heap.size) (p := ⟨wr.heap.size, 6, none⟩) (Fr.refl _ _) (fun _ => rfl) _
          clear z6 q3 q4 hoS3
          go_upto_region 17 with (fail)
          generalize w4.setCell ⟨wr.heap.size, 6, none⟩ (.slice a1 ol.length c1) = W5 at *
          have hf25 : Fr (fun b => wr.heap.size ≤ b) wr W5 := (hf34.mono (fun _ _ h => h.elim)).step hf5 (fun b _ h => by unfold Is at h; omega)
          have hown5 := ownsRow_at hown hf25 (fun b hb h => by have h1 := ownsRow_lt hown hb; omega)
          have hMF5 := hMF.fr hf25 (fun b _ h1 h2 => by omega)
          have hS5 := hS4.fr hf5 (fun ad e _ h => by have := hF4 ad e; unfold Is at h; omega)
          have hB5 := hB4.fr hf5 (fun ad e h => by have := hF4 ad e; unfold Is at h; omega)
          simp at q5
          have y0 : W5.cell? ⟨wr.heap.size, 0, none⟩ = some (.string op) := cell_of_block q5 0
          have y1 : W5.cell? ⟨wr.heap.size, 1, none⟩ = some (.string oi) := cell_of_block q5 1
          have y2 : W5.cell? ⟨wr.heap.size, 2, none⟩ = some (.int .i64 or) := cell_of_block q5 2
          have y3 : W5.cell? ⟨wr.heap.size, 3, none⟩ = some (.int .i64 os) := cell_of_block q5 3
          have y4 : W5.cell? ⟨wr.heap.size, 4, none⟩ = some (.int .i64 ot) := cell_of_block q5 4
          have y5 : W5.cell? ⟨wr.heap.size, 5, none⟩ = some (.int .i64 oe) := cell_of_block q5 5
          have y6 : W5.cell? ⟨wr.heap.size, 6, none⟩ = some (.slice a1 ol.length c1) := cell_of_block q5 6
          have hsf := hf25.size
          have hsr2 := hf.size
          have Hf25 := Lib.hid hf25
          have HS5 := Lib.hid (And.intro hS5 (And.intro hB5 hF4))
          have Hown5 := Lib.hid hown5
          have HMF5 := Lib.hid hMF5
          clear z7 z8 q5 hf5 hf34 hx3 hf4 hS4 hB4 hF4 hown hMF hf25 hS5 hB5 hMF5
          go_wp2_with (at_builtin; refine wpList_append_own _ rfl _ _ 23 rfl w2.heap.size 58 i0 (.agg #[.string ByteArray.empty, .string ByteArray.empty, .int .i64 0, .int .i64 0, .int .i64 0, .int .i64 0, .slice none 0 0]) 7 88 Tryz.underlying23 hi0 hz0 hz1 hz2 rfl (by decide) _ _ _ rfl (hown5.alloc _) ⟨W5.heap.size, 0, none⟩ 1 1 (Mem.vals ⟨op, oi, or, os, ot, oe, a1, ol, c1⟩).toList rfl rfl (cells_new _ (Mem.vals ⟨op, oi, or, os, ot, oe, a1, ol, c1⟩) _ rfl) (mvals_one _) (by unfold maxLen; omega) (by omega) (by first | omega | (simp; done) | (simp; omega)) ?_; intro v' w6 hown6 hgrow6 _; obtain ⟨av', cv', rfl⟩ := ownsRow_slice hown6)
          have hal : Fr No W5 (W5.alloc (.cells #[.string op, .string oi, .int .i64 or, .int .i64 os, .int .i64 ot, .int .i64 oe, .slice a1 ol.length c1] 58)) := (Fr.refl _ _).alloc _
          have howa := Hown5.out.alloc (.cells #[.string op, .string oi, .int .i64 or, .int .i64 os, .int .i64 ot, .int .i64 oe, .slice a1 ol.length c1] 58)
          have hgf : Fr (fun b => (Value.slice av O.length cv).ownBlock = some b) (W5.alloc (.cells #[.string op, .string oi, .int .i64 or, .int .i64 os, .int .i64 ot, .int .i64 oe, .slice a1 ol.length c1] 58)) w6 := Fr.of_grown hgrow6
          have hMF6 : MFresh w6 w2.heap.size (O ++ [⟨op, oi, or, os, ot, oe, a1, ol, c1⟩]) := by
            refine MFresh.own (MFresh.snoc (HMF5.out.fr hal (fun _ _ _ => id)) (HS5.out.1.no hal (fun _ => id)) (HS5.out.2.1.fr hal (fun _ _ => id)) (fun ad e => ?_)) howa hgf
            have := HS5.out.2.2 ad e
            omega
          have hO6 : (O ++ [(⟨op, oi, or, os, ot, oe, a1, ol, c1⟩ : Mem)]).map Mem.k = own1 L (ids.take (j + 1)) := by
            rw [Htj.out]
            unfold own1
            rw [List.map_append, List.map_append, HO.out]
            congr 1
            simp only [List.map_cons, List.map_nil, Ho.out, Option.getD_some]
            rfl
          have hf6 : Fr (From w2.heap.size) w2 w6 := ((hf.step Hf25.out (fun b _ h => by unfold From; omega)).step hal (fun _ _ h => h.elim)).step hgf (fun b _ h => ownsRow_blk howa h)
          have HF := Lib.hid (And.intro hown6 (And.intro hMF6 (And.intro hO6 hf6)))
          clear hown6 hMF6 hO6 hf6 hgrow6 hgf howa hal y0 y1 y2 y3 y4 y5 y6 hown5 hf
          go_roundw
          case rel => exact ⟨j + 1, O ++ [⟨op, oi, or, os, ot, oe, a1, ol, c1⟩], av', cv', by omega, by simp; omega, by simp, by go_num, by rw [List.length_append, mflat_snoc]; exact HF.out.1, HF.out.2.1, Lib.hid HF.out.2.2.1, HF.out.2.2.2⟩
          case measure => simp [intOf]; omega
        · obtain rfl : j = ids.length := by omega
          obtain ⟨a', c', hv, hR, hfresh⟩ := Mems.of_own hown (fun m hm => (hMF m hm).1)
          cases hv
          have ho := HO.out
          rw [List.take_length] at ho
          have hs3 := Hf1.out.size
          have hs4 := hf.size
          have H := Lib.hid (And.intro hR (And.intro hfresh (And.intro hMF (And.intro ho ((Hf2.out.trans hf (fun b hb h => h) (fun b hb h => by unfold From at h ⊢; omega)).mono (T := No) (fun b hb h => by unfold From at h; omega))))))
          clear hown hMF HO hf hR hfresh ho
          go_wp2_with fail
          go_ret
          exact ⟨⟨_, _, O, ids, rfl, H.out.1, fun ad e => by have := H.out.2.1 ad e; omega, fun m hm => ⟨(H.out.2.2.1 m hm).1, (H.out.2.2.1 m hm).2.1, fun ad e => by have := (H.out.2.2.1 m hm).2.2 ad e; omega⟩, Hids.out, H.out.2.2.2.1, hln⟩, H.out.2.2.2.2⟩
end Go.Proofs.YtbblkknndaoefaaGreatDoor
namespace Go.Proofs.YtbblkknndaoefaaGreatDoor
open Go.RowKit Go.Maps
set_option linter.unusedVariables false

/-- The best of the first k members of an ID stands at first. -/
def FirstIs (G : List Mem) (x : ByteArray) (k : Nat) (f : Int) : Prop :=
  (f = -1 ∧ best (G.take k) (kb x) = none) ∨ ∃ (j : Nat) (m : Mem), f = (j : Int) ∧ j < k ∧ G[j]? = some m ∧ best (G.take k) (kb x) = some m
theorem FirstIs.zero (G : List Mem) (x : ByteArray) : FirstIs G x 0 (-1) := .inl ⟨rfl, by simp [best]⟩
theorem FirstIs.other {G : List Mem} {x : ByteArray} {k : Nat} {f : Int} {m : Mem} (h : FirstIs G x k f) (hm : G[k]? = some m) (hne : m.i ≠ x) : FirstIs G x (k + 1) f := by
  have e : best (G.take (k + 1)) (kb x) = best (G.take k) (kb x) := by rw [List.take_add_one, hm]; exact (congrFun (best_snoc _ _) _).trans (bestS_other hne)
  rcases h with ⟨h1, h2⟩ | ⟨j, o, h1, h2, h3, h4⟩
  · exact .inl ⟨h1, by rw [e, h2]⟩
  · exact .inr ⟨j, o, h1, by omega, h3, by rw [e, h4]⟩
theorem FirstIs.keep {G : List Mem} {x : ByteArray} {k j : Nat} {m o : Mem} (h : FirstIs G x k (j : Int)) (hm : G[k]? = some m) (hx : m.i = x) (ho : G[j]? = some o) (ha : ahead m o = false) : FirstIs G x (k + 1) (j : Int) := by
  subst hx
  rcases h with ⟨h1, h2⟩ | ⟨j', o', h1, h2, h3, h4⟩
  · omega
  · obtain rfl : j = j' := by omega
    rw [ho] at h3; cases h3
    refine .inr ⟨j, o, rfl, by omega, ho, ?_⟩
    rw [List.take_add_one, hm]
    exact (congrFun (best_snoc _ _) _).trans (by rw [bestS_keep h4 ha, h4])
theorem FirstIs.take {G : List Mem} {x : ByteArray} {k j : Nat} {m o : Mem} (h : FirstIs G x k (j : Int)) (hm : G[k]? = some m) (h1 : m.l.length = 1) (hx : m.i = x) (ho : G[j]? = some o) (ha : ahead m o = true) : FirstIs G x (k + 1) (k : Int) := by
  subst hx
  rcases h with ⟨h2, h3⟩ | ⟨j', o', h2, h3, h4, h5⟩
  · omega
  · obtain rfl : j = j' := by omega
    rw [ho] at h4; cases h4
    refine .inr ⟨k, m, rfl, by omega, hm, ?_⟩
    rw [List.take_add_one, hm]
    exact (congrFun (best_snoc _ _) _).trans (by rw [bestS_take h1 (fun o' ho' => by rw [h5] at ho'; cases ho'; exact ha)]; simp)
theorem FirstIs.new {G : List Mem} {x : ByteArray} {k : Nat} {m : Mem} (h : FirstIs G x k (-1)) (hm : G[k]? = some m) (h1 : m.l.length = 1) (hx : m.i = x) : FirstIs G x (k + 1) (k : Int) := by
  subst hx
  rcases h with ⟨h2, h3⟩ | ⟨j', o', h2, h3, h4, h5⟩
  · refine .inr ⟨k, m, rfl, by omega, hm, ?_⟩
    rw [List.take_add_one, hm]
    exact (congrFun (best_snoc _ _) _).trans (by rw [bestS_take h1 (fun o' ho' => by rw [h3] at ho'; cases ho')]; simp)
  · omega
theorem FirstIs.at {G : List Mem} {x : ByteArray} {k j : Nat} (h : FirstIs G x k (j : Int)) : ∃ o, G[j]? = some o ∧ j < k ∧ best (G.take k) (kb x) = some o := by
  rcases h with ⟨h2, h3⟩ | ⟨j', o', h2, h3, h4, h5⟩
  · omega
  · obtain rfl : j = j' := by omega
    exact ⟨o', h4, h3, h5⟩
theorem FirstIs.cases {G : List Mem} {x : ByteArray} {k : Nat} {f : Int} (h : FirstIs G x k f) : f = -1 ∨ ∃ j : Nat, f = (j : Int) := by
  rcases h with ⟨h2, h3⟩ | ⟨j', o', h2, h3, h4, h5⟩
  · exact .inl h2
  · exact .inr ⟨j', h2⟩

/-- What the reference's Owners answers. -/
def RefOwn (w : World) (L : List Mem) (e : Ending) (w' : World) : Prop :=
  ∃ (a' : Option Addr) (c' : Nat) (O : List Mem), e = .returned (.slice a' O.length c') ∧ Mems w' a' c' O ∧ O = ownF L (idsW (goodL L))

set_option maxRecDepth 100000 in
set_option maxHeartbeats 4000000 in
theorem ref_owners (a : Option Addr) (cap : Nat) (L : List Mem) (m0 : Int) (w : World) (hl : Mems w a cap L) (hb : MemSmall L) (hm0 : w.cell? ⟨1, 0, none⟩ = some (.int .i64 m0)) (hw0 : 1 < w.heap.size) :
    Calls Tryz.prog 20 #[.slice a L.length cap] w fun e w' => RefOwn w L e w' ∧ Fr No w w' := by
  obtain ⟨i0, hi0, hz0, hz1, hz2⟩ := info_parts infoM
  have hlm := hb.len
  have hlk : ∀ W : World, Fr (From w.heap.size) w W → Mems W a cap L := fun W hf => hl.keep hf (fun b hb h => by unfold From at h; omega)
  have Hlk := Lib.hid hlk
  have Hb := Lib.hid hb
  clear hlk hb hl
  go_enter Tryz.func20, Tryz.ntmps20
  go_wp2_with fail
  go_loopw [3, 4] (fun v i wr => ∃ (k : Nat) (G : List Mem) (av : Option Addr) (cv : Nat), k ≤ L.length ∧ G.length ≤ k ∧ v = .slice av G.length cv ∧ i = .int .i64 (k : Int) ∧ wr.ownsRow w.heap.size 58 7 (.slice av G.length cv) G.length (mflat G) ∧ Hid (G = goodL (L.take k)) ∧ Fr (From w.heap.size) w wr) (fun _ i _ => L.length - (intOf i).toNat)
  case atStart => exact ⟨0, [], none, 0, by omega, by simp, rfl, rfl, World.ownsRow_nil _ _ _ _, by unfold Hid; rfl, Fr.refl _ _⟩
  case round =>
    obtain ⟨k, G, av, cv, hk, hGk, rfl, rfl, hown, HG, hf⟩ := hrel
    have hsr := hf.size
    by_cases hlt : k < L.length
    · have hlt' : (k : Int) < L.length := by omega
      obtain ⟨b, off, m, rfl, hxk, hst, hat, hbl⟩ := (Hlk.out _ hf).elem hlt
      obtain ⟨mp, mi, mr, ms, mt, me, ma, ml, mc⟩ := m
      obtain ⟨c0, c1, c2, c3, c4, c5, c6⟩ := hat
      simp only at c0 c1 c2 c3 c4 c5 c6
      have Hx := Lib.hid hxk
      clear hxk hst
      by_cases hl1 : ml.length = 1
      · have hne : ((ml.length : Int) == 1) = true := by simp [hl1]
        have HG' : Hid (G ++ [⟨mp, mi, mr, ms, mt, me, ma, ml, mc⟩] = goodL (L.take (k + 1))) := by unfold Hid; rw [goodL_yes Hx.out hl1, HG.out]
        clear hl1
        have hal : Fr No wr (wr.alloc (.cells #[.string mp, .string mi, .int .i64 mr, .int .i64 ms, .int .i64 mt, .int .i64 me, .slice ma ml.length mc] 58)) := (Fr.refl _ _).alloc _
        have Hown := Lib.hid hown
        have Hf := Lib.hid hf
        go_wp2_with (at_builtin; refine wpList_append_own _ rfl _ _ 23 rfl w.heap.size 58 i0 (.agg #[.string ByteArray.empty, .string ByteArray.empty, .int .i64 0, .int .i64 0, .int .i64 0, .int .i64 0, .slice none 0 0]) 7 88 Tryz.underlying23 hi0 hz0 hz1 hz2 rfl (by decide) _ _ _ rfl (hown.alloc _) ⟨wr.heap.size, 0, none⟩ 1 1 (Mem.vals ⟨mp, mi, mr, ms, mt, me, ma, ml, mc⟩).toList rfl rfl (cells_new _ (Mem.vals ⟨mp, mi, mr, ms, mt, me, ma, ml, mc⟩) _ rfl) (mvals_one _) (by unfold maxLen; omega) (by omega) (by first | omega | (simp; done) | (simp; omega)) ?_; intro v' w9 hown9 hgrow9 _; obtain ⟨av', cv', rfl⟩ := ownsRow_slice hown9)
        have hgf : Fr (fun b => (Value.slice av G.length cv).ownBlock = some b) (wr.alloc (.cells #[.string mp, .string mi, .int .i64 mr, .int .i64 ms, .int .i64 mt, .int .i64 me, .slice ma ml.length mc] 58)) w9 := Fr.of_grown hgrow9
        have hf9 : Fr (From w.heap.size) w w9 := (Hf.out.step hal (fun _ _ h => h.elim)).step hgf (fun b _ h => ownsRow_blk Hown.out h)
        have HF := Lib.hid (And.intro hown9 hf9)
        clear hown9 hf9 hgf hal hgrow9 hown hf
        go_roundw
        case rel => exact ⟨k + 1, G ++ [⟨mp, mi, mr, ms, mt, me, ma, ml, mc⟩], av', cv', by omega, by simp; omega, by simp, by go_num, by rw [List.length_append, mflat_snoc]; exact HF.out.1, HG', HF.out.2⟩
        case measure => simp [intOf]; omega
      · have hne : ((ml.length : Int) == 1) = false := by simp; omega
        have HG' : Hid (G = goodL (L.take (k + 1))) := by unfold Hid; rw [goodL_no Hx.out hl1, HG.out]
        clear hl1
        have HF := Lib.hid (And.intro hown hf)
        clear hown hf
        go_wp2_with fail
        go_roundw
        case rel => exact ⟨k + 1, G, av, cv, by omega, by omega, rfl, by go_num, HF.out.1, HG', HF.out.2⟩
        case measure => simp [intOf]; omega
    · obtain rfl : k = L.length := by omega
      have hGe := HG.out
      rw [List.take_length] at hGe
      have HGe := Lib.hid hGe
      have hmemG : ∀ m ∈ G, m ∈ L ∧ m.l.length = 1 := fun m hm => goodL_mem (by rw [← hGe]; exact hm)
      obtain ⟨ga, gc, hv, hR, hfresh⟩ := Mems.of_own hown (fun m hm => (Hlk.out _ hf).ok m (hmemG m hm).1)
      cases hv
      have hids := ref_ids av cv G wr hR (by omega)
      have hHm := Lib.hid hmemG
      have hm1 := hf.cell hm0 (by show ¬ From w.heap.size 1; unfold From; omega)
      have Hf := Lib.hid hf
      clear hGe hmemG hfresh hown hf hm0 HG
      go_wp2_with fail
      refine hids.mono ?_
      rintro e w1 ⟨⟨ia, ic, rfl, hI, hIf⟩, hf1⟩
      have hR1 := hR.no hf1 (fun _ => id)
      have hm2 := hf1.cell hm1 id
      have Hf1 := Lib.hid (Hf.out.trans hf1 (fun b hb h => h) (fun b hb h => h.elim))
      have hs1 := hf1.size
      have hil := (idsW_ok G).2.2
      obtain ⟨ids, hide⟩ : ∃ ids, ids = idsW G := ⟨_, rfl⟩
      rw [← hide] at hI hil ⊢
      have Hids := Lib.hid hide
      have hilm := hI.lenmax
      clear hids hf1 hR hm1 hide hIf
      go_wp2_with fail
      go_loopw [5, 7] (fun v i wr2 => ∃ (j : Nat) (O : List Mem) (ov : Option Addr) (oc : Nat), j ≤ ids.length ∧ O.length ≤ j ∧ v = .slice ov O.length oc ∧ i = .int .i64 (j : Int) ∧ wr2.ownsRow w1.heap.size 58 7 (.slice ov O.length oc) O.length (mflat O) ∧ Hid (O = ownF L (ids.take j)) ∧ Fr (From w1.heap.size) w1 wr2) (fun _ i _ => ids.length - (intOf i).toNat)
      case atStart => exact ⟨0, [], none, 0, by omega, by simp, rfl, rfl, World.ownsRow_nil _ _ _ _, by unfold Hid; rfl, Fr.refl _ _⟩
      case round =>
        obtain ⟨j, O, ov, oc, hj, hOj, rfl, rfl, hown, HO, hf⟩ := hrel
        have hsr2 := hf.size
        have hRk : ∀ W : World, Fr (From w1.heap.size) w1 W → Mems W av cv G := fun W hf => hR1.keep hf (fun b hb h => by unfold From at h; omega)
        have hIk : ∀ W : World, Fr (From w1.heap.size) w1 W → Strs W ia ic ids := fun W hf => hI.keep hf (fun b hb h => by unfold From at h; omega)
        have HRk := Lib.hid hRk
        have HIk := Lib.hid hIk
        clear hRk hIk
        by_cases hlt : j < ids.length
        · have hlt' : (j : Int) < ids.length := by omega
          obtain ⟨x, hxj⟩ : ∃ x, ids[j]? = some x := ⟨_, List.getElem?_eq_getElem hlt⟩
          have Hxj := Lib.hid hxj
          have hxm : x ∈ idsW (goodL L) := by rw [← HGe.out, ← Hids.out]; exact List.mem_of_getElem? hxj
          obtain ⟨o, ho, hoL, ho1, hoi⟩ := ownF_mem hxm
          have hbG : best G = best L := by rw [HGe.out, best_good]
          have HoG : Hid (best G (kb x) = some o) := by unfold Hid; rw [hbG]; exact ho
          have HO' : Hid (O ++ [o] = ownF L (ids.take (j + 1))) := by
            unfold Hid
            rw [List.take_add_one, hxj, HO.out]
            unfold ownF
            simp [ho]
          clear hxj hxm ho hoL ho1 hoi hbG
          have hm3 := hf.cell hm2 (by show ¬ From w1.heap.size 1; unfold From; omega)
          have Hf2 := Lib.hid hf
          have Hown := Lib.hid hown
          clear hown hf
          go_wp2_with fail
          go_loopw [8, 9] (fun f i wr3 => ∃ (k : Nat) (z : Int), k ≤ G.length ∧ f = .int .i64 z ∧ i = .int .i64 (k : Int) ∧ Hid (FirstIs G x k z) ∧ Fr No wr wr3) (fun _ i _ => G.length - (intOf i).toNat)
          case atStart => exact ⟨0, -1, by omega, rfl, rfl, FirstIs.zero _ _, Fr.refl _ _⟩
          case round =>
            obtain ⟨k, z, hkG, rfl, rfl, HF, hf3⟩ := hrel
            by_cases hltk : k < G.length
            · have hltk' : (k : Int) < G.length := by omega
              have hltj : (j : Int) < ids.length := by omega
              go_wp2_with fail
              refine region_sig No [(0, false), (1, false), (2, false), (3, false), (4, false), (5, false), (6, false), (7, false), (8, false), (9, false), (10, false), (11, false), (12, false), (13, false), (14, false), (15, false), (16, false), (17, false), (18, false), (19, false), (20, false), (21, false), (22, true), (23, false), (24, false)] (by kernel_rfl) (by kernel_rfl) (fun w0 hf0 => ?_)
              have hf4 := hf3.step hf0 (fun _ _ h => h)
              have hfw4 := Hf2.out.trans hf4 (fun b hb h => h) (fun b hb h => h.elim)
              obtain ⟨mb, mo, m, e1, hmk, _, ⟨c0, c1, c2, c3, c4, c5, c6⟩, _⟩ := (HRk.out _ hfw4).elem hltk
              obtain ⟨xb, xo, x', e2, hx', cx⟩ := (HIk.out _ hfw4).at hlt
              obtain rfl : x = x' := by have := Hxj.out; rw [this] at hx'; exact Option.some.inj hx'
              have hm4 := hf4.cell hm3 id
              have hml := Hb.out.p m (hHm.out m (List.mem_of_getElem? hmk)).1
              have hm1l := (hHm.out m (List.mem_of_getElem? hmk)).2
              subst e1 e2
              have g1 : ∀ g : Gr No w0, g.W.cell? ⟨mb, mo + k * 7 + 1, none⟩ = some (.string m.i) := fun g => g.fr.cell c1 id
              have gx : ∀ g : Gr No w0, g.W.cell? ⟨xb, xo + j, none⟩ = some (.string x) := fun g => g.fr.cell cx id
              have Hmk := Lib.hid hmk
              have Hm1 := Lib.hid hm1l
              have Hf4 := Lib.hid hf4
              clear hf4 hf3 hf0 hx' cx hmk hm1l hfw4
              rcases hix : (m.i.toList == x.toList) with _ | _
              · have hne : m.i ≠ x := by intro e; rw [e] at hix; simp at hix
                have HF' : Hid (FirstIs G x (k + 1) z) := HF.out.other Hmk.out hne
                clear hne c0 c2 c3 c4 c5 c6
                repeat (first | (apply sig_q; exact rfl; exact rfl; exact rfl; intro K hK; go_big_quiet_op; go_big_quiet_on) | (apply sig_skip; exact rfl; exact rfl; exact rfl; intro K hK; go_big_quiet_op; go_big_quiet_on))
                apply sig_m
                exact rfl
                go_wp2_with fail
                refine OnlyN.mk ⟨Fr.refl _ _, ?_⟩
                repeat (first | (apply sig_q; exact rfl; exact rfl; exact rfl; intro K hK; go_big_quiet_op; go_big_quiet_on) | (apply sig_skip; exact rfl; exact rfl; exact rfl; intro K hK; go_big_quiet_op; go_big_quiet_on))
                refine sig_end ?_
                clear g1 gx c1
                go_wp2_with fail
                go_roundw
                case rel => exact ⟨k + 1, z, by omega, rfl, by go_num, HF', Hf4.out⟩
                case measure => simp [intOf]; omega
              · have hie : m.i = x := by rw [strEq] at hix; exact of_decide_eq_true hix
                have Hie := Lib.hid hie
                clear hie
                rcases HF.out.cases with rfl | ⟨q, rfl⟩
                · have HF' : Hid (FirstIs G x (k + 1) (k : Int)) := FirstIs.new HF.out Hmk.out Hm1.out Hie.out
                  clear c0 c2 c3 c4 c5 c6
                  repeat (first | (apply sig_q; exact rfl; exact rfl; exact rfl; intro K hK; go_big_quiet_op; go_big_quiet_on) | (apply sig_skip; exact rfl; exact rfl; exact rfl; intro K hK; go_big_quiet_op; go_big_quiet_on))
                  apply sig_m
                  exact rfl
                  go_wp2_with fail
                  refine OnlyN.mk ⟨Fr.refl _ _, ?_⟩
                  repeat (first | (apply sig_q; exact rfl; exact rfl; exact rfl; intro K hK; go_big_quiet_op; go_big_quiet_on) | (apply sig_skip; exact rfl; exact rfl; exact rfl; intro K hK; go_big_quiet_op; go_big_quiet_on))
                  refine sig_end ?_
                  clear g1 gx c1
                  go_wp2_with fail
                  go_roundw
                  case rel => exact ⟨k + 1, k, by omega, rfl, by go_num, HF', Hf4.out⟩
                  case measure => simp [intOf]; omega
                · obtain ⟨o2, ho2, hqk, _⟩ := HF.out.at
                  have hqG : q < G.length := by omega
                  have hqG' : (q : Int) < G.length := by omega
                  have hq0 : ¬ ((q : Int) < 0) := by omega
                  obtain ⟨ob, oo, o3, e3, ho3, _, ⟨d0, d1, d2, d3, d4, d5, d6⟩, _⟩ := (HRk.out _ (Hf2.out.trans Hf4.out (fun b hb h => h) (fun b hb h => h.elim))).elem hqG
                  cases e3
                  obtain rfl : o2 = o3 := by rw [ho2] at ho3; exact Option.some.inj ho3
                  have hol := Hb.out.p o2 (hHm.out o2 (List.mem_of_getElem? ho2)).1
                  have Ho2 := Lib.hid ho2
                  clear ho2 ho3
                  obtain ⟨mp, mi, mr, ms, mt, me, ma, ml, mc⟩ := m
                  obtain ⟨op, oi, or, os, ot, oe, oa, ol, oc2⟩ := o2
                  simp only at c0 c1 c2 c3 c4 c5 c6 d0 d1 d2 d3 d4 d5 d6 hml hol g1
                  have y0 : ∀ g : Gr No w0, g.W.cell? ⟨mb, mo + k * 7, none⟩ = some (.string mp) := fun g => g.fr.cell c0 id
                  have y2 : ∀ g : Gr No w0, g.W.cell? ⟨mb, mo + k * 7 + 2, none⟩ = some (.int .i64 mr) := fun g => g.fr.cell c2 id
                  have y3 : ∀ g : Gr No w0, g.W.cell? ⟨mb, mo + k * 7 + 3, none⟩ = some (.int .i64 ms) := fun g => g.fr.cell c3 id
                  have y4 : ∀ g : Gr No w0, g.W.cell? ⟨mb, mo + k * 7 + 4, none⟩ = some (.int .i64 mt) := fun g => g.fr.cell c4 id
                  have y5 : ∀ g : Gr No w0, g.W.cell? ⟨mb, mo + k * 7 + 5, none⟩ = some (.int .i64 me) := fun g => g.fr.cell c5 id
                  have y6 : ∀ g : Gr No w0, g.W.cell? ⟨mb, mo + k * 7 + 6, none⟩ = some (.slice ma ml.length mc) := fun g => g.fr.cell c6 id
                  have z0 : ∀ g : Gr No w0, g.W.cell? ⟨mb, mo + q * 7, none⟩ = some (.string op) := fun g => g.fr.cell d0 id
                  have z1 : ∀ g : Gr No w0, g.W.cell? ⟨mb, mo + q * 7 + 1, none⟩ = some (.string oi) := fun g => g.fr.cell d1 id
                  have z2 : ∀ g : Gr No w0, g.W.cell? ⟨mb, mo + q * 7 + 2, none⟩ = some (.int .i64 or) := fun g => g.fr.cell d2 id
                  have z3 : ∀ g : Gr No w0, g.W.cell? ⟨mb, mo + q * 7 + 3, none⟩ = some (.int .i64 os) := fun g => g.fr.cell d3 id
                  have z4 : ∀ g : Gr No w0, g.W.cell? ⟨mb, mo + q * 7 + 4, none⟩ = some (.int .i64 ot) := fun g => g.fr.cell d4 id
                  have z5 : ∀ g : Gr No w0, g.W.cell? ⟨mb, mo + q * 7 + 5, none⟩ = some (.int .i64 oe) := fun g => g.fr.cell d5 id
                  have z6 : ∀ g : Gr No w0, g.W.cell? ⟨mb, mo + q * 7 + 6, none⟩ = some (.slice oa ol.length oc2) := fun g => g.fr.cell d6 id
                  clear c0 c1 c2 c3 c4 c5 c6 d0 d1 d2 d3 d4 d5 d6
                  have hea := ref_earlier mp mi op oi mr ms mt me or os ot oe (.slice ma ml.length mc) (.slice oa ol.length oc2) m0 w0 hml hol hm4
                  repeat (first | (apply sig_q; exact rfl; exact rfl; exact rfl; intro K hK; go_big_quiet_op; go_big_quiet_on) | (apply sig_skip; exact rfl; exact rfl; exact rfl; intro K hK; go_big_quiet_op; go_big_quiet_on))
                  clear y0 y2 y3 y4 y5 y6 z0 z1 z2 z3 z4 z5 z6 g1 gx
                  apply sig_m
                  exact rfl
                  go_wp2_with fail
                  refine hea.mono ?_
                  rintro e w5 ⟨rfl, hf5⟩
                  have Hf5 := Lib.hid (Hf4.out.step hf5 (fun _ _ h => h))
                  rcases ha : aheadB mp mr op or with _ | _
                  · have HF' : Hid (FirstIs G x (k + 1) (q : Int)) := FirstIs.keep HF.out Hmk.out Hie.out Ho2.out ha
                    clear ha
                    go_wp2_with fail
                    refine OnlyN.mk ⟨hf5, ?_⟩
                    clear hf5
                    repeat (first | (apply sig_q; exact rfl; exact rfl; exact rfl; intro K hK; go_big_quiet_op; go_big_quiet_on) | (apply sig_skip; exact rfl; exact rfl; exact rfl; intro K hK; go_big_quiet_op; go_big_quiet_on))
                    refine sig_end ?_
                    go_wp2_with fail
                    go_roundw
                    case rel => exact ⟨k + 1, q, by omega, rfl, by go_num, HF', Hf5.out⟩
                    case measure => simp [intOf]; omega
                  · have HF' : Hid (FirstIs G x (k + 1) (k : Int)) := FirstIs.take HF.out Hmk.out Hm1.out Hie.out Ho2.out ha
                    clear ha
                    go_wp2_with fail
                    refine OnlyN.mk ⟨hf5, ?_⟩
                    clear hf5
                    repeat (first | (apply sig_q; exact rfl; exact rfl; exact rfl; intro K hK; go_big_quiet_op; go_big_quiet_on) | (apply sig_skip; exact rfl; exact rfl; exact rfl; intro K hK; go_big_quiet_op; go_big_quiet_on))
                    refine sig_end ?_
                    go_wp2_with fail
                    go_roundw
                    case rel => exact ⟨k + 1, k, by omega, rfl, by go_num, HF', Hf5.out⟩
                    case measure => simp [intOf]; omega
            · obtain rfl : k = G.length := by omega
              rcases HF.out.cases with rfl | ⟨q, rfl⟩
              · exfalso
                rcases HF.out with ⟨_, h2⟩ | ⟨j', _, h2, _⟩
                · rw [List.take_length, HoG.out] at h2; cases h2
                · omega
              · obtain ⟨o2, ho2, hqG, hbo⟩ := HF.out.at
                rw [List.take_length, HoG.out] at hbo
                obtain rfl : o = o2 := Option.some.inj hbo
                have hqG' : (q : Int) < G.length := by omega
                have hfw3 := Hf2.out.trans hf3 (fun b hb h => h) (fun b hb h => h.elim)
                obtain ⟨ob, oo, o3, e3, ho3, _, ⟨d0, d1, d2, d3, d4, d5, d6⟩, _⟩ := (HRk.out _ hfw3).elem hqG
                obtain rfl : o = o3 := by rw [ho2] at ho3; exact Option.some.inj ho3
                subst e3
                have Hown3 := Lib.hid (ownsRow_at Hown.out hf3 (fun _ _ h => h))
                have Hfw3 := Lib.hid hfw3
                have hsf3 := hf3.size
                obtain ⟨op, oi, or, os, ot, oe, oa, ol, oc2⟩ := o
                simp only at d0 d1 d2 d3 d4 d5 d6
                clear hbo ho2 ho3 hf3 hfw3
                have hal : Fr No wr (wr.alloc (.cells #[.string op, .string oi, .int .i64 or, .int .i64 os, .int .i64 ot, .int .i64 oe, .slice oa ol.length oc2] 58)) := (Fr.refl _ _).alloc _
                go_wp2_with (at_builtin; refine wpList_append_own _ rfl _ _ 23 rfl w1.heap.size 58 i0 (.agg #[.string ByteArray.empty, .string ByteArray.empty, .int .i64 0, .int .i64 0, .int .i64 0, .int .i64 0, .slice none 0 0]) 7 88 Tryz.underlying23 hi0 hz0 hz1 hz2 rfl (by decide) _ _ _ rfl (Hown3.out.alloc _) ⟨wr.heap.size, 0, none⟩ 1 1 (Mem.vals ⟨op, oi, or, os, ot, oe, oa, ol, oc2⟩).toList rfl rfl (cells_new _ (Mem.vals ⟨op, oi, or, os, ot, oe, oa, ol, oc2⟩) _ rfl) (mvals_one _) (by unfold maxLen; omega) (by omega) (by first | omega | (simp; done) | (simp; omega)) ?_; intro v' w9 hown9 hgrow9 _; obtain ⟨av', cv', rfl⟩ := ownsRow_slice hown9)
                have hgf : Fr (fun b => (Value.slice ov O.length oc).ownBlock = some b) (wr.alloc (.cells #[.string op, .string oi, .int .i64 or, .int .i64 os, .int .i64 ot, .int .i64 oe, .slice oa ol.length oc2] 58)) w9 := Fr.of_grown hgrow9
                have hf9 : Fr (From w1.heap.size) w1 w9 := (Hfw3.out.step hal (fun _ _ h => h.elim)).step hgf (fun b _ h => ownsRow_blk Hown3.out h)
                have HF9 := Lib.hid (And.intro hown9 hf9)
                clear hown9 hf9 hgf hal hgrow9
                go_roundw
                case rel => exact ⟨j + 1, O ++ [⟨op, oi, or, os, ot, oe, oa, ol, oc2⟩], av', cv', by omega, by simp; omega, by simp, by go_num, by rw [List.length_append, mflat_snoc]; exact HF9.out.1, HO', HF9.out.2⟩
                case measure => simp [intOf]; omega
        · obtain rfl : j = ids.length := by omega
          have hOe := HO.out
          rw [List.take_length, Hids.out, HGe.out] at hOe
          have hmO : ∀ m ∈ O, m ∈ L := fun m hm => by
            rw [hOe] at hm
            obtain ⟨x, hx, rfl⟩ := List.mem_map.1 hm
            obtain ⟨o, h1, h2, _⟩ := ownF_mem hx
            rw [h1]; exact h2
          have hfw := Hf1.out.trans hf (fun b hb h => h) (fun b hb h => by unfold From at h ⊢; omega)
          obtain ⟨a', c', hv, hR2, _⟩ := Mems.of_own hown (fun m hm => (Hlk.out _ hfw).ok m (hmO m hm))
          cases hv
          have H := Lib.hid (And.intro hR2 (And.intro hOe (hfw.mono (T := No) (fun b hb h => by unfold From at h; omega))))
          clear hR2 hOe hfw hown hf HO
          go_wp2_with fail
          go_ret
          exact ⟨⟨_, _, O, rfl, H.out.1, H.out.2.1⟩, H.out.2.2⟩
end Go.Proofs.YtbblkknndaoefaaGreatDoor
