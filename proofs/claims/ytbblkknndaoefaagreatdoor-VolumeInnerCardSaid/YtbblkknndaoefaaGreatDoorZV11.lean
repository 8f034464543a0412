/- coldplugref32.owner. Maps with places (a text and a number) as keys, that the call made. slices.Min, the keys of a table, Sound. -/
import Derived.Test.YtbblkknndaoefaaGreatDoorZV4
import Derived.Test.YtbblkknndaoefaaGreatDoorZV6
import Derived.Test.YtbblkknndaoefaaGreatDoorZV7
import Derived.Test.YtbblkknndaoefaaGreatDoorZV10
import Derived.DeepKeys4
import Derived.Maps.RangeWalk
import Derived.Maps.OwnRows
import Derived.Maps.GroupsBeside
import Derived.Test.YtbblkknndaoefaaGreatDoorZV5
import Derived.Test.YtbblkknndaoefaaGreatDoorShelf2
namespace Go.Proofs.YtbblkknndaoefaaGreatDoor
open Go.RowKit Go.Maps
set_option linter.unusedVariables false

/-- What owner answers. -/
def OwnerR (o : Option Mem) (e : Ending) : Prop := e = .returned (.tuple #[.agg (o.getD Mem.zero).vals, .bool o.isSome])

set_option maxRecDepth 100000 in
set_option maxHeartbeats 4000000 in
theorem ref_owner (a : Option Addr) (cap : Nat) (G : List Mem) (di : ByteArray) (slot : Int) (m0 : Int) (w : World) (hl : Mems w a cap G) (hb : MemSmall G) (hm0 : w.cell? ⟨1, 0, none⟩ = some (.int .i64 m0)) (hw0 : 1 < w.heap.size) :
    Calls Tryz.prog 127 #[.slice a G.length cap, .string di, .int .i64 slot] w fun e w' => OwnerR (best2 allG G (di, slot)) e ∧ Fr No w w' := by
  have hlm := hb.len
  have hx : Fr No w ((w.alloc (.cells #[.string ⟨#[]⟩, .string ⟨#[]⟩, .int .i64 0, .int .i64 0, .int .i64 0, .int .i64 0, .slice none 0 0] 58)).alloc (.cells #[.string ⟨#[]⟩, .string ⟨#[]⟩, .int .i64 0, .int .i64 0, .int .i64 0, .int .i64 0, .slice none 0 0] 58)) := ((Fr.refl _ _).alloc _).alloc _
  have q6 := block_alloc1 w (.cells #[.string ⟨#[]⟩, .string ⟨#[]⟩, .int .i64 0, .int .i64 0, .int .i64 0, .int .i64 0, .slice none 0 0] 58) (.cells #[.string ⟨#[]⟩, .string ⟨#[]⟩, .int .i64 0, .int .i64 0, .int .i64 0, .int .i64 0, .slice none 0 0] 58)
  have q8 := block_alloc2 w (.cells #[.string ⟨#[]⟩, .string ⟨#[]⟩, .int .i64 0, .int .i64 0, .int .i64 0, .int .i64 0, .slice none 0 0] 58) (.cells #[.string ⟨#[]⟩, .string ⟨#[]⟩, .int .i64 0, .int .i64 0, .int .i64 0, .int .i64 0, .slice none 0 0] 58)
  have hs0 : ((w.alloc (.cells #[.string ⟨#[]⟩, .string ⟨#[]⟩, .int .i64 0, .int .i64 0, .int .i64 0, .int .i64 0, .slice none 0 0] 58)).alloc (.cells #[.string ⟨#[]⟩, .string ⟨#[]⟩, .int .i64 0, .int .i64 0, .int .i64 0, .int .i64 0, .slice none 0 0] 58)).heap.size = w.heap.size + 2 := by simp
  obtain ⟨W0, hW0⟩ : ∃ W0, W0 = (w.alloc (.cells #[.string ⟨#[]⟩, .string ⟨#[]⟩, .int .i64 0, .int .i64 0, .int .i64 0, .int .i64 0, .slice none 0 0] 58)).alloc (.cells #[.string ⟨#[]⟩, .string ⟨#[]⟩, .int .i64 0, .int .i64 0, .int .i64 0, .int .i64 0, .slice none 0 0] 58) := ⟨_, rfl⟩
  rw [← hW0] at hx q6 q8 hs0
  have hlk : ∀ W : World, Fr (Is (w.heap.size + 1)) W0 W → Mems W a cap G := fun W hf => hl.keep ((hx.mono (T := From w.heap.size) (fun _ _ h => h.elim)).step hf (fun b _ h => by unfold Is at h; unfold From; omega)) (fun b hb h => by unfold From at h; omega)
  have Hlk := Lib.hid hlk
  have hm00 := hx.cell hm0 id
  have hs0' : w.heap.size + 2 ≤ W0.heap.size := by omega
  have Hb := Lib.hid hb
  have Hx := Lib.hid hx
  have Hq8 := Lib.hid q8
  have Hq6 := Lib.hid q6
  have hlmax := hl.lenmax
  have Hw0 := Lib.hid hw0
  clear hb hx hl hm0 hs0 q6 q8 hlk
  go_enter Tryz.func127, Tryz.ntmps127
  go_upto_region 2 with (fail)
  rw [← hW0]
  clear hW0
  go_wp2_with fail
  go_loopw [9, 10] (fun f i wr => ∃ (k : Nat) (o : Option Mem), k ≤ G.length ∧ f = .bool o.isSome ∧ i = .int .i64 (k : Int) ∧ Hid (best2 allG (G.take k) (di, slot) = o) ∧ wr.heap[w.heap.size + 1]? = some (.cells (o.getD Mem.zero).vals 58) ∧ wr.heap[w.heap.size]? = some (.cells #[.string ⟨#[]⟩, .string ⟨#[]⟩, .int .i64 0, .int .i64 0, .int .i64 0, .int .i64 0, .slice none 0 0] 58) ∧ Fr (Is (w.heap.size + 1)) W0 wr) (fun _ i _ => G.length - (intOf i).toNat)
  case atStart => exact ⟨0, none, by omega, rfl, rfl, by unfold Hid; simp [best2], Hq8.out, Hq6.out, Fr.refl _ _⟩
  case round =>
    obtain ⟨k, o, hk, rfl, rfl, HO, hq8, hq6, hf⟩ := hrel
    have Hq8 := Lib.hid hq8
    have Hq6 := Lib.hid hq6
    have hsr := hf.size
    clear hq8 hq6
    by_cases hlt : k < G.length
    · have hlt' : (k : Int) < G.length := by omega
      go_wp2_with fail
      refine region_sig No [(0, false), (1, false), (2, false), (3, false), (4, false), (5, false), (6, false), (7, false), (8, false), (9, false), (10, false), (11, false), (12, false), (13, false), (14, false), (15, false), (16, false), (17, false), (18, false), (19, false), (20, false), (21, false), (22, false), (23, false), (24, false), (25, true), (26, false), (27, false)] (by kernel_rfl) (by kernel_rfl) (fun w0 hf0 => ?_)
      have hfx := hf.step hf0 (fun _ _ h => h.elim)
      obtain ⟨mb, mo, m, rfl, hmk, _, ⟨c0, c1, c2, c3, c4, c5, c6⟩, hmbl⟩ := (Hlk.out _ hfx).elem hlt
      have hm4 := hfx.cell hm00 (by have := Hw0.out; intro h; unfold Is at h; simp only at h; omega)
      have hml := Hb.out.p m (List.mem_of_getElem? hmk)
      have Hmk := Lib.hid hmk
      have Hfx := Lib.hid hfx
      have Hq8' := Lib.hid (hf0.heap Hq8.out id)
      have Hq6' := Lib.hid (hf0.heap Hq6.out id)
      obtain ⟨mp, mi, mr, ms, mt, me, ma, ml, mc⟩ := m
      simp only at c0 c1 c2 c3 c4 c5 c6 hml
      have g1 : ∀ g : Gr No w0, g.W.cell? ⟨mb, mo + k * 7 + 1, none⟩ = some (.string mi) := fun g => g.fr.cell c1 id
      have g3 : ∀ g : Gr No w0, g.W.cell? ⟨mb, mo + k * 7 + 3, none⟩ = some (.int .i64 ms) := fun g => g.fr.cell c3 id
      clear hf0 hfx hf hmk Hq8 Hq6
      have Hq8 := Hq8'
      have Hq6 := Hq6'
      clear Hq8' Hq6'
      rcases hix : (mi.toList == di.toList) with _ | _
      · have hne : mi ≠ di := by intro e; rw [e] at hix; simp at hix
        have HO' : Hid (best2 allG (G.take (k + 1)) (di, slot) = o) := by
          unfold Hid; rw [List.take_add_one, Hmk.out]; exact ((congrFun (best2_snoc _ _) _).trans (best2S_other (fun h => hne h.1))).trans HO.out
        clear hne c0 c1 c2 c3 c4 c5 c6
        repeat (first | (apply sig_q; exact rfl; exact rfl; exact rfl; intro K hK; go_big_quiet_op; go_big_quiet_on) | (apply sig_skip; exact rfl; exact rfl; exact rfl; intro K hK; go_big_quiet_op; go_big_quiet_on))
        apply sig_m
        exact rfl
        go_wp2_with fail
        refine OnlyN.mk ⟨Fr.refl _ _, ?_⟩
        repeat (first | (apply sig_q; exact rfl; exact rfl; exact rfl; intro K hK; go_big_quiet_op; go_big_quiet_on) | (apply sig_skip; exact rfl; exact rfl; exact rfl; intro K hK; go_big_quiet_op; go_big_quiet_on))
        refine sig_end ?_
        clear g1 g3
        go_wp2_with fail
        go_roundw
        case rel => exact ⟨k + 1, o, by omega, rfl, by go_num, HO', Hq8.out, Hq6.out, Hfx.out⟩
        case measure => simp [intOf]; omega
      · have hie : mi = di := by rw [strEq] at hix; exact of_decide_eq_true hix
        have Hie := Lib.hid hie
        clear hie
        rcases hsx : (ms == slot) with _ | _
        · have hne : ms ≠ slot := by intro e; rw [e] at hsx; simp at hsx
          have HO' : Hid (best2 allG (G.take (k + 1)) (di, slot) = o) := by
            unfold Hid; rw [List.take_add_one, Hmk.out]; exact ((congrFun (best2_snoc _ _) _).trans (best2S_other (fun h => hne h.2))).trans HO.out
          clear hne c0 c1 c2 c3 c4 c5 c6
          repeat (first | (apply sig_q; exact rfl; exact rfl; exact rfl; intro K hK; go_big_quiet_op; go_big_quiet_on) | (apply sig_skip; exact rfl; exact rfl; exact rfl; intro K hK; go_big_quiet_op; go_big_quiet_on))
          apply sig_m
          exact rfl
          go_wp2_with fail
          refine OnlyN.mk ⟨Fr.refl _ _, ?_⟩
          repeat (first | (apply sig_q; exact rfl; exact rfl; exact rfl; intro K hK; go_big_quiet_op; go_big_quiet_on) | (apply sig_skip; exact rfl; exact rfl; exact rfl; intro K hK; go_big_quiet_op; go_big_quiet_on))
          refine sig_end ?_
          clear g1 g3
          go_wp2_with fail
          go_roundw
          case rel => exact ⟨k + 1, o, by omega, rfl, by go_num, HO', Hq8.out, Hq6.out, Hfx.out⟩
          case measure => simp [intOf]; omega
        · have hse : ms = slot := by simpa using hsx
          have Hse := Lib.hid hse
          clear hse
          have x0 := c0
          have x1 := c1
          have x2 := c2
          have x3 := c3
          have x4 := c4
          have x5 := c5
          have x6 := c6
          rcases o with _ | ⟨op, oi, or, os, ot, oe, oa, ol, oc⟩
          · have HO' : Hid (best2 allG (G.take (k + 1)) (di, slot) = some (⟨mp, mi, mr, ms, mt, me, ma, ml, mc⟩ : Mem)) := by
              unfold Hid; rw [List.take_add_one, Hmk.out]; have h1 := HO.out; rw [← Hie.out, ← Hse.out] at h1 ⊢; exact (congrFun (best2_snoc _ _) _).trans (best2S_first (m := (⟨mp, mi, mr, ms, mt, me, ma, ml, mc⟩ : Mem)) rfl h1)
            have q8 : w0.heap[w.heap.size + 1]? = some (.cells #[.string ⟨#[]⟩, .string ⟨#[]⟩, .int .i64 0, .int .i64 0, .int .i64 0, .int .i64 0, .slice none 0 0] 58) := Hq8.out
            clear c0 c1 c2 c3 c4 c5 c6
            repeat (first | (apply sig_q; exact rfl; exact rfl; exact rfl; intro K hK; go_big_quiet_op; go_big_quiet_on) | (apply sig_skip; exact rfl; exact rfl; exact rfl; intro K hK; go_big_quiet_op; go_big_quiet_on))
            apply sig_m
            exact rfl
            go_wp2_with fail
            refine OnlyN.mk ⟨Fr.refl _ _, ?_⟩
            repeat (first | (apply sig_q; exact rfl; exact rfl; exact rfl; intro K hK; go_big_quiet_op; go_big_quiet_on) | (apply sig_skip; exact rfl; exact rfl; exact rfl; intro K hK; go_big_quiet_op; go_big_quiet_on))
            refine sig_end ?_
            clear g1 g3
            have b0 : w0.cell? ⟨w.heap.size + 1, 0, none⟩ = some (.string ⟨#[]⟩) := cell_of_block q8 0
            have b1 : w0.cell? ⟨w.heap.size + 1, 1, none⟩ = some (.string ⟨#[]⟩) := cell_of_block q8 1
            have b2 : w0.cell? ⟨w.heap.size + 1, 2, none⟩ = some (.int .i64 0) := cell_of_block q8 2
            have b3 : w0.cell? ⟨w.heap.size + 1, 3, none⟩ = some (.int .i64 0) := cell_of_block q8 3
            have b4 : w0.cell? ⟨w.heap.size + 1, 4, none⟩ = some (.int .i64 0) := cell_of_block q8 4
            have b5 : w0.cell? ⟨w.heap.size + 1, 5, none⟩ = some (.int .i64 0) := cell_of_block q8 5
            have b6 : w0.cell? ⟨w.heap.size + 1, 6, none⟩ = some (.slice none 0 0) := cell_of_block q8 6
            have f0 : w0.frozen? ⟨w.heap.size + 1, 0, none⟩ = false := free_of_block q8 0
            have f1 : w0.frozen? ⟨w.heap.size + 1, 1, none⟩ = false := free_of_block q8 1
            have f2 : w0.frozen? ⟨w.heap.size + 1, 2, none⟩ = false := free_of_block q8 2
            have f3 : w0.frozen? ⟨w.heap.size + 1, 3, none⟩ = false := free_of_block q8 3
            have f4 : w0.frozen? ⟨w.heap.size + 1, 4, none⟩ = false := free_of_block q8 4
            have f5 : w0.frozen? ⟨w.heap.size + 1, 5, none⟩ = false := free_of_block q8 5
            have f6 : w0.frozen? ⟨w.heap.size + 1, 6, none⟩ = false := free_of_block q8 6
            have h7 := set7 q8 rfl (.string mp) (.string mi) (.int .i64 mr) (.int .i64 ms) (.int .i64 mt) (.int .i64 me) (.slice ma ml.length mc)
            have H7 := Lib.hid h7.1
            have H6 := Lib.hid (h7.2.heap Hq6.out (fun e => by unfold Is at e; omega))
            have H5 := Lib.hid (Hfx.out.step h7.2 (fun _ _ h => h))
            clear h7 q8
            go_wp2_with fail
            clear b0 b1 b2 b3 b4 b5 b6 f0 f1 f2 f3 f4 f5 f6 x0 x1 x2 x3 x4 x5 x6
            go_roundw
            case rel => exact ⟨k + 1, some ⟨mp, mi, mr, ms, mt, me, ma, ml, mc⟩, by omega, rfl, by go_num, HO', H7.out, H6.out, H5.out⟩
            case measure => simp [intOf]; omega
          · have hol : op.size ≤ 1000000 := Hb.out.p _ (List.mem_of_mem_take (best2_mem _ _ _ HO.out).1)
            have q8 : w0.heap[w.heap.size + 1]? = some (.cells #[.string op, .string oi, .int .i64 or, .int .i64 os, .int .i64 ot, .int .i64 oe, .slice oa ol.length oc] 58) := Hq8.out
            have y0 : ∀ g : Gr No w0, g.W.cell? ⟨mb, mo + k * 7, none⟩ = some (.string mp) := fun g => g.fr.cell c0 id
            have y1 : ∀ g : Gr No w0, g.W.cell? ⟨mb, mo + k * 7 + 1, none⟩ = some (.string mi) := fun g => g.fr.cell c1 id
            have y2 : ∀ g : Gr No w0, g.W.cell? ⟨mb, mo + k * 7 + 2, none⟩ = some (.int .i64 mr) := fun g => g.fr.cell c2 id
            have y3 : ∀ g : Gr No w0, g.W.cell? ⟨mb, mo + k * 7 + 3, none⟩ = some (.int .i64 ms) := fun g => g.fr.cell c3 id
            have y4 : ∀ g : Gr No w0, g.W.cell? ⟨mb, mo + k * 7 + 4, none⟩ = some (.int .i64 mt) := fun g => g.fr.cell c4 id
            have y5 : ∀ g : Gr No w0, g.W.cell? ⟨mb, mo + k * 7 + 5, none⟩ = some (.int .i64 me) := fun g => g.fr.cell c5 id
            have y6 : ∀ g : Gr No w0, g.W.cell? ⟨mb, mo + k * 7 + 6, none⟩ = some (.slice ma ml.length mc) := fun g => g.fr.cell c6 id
            have z0 : ∀ g : Gr No w0, g.W.cell? ⟨w.heap.size + 1, 0, none⟩ = some (.string op) := fun g => g.fr.cell (cell_of_block q8 0) id
            have z1 : ∀ g : Gr No w0, g.W.cell? ⟨w.heap.size + 1, 1, none⟩ = some (.string oi) := fun g => g.fr.cell (cell_of_block q8 1) id
            have z2 : ∀ g : Gr No w0, g.W.cell? ⟨w.heap.size + 1, 2, none⟩ = some (.int .i64 or) := fun g => g.fr.cell (cell_of_block q8 2) id
            have z3 : ∀ g : Gr No w0, g.W.cell? ⟨w.heap.size + 1, 3, none⟩ = some (.int .i64 os) := fun g => g.fr.cell (cell_of_block q8 3) id
            have z4 : ∀ g : Gr No w0, g.W.cell? ⟨w.heap.size + 1, 4, none⟩ = some (.int .i64 ot) := fun g => g.fr.cell (cell_of_block q8 4) id
            have z5 : ∀ g : Gr No w0, g.W.cell? ⟨w.heap.size + 1, 5, none⟩ = some (.int .i64 oe) := fun g => g.fr.cell (cell_of_block q8 5) id
            have z6 : ∀ g : Gr No w0, g.W.cell? ⟨w.heap.size + 1, 6, none⟩ = some (.slice oa ol.length oc) := fun g => g.fr.cell (cell_of_block q8 6) id
            have hea := ref_earlier mp mi op oi mr ms mt me or os ot oe (.slice ma ml.length mc) (.slice oa ol.length oc) m0 w0 hml hol hm4
            repeat (first | (apply sig_q; exact rfl; exact rfl; exact rfl; intro K hK; go_big_quiet_op; go_big_quiet_on) | (apply sig_skip; exact rfl; exact rfl; exact rfl; intro K hK; go_big_quiet_op; go_big_quiet_on))
            clear y0 y1 y2 y3 y4 y5 y6 z0 z1 z2 z3 z4 z5 z6 g1 g3 c0 c1 c2 c3 c4 c5 c6
            apply sig_m
            exact rfl
            go_wp2_with fail
            refine hea.mono ?_
            rintro e w5 ⟨rfl, hf5⟩
            have Hfy := Lib.hid (Hfx.out.step hf5 (fun _ _ h => h.elim))
            have q85 := hf5.heap q8 id
            have Hq85 := Lib.hid (hf5.heap Hq8.out id)
            have Hq65 := Lib.hid (hf5.heap Hq6.out id)
            have u0 := hf5.cell x0 id
            have u1 := hf5.cell x1 id
            have u2 := hf5.cell x2 id
            have u3 := hf5.cell x3 id
            have u4 := hf5.cell x4 id
            have u5 := hf5.cell x5 id
            have u6 := hf5.cell x6 id
            clear q8 x0 x1 x2 x3 x4 x5 x6 Hq8 Hq6 Hfx hea
            have Hfx := Hfy
            have Hq6 := Hq65
            have Hq8 := Hq85
            have x0 := u0
            have x1 := u1
            have x2 := u2
            have x3 := u3
            have x4 := u4
            have x5 := u5
            have x6 := u6
            have q8 := q85
            clear Hfy Hq65 Hq85 u0 u1 u2 u3 u4 u5 u6 q85
            rcases ha : aheadB mp mr op or with _ | _
            · have HO' : Hid (best2 allG (G.take (k + 1)) (di, slot) = some ⟨op, oi, or, os, ot, oe, oa, ol, oc⟩) := by
                unfold Hid; rw [List.take_add_one, Hmk.out]; have h1 := HO.out; rw [← Hie.out, ← Hse.out] at h1 ⊢; exact (congrFun (best2_snoc _ _) _).trans ((congrFun (best2S_keep (m := (⟨mp, mi, mr, ms, mt, me, ma, ml, mc⟩ : Mem)) h1 ha) _).trans h1)
              clear ha x0 x1 x2 x3 x4 x5 x6 q8
              go_wp2_with fail
              refine OnlyN.mk ⟨hf5, ?_⟩
              clear hf5
              repeat (first | (apply sig_q; exact rfl; exact rfl; exact rfl; intro K hK; go_big_quiet_op; go_big_quiet_on) | (apply sig_skip; exact rfl; exact rfl; exact rfl; intro K hK; go_big_quiet_op; go_big_quiet_on))
              refine sig_end ?_
              go_wp2_with fail
              go_roundw
              case rel => exact ⟨k + 1, some ⟨op, oi, or, os, ot, oe, oa, ol, oc⟩, by omega, rfl, by go_num, HO', Hq8.out, Hq6.out, Hfx.out⟩
              case measure => simp [intOf]; omega
            · have HO' : Hid (best2 allG (G.take (k + 1)) (di, slot) = some (⟨mp, mi, mr, ms, mt, me, ma, ml, mc⟩ : Mem)) := by
                unfold Hid; rw [List.take_add_one, Hmk.out]; have h1 := HO.out; rw [← Hie.out, ← Hse.out] at h1 ⊢; exact (congrFun (best2_snoc _ _) _).trans ((congrFun (best2S_take (m := (⟨mp, mi, mr, ms, mt, me, ma, ml, mc⟩ : Mem)) rfl (fun o' ho' => by rw [h1] at ho'; cases ho'; exact ha)) _).trans (if_pos rfl))
              clear ha
              go_wp2_with fail
              refine OnlyN.mk ⟨hf5, ?_⟩
              clear hf5
              repeat (first | (apply sig_q; exact rfl; exact rfl; exact rfl; intro K hK; go_big_quiet_op; go_big_quiet_on) | (apply sig_skip; exact rfl; exact rfl; exact rfl; intro K hK; go_big_quiet_op; go_big_quiet_on))
              refine sig_end ?_
              have b0 : w5.cell? ⟨w.heap.size + 1, 0, none⟩ = some (.string op) := cell_of_block q8 0
              have b1 : w5.cell? ⟨w.heap.size + 1, 1, none⟩ = some (.string oi) := cell_of_block q8 1
              have b2 : w5.cell? ⟨w.heap.size + 1, 2, none⟩ = some (.int .i64 or) := cell_of_block q8 2
              have b3 : w5.cell? ⟨w.heap.size + 1, 3, none⟩ = some (.int .i64 os) := cell_of_block q8 3
              have b4 : w5.cell? ⟨w.heap.size + 1, 4, none⟩ = some (.int .i64 ot) := cell_of_block q8 4
              have b5 : w5.cell? ⟨w.heap.size + 1, 5, none⟩ = some (.int .i64 oe) := cell_of_block q8 5
              have b6 : w5.cell? ⟨w.heap.size + 1, 6, none⟩ = some (.slice oa ol.length oc) := cell_of_block q8 6
              have f0 : w5.frozen? ⟨w.heap.size + 1, 0, none⟩ = false := free_of_block q8 0
              have f1 : w5.frozen? ⟨w.heap.size + 1, 1, none⟩ = false := free_of_block q8 1
              have f2 : w5.frozen? ⟨w.heap.size + 1, 2, none⟩ = false := free_of_block q8 2
              have f3 : w5.frozen? ⟨w.heap.size + 1, 3, none⟩ = false := free_of_block q8 3
              have f4 : w5.frozen? ⟨w.heap.size + 1, 4, none⟩ = false := free_of_block q8 4
              have f5 : w5.frozen? ⟨w.heap.size + 1, 5, none⟩ = false := free_of_block q8 5
              have f6 : w5.frozen? ⟨w.heap.size + 1, 6, none⟩ = false := free_of_block q8 6
              have h7 := set7 q8 rfl (.string mp) (.string mi) (.int .i64 mr) (.int .i64 ms) (.int .i64 mt) (.int .i64 me) (.slice ma ml.length mc)
              have H7 := Lib.hid h7.1
              have H6 := Lib.hid (h7.2.heap Hq6.out (fun e => by unfold Is at e; omega))
              have H5 := Lib.hid (Hfx.out.step h7.2 (fun _ _ h => h))
              clear h7 q8
              go_wp2_with fail
              clear b0 b1 b2 b3 b4 b5 b6 f0 f1 f2 f3 f4 f5 f6 x0 x1 x2 x3 x4 x5 x6
              go_roundw
              case rel => exact ⟨k + 1, some ⟨mp, mi, mr, ms, mt, me, ma, ml, mc⟩, by omega, rfl, by go_num, HO', H7.out, H6.out, H5.out⟩
              case measure => simp [intOf]; omega
    · obtain rfl : k = G.length := by omega
      have hO := HO.out
      rw [List.take_length] at hO
      have HOe := Lib.hid hO
      have Hf := Lib.hid hf
      clear hO hf HO
      rcases o with _ | ⟨op, oi, or, os, ot, oe, oa, ol, oc⟩
      · have q8 : wr.heap[w.heap.size + 1]? = some (.cells #[.string ⟨#[]⟩, .string ⟨#[]⟩, .int .i64 0, .int .i64 0, .int .i64 0, .int .i64 0, .slice none 0 0] 58) := Hq8.out
        have q6 := Hq6.out
        have x0 : wr.cell? ⟨w.heap.size + 1, 0, none⟩ = some (.string ⟨#[]⟩) := cell_of_block q8 0
        have x1 : wr.cell? ⟨w.heap.size + 1, 1, none⟩ = some (.string ⟨#[]⟩) := cell_of_block q8 1
        have x2 : wr.cell? ⟨w.heap.size + 1, 2, none⟩ = some (.int .i64 0) := cell_of_block q8 2
        have x3 : wr.cell? ⟨w.heap.size + 1, 3, none⟩ = some (.int .i64 0) := cell_of_block q8 3
        have x4 : wr.cell? ⟨w.heap.size + 1, 4, none⟩ = some (.int .i64 0) := cell_of_block q8 4
        have x5 : wr.cell? ⟨w.heap.size + 1, 5, none⟩ = some (.int .i64 0) := cell_of_block q8 5
        have x6 : wr.cell? ⟨w.heap.size + 1, 6, none⟩ = some (.slice none 0 0) := cell_of_block q8 6
        have b0 : wr.cell? ⟨w.heap.size, 0, none⟩ = some (.string ⟨#[]⟩) := cell_of_block q6 0
        have b1 : wr.cell? ⟨w.heap.size, 1, none⟩ = some (.string ⟨#[]⟩) := cell_of_block q6 1
        have b2 : wr.cell? ⟨w.heap.size, 2, none⟩ = some (.int .i64 0) := cell_of_block q6 2
        have b3 : wr.cell? ⟨w.heap.size, 3, none⟩ = some (.int .i64 0) := cell_of_block q6 3
        have b4 : wr.cell? ⟨w.heap.size, 4, none⟩ = some (.int .i64 0) := cell_of_block q6 4
        have b5 : wr.cell? ⟨w.heap.size, 5, none⟩ = some (.int .i64 0) := cell_of_block q6 5
        have b6 : wr.cell? ⟨w.heap.size, 6, none⟩ = some (.slice none 0 0) := cell_of_block q6 6
        have f0 : wr.frozen? ⟨w.heap.size, 0, none⟩ = false := free_of_block q6 0
        have f1 : wr.frozen? ⟨w.heap.size, 1, none⟩ = false := free_of_block q6 1
        have f2 : wr.frozen? ⟨w.heap.size, 2, none⟩ = false := free_of_block q6 2
        have f3 : wr.frozen? ⟨w.heap.size, 3, none⟩ = false := free_of_block q6 3
        have f4 : wr.frozen? ⟨w.heap.size, 4, none⟩ = false := free_of_block q6 4
        have f5 : wr.frozen? ⟨w.heap.size, 5, none⟩ = false := free_of_block q6 5
        have f6 : wr.frozen? ⟨w.heap.size, 6, none⟩ = false := free_of_block q6 6
        have h7 := set7 q6 rfl (.string ⟨#[]⟩) (.string ⟨#[]⟩) (.int .i64 0) (.int .i64 0) (.int .i64 0) (.int .i64 0) (.slice none 0 0)
        have H7 := Lib.hid h7.1
        have H5 := Lib.hid (((Hx.out.mono (T := From w.heap.size) (fun _ _ h => h.elim)).step (Hf.out.trans h7.2 (fun _ _ h => .inl h) (fun b _ h => .inr h) : Fr (fun b => Is (w.heap.size + 1) b ∨ Is w.heap.size b) W0 _) (fun b _ h => by unfold Is at h; unfold From; omega)).mono (T := No) (fun b hb h => by unfold From at h; omega))
        clear h7 q6 q8
        go_wp2_with fail
        clear x0 x1 x2 x3 x4 x5 x6 b0 b1 b2 b3 b4 b5 b6 f0 f1 f2 f3 f4 f5 f6
        have y0 := cell_of_block H7.out 0
        have y1 := cell_of_block H7.out 1
        have y2 := cell_of_block H7.out 2
        have y3 := cell_of_block H7.out 3
        have y4 := cell_of_block H7.out 4
        have y5 := cell_of_block H7.out 5
        have y6 := cell_of_block H7.out 6
        refine bodyPost_ret (v := .tuple #[.agg #[.string ⟨#[]⟩, .string ⟨#[]⟩, .int .i64 0, .int .i64 0, .int .i64 0, .int .i64 0, .slice none 0 0], .bool false]) (by simp [results, Tryz.results127, go_sem, y0, y1, y2, y3, y4, y5, y6]) rfl ?_
        exact ⟨by unfold OwnerR; rw [HOe.out]; rfl, H5.out⟩
      · have q8 : wr.heap[w.heap.size + 1]? = some (.cells #[.string op, .string oi, .int .i64 or, .int .i64 os, .int .i64 ot, .int .i64 oe, .slice oa ol.length oc] 58) := Hq8.out
        have q6 := Hq6.out
        have x0 : wr.cell? ⟨w.heap.size + 1, 0, none⟩ = some (.string op) := cell_of_block q8 0
        have x1 : wr.cell? ⟨w.heap.size + 1, 1, none⟩ = some (.string oi) := cell_of_block q8 1
        have x2 : wr.cell? ⟨w.heap.size + 1, 2, none⟩ = some (.int .i64 or) := cell_of_block q8 2
        have x3 : wr.cell? ⟨w.heap.size + 1, 3, none⟩ = some (.int .i64 os) := cell_of_block q8 3
        have x4 : wr.cell? ⟨w.heap.size + 1, 4, none⟩ = some (.int .i64 ot) := cell_of_block q8 4
        have x5 : wr.cell? ⟨w.heap.size + 1, 5, none⟩ = some (.int .i64 oe) := cell_of_block q8 5
        have x6 : wr.cell? ⟨w.heap.size + 1, 6, none⟩ = some (.slice oa ol.length oc) := cell_of_block q8 6
        have b0 : wr.cell? ⟨w.heap.size, 0, none⟩ = some (.string ⟨#[]⟩) := cell_of_block q6 0
        have b1 : wr.cell? ⟨w.heap.size, 1, none⟩ = some (.string ⟨#[]⟩) := cell_of_block q6 1
        have b2 : wr.cell? ⟨w.heap.size, 2, none⟩ = some (.int .i64 0) := cell_of_block q6 2
        have b3 : wr.cell? ⟨w.heap.size, 3, none⟩ = some (.int .i64 0) := cell_of_block q6 3
        have b4 : wr.cell? ⟨w.heap.size, 4, none⟩ = some (.int .i64 0) := cell_of_block q6 4
        have b5 : wr.cell? ⟨w.heap.size, 5, none⟩ = some (.int .i64 0) := cell_of_block q6 5
        have b6 : wr.cell? ⟨w.heap.size, 6, none⟩ = some (.slice none 0 0) := cell_of_block q6 6
        have f0 : wr.frozen? ⟨w.heap.size, 0, none⟩ = false := free_of_block q6 0
        have f1 : wr.frozen? ⟨w.heap.size, 1, none⟩ = false := free_of_block q6 1
        have f2 : wr.frozen? ⟨w.heap.size, 2, none⟩ = false := free_of_block q6 2
        have f3 : wr.frozen? ⟨w.heap.size, 3, none⟩ = false := free_of_block q6 3
        have f4 : wr.frozen? ⟨w.heap.size, 4, none⟩ = false := free_of_block q6 4
        have f5 : wr.frozen? ⟨w.heap.size, 5, none⟩ = false := free_of_block q6 5
        have f6 : wr.frozen? ⟨w.heap.size, 6, none⟩ = false := free_of_block q6 6
        have h7 := set7 q6 rfl (.string op) (.string oi) (.int .i64 or) (.int .i64 os) (.int .i64 ot) (.int .i64 oe) (.slice oa ol.length oc)
        have H7 := Lib.hid h7.1
        have H5 := Lib.hid (((Hx.out.mono (T := From w.heap.size) (fun _ _ h => h.elim)).step (Hf.out.trans h7.2 (fun _ _ h => .inl h) (fun b _ h => .inr h) : Fr (fun b => Is (w.heap.size + 1) b ∨ Is w.heap.size b) W0 _) (fun b _ h => by unfold Is at h; unfold From; omega)).mono (T := No) (fun b hb h => by unfold From at h; omega))
        clear h7 q6 q8
        go_wp2_with fail
        clear x0 x1 x2 x3 x4 x5 x6 b0 b1 b2 b3 b4 b5 b6 f0 f1 f2 f3 f4 f5 f6
        have y0 := cell_of_block H7.out 0
        have y1 := cell_of_block H7.out 1
        have y2 := cell_of_block H7.out 2
        have y3 := cell_of_block H7.out 3
        have y4 := cell_of_block H7.out 4
        have y5 := cell_of_block H7.out 5
        have y6 := cell_of_block H7.out 6
        refine bodyPost_ret (v := .tuple #[.agg #[.string op, .string oi, .int .i64 or, .int .i64 os, .int .i64 ot, .int .i64 oe, .slice oa ol.length oc], .bool true]) (by simp [results, Tryz.results127, go_sem, y0, y1, y2, y3, y4, y5, y6]) rfl ?_
        exact ⟨by unfold OwnerR; rw [HOe.out]; rfl, H5.out⟩
end Go.Proofs.YtbblkknndaoefaaGreatDoor
namespace Go.Proofs.YtbblkknndaoefaaGreatDoor
open Go.RowKit Go.Maps Go.Sort Go.Shelf
set_option linter.unusedVariables false

theorem laidOutP : laidOutB Tryz.prog = true := by kernel_rfl
set_option maxRecDepth 100000 in
theorem rowPl : (150 : TypeId) < Tryz.prog.types.size := of_decide_eq_true (by kernel_rfl)
theorem widePl : (match Tryz.prog.underlying 150 with | some (.array _ _) | some (.struct _) => true | _ => false) = true := by kernel_rfl
set_option maxRecDepth 100000 in
theorem lawP : Keyed Tryz.prog 150 := Keyed.of_law (deep_law_laid laidOutP (m := 3) (by omega) rowPl (by kernel_rfl) widePl)
theorem typePl : Tryz.prog.keyType 150 = true := by kernel_rfl
theorem cellsPl : Tryz.prog.cellsOf 150 = 2 := by kernel_rfl
theorem cellsStr : Tryz.prog.cellsOf 9 = 1 := by kernel_rfl
theorem cellsInt : Tryz.prog.cellsOf 3 = 1 := by kernel_rfl
set_option maxRecDepth 100000 in
theorem sizePl : ∃ n, Tryz.prog.types.size = n + 1 := ⟨Tryz.prog.types.size - 1, by have : 0 < Tryz.prog.types.size := of_decide_eq_true (by kernel_rfl); omega⟩
theorem litsPl (d : Nat) (v0 v1 : Value) : Tryz.prog.keyLits (d + 2) 150 [v0, v1] = (Tryz.prog.keyLits (d + 1) 9 [v0]).bind fun a => (Tryz.prog.keyLits (d + 1) 3 [v1]).map fun b => a ++ b := by
  rw [Program.keyLits.eq_def]
  simp only [Tryz.underlying150, cellsPl]
  simp [cellsStr, cellsInt]
  cases Tryz.prog.keyLits (d + 1) 9 [v0] <;> cases Tryz.prog.keyLits (d + 1) 3 [v1] <;> simp
theorem litsStr (d : Nat) (v : Value) (ls : List Lit) : Tryz.prog.keyLits (d + 1) 9 [v] = some ls ↔ ∃ s, v = .string s ∧ s.size ≤ maxLen ∧ ls = [.string s.data.toList] := by
  rw [Program.keyLits.eq_def]
  simp only [Tryz.underlying9]
  cases v <;> simp
  intro _
  exact eq_comm
theorem litsInt (d : Nat) (v : Value) (ls : List Lit) : Tryz.prog.keyLits (d + 1) 3 [v] = some ls ↔ ∃ n, v = .int .i64 n ∧ (Lit.int .i64 n).wf = true ∧ ls = [.int .i64 n] := by
  rw [Program.keyLits.eq_def]
  simp only [Tryz.underlying3]
  cases v <;> simp
  rename_i q n
  constructor
  · rintro ⟨⟨rfl, h⟩, rfl⟩; exact ⟨n, ⟨rfl, rfl⟩, h, rfl⟩
  · rintro ⟨n', ⟨rfl, rfl⟩, h, rfl⟩; exact ⟨⟨rfl, h⟩, rfl⟩
/-- What a place reads as. -/
def plL (x : ByteArray × Int) : Lit := .string (keyBytes [.string x.1.data.toList, .int .i64 x.2])
theorem formedPl (xs : Array Value) : (Value.agg xs).formed Tryz.prog 150 = (xs.size == 2) := by
  simp [Value.formed, Tryz.underlying150, cellsPl]
theorem keyP {s : ByteArray} {n : Int} (hs : s.size ≤ maxLen) (hn : (Lit.int .i64 n).wf = true) : keyOf Tryz.prog 150 (.agg #[.string s, .int .i64 n]) = some (plL (s, n)) := by
  obtain ⟨d, hd⟩ := sizePl
  unfold keyOf
  simp only [Tryz.underlying150, typePl, formedPl]
  rw [hd]
  have h1 := (litsStr d (.string s) _).2 ⟨s, rfl, hs, rfl⟩
  have h2 := (litsInt d (.int .i64 n) _).2 ⟨n, rfl, hn, rfl⟩
  have h3 := litsPl d (.string s) (.int .i64 n)
  rw [h1, h2] at h3
  simp [Value.cells, h3, plL]
set_option maxRecDepth 100000 in
theorem keyP_inv {key : Value} {kl : Lit} (h : keyOf Tryz.prog 150 key = some kl) : ∃ s n, key = .agg #[.string s, .int .i64 n] ∧ s.size ≤ maxLen ∧ (Lit.int .i64 n).wf = true := by
  obtain ⟨d, hd⟩ := sizePl
  unfold keyOf at h
  simp only [Tryz.underlying150, typePl] at h
  rw [hd] at h
  split at h
  · rename_i hf
    simp only [Bool.true_and] at hf
    cases key with
    | agg xs =>
      rw [formedPl, beq_iff_eq] at hf
      obtain ⟨xl⟩ := xs
      match xl, hf with
      | [v0, v1], _ =>
        have h3 := litsPl d v0 v1
        simp only [Value.cells] at h
        rcases h0 : Tryz.prog.keyLits (d + 1) 9 [v0] with _ | a
        · rw [h0] at h3; simp [h3] at h
        · rcases h1 : Tryz.prog.keyLits (d + 1) 3 [v1] with _ | b
          · rw [h0, h1] at h3; simp [h3] at h
          · obtain ⟨s, rfl, hs, _⟩ := (litsStr d v0 a).1 h0
            obtain ⟨n, rfl, hn, _⟩ := (litsInt d v1 b).1 h1
            exact ⟨s, n, rfl, hs, hn⟩
    | _ => simp [Value.formed, Tryz.underlying150] at hf
  · cases h
theorem plL_inj {x y : ByteArray × Int} (hx : x.1.size ≤ maxLen) (hx2 : (Lit.int .i64 x.2).wf = true) (hy : y.1.size ≤ maxLen) (hy2 : (Lit.int .i64 y.2).wf = true) (h : plL x = plL y) : x = y := by
  have h1 := keyP hx hx2
  have h2 := keyP hy hy2
  rw [h] at h1
  have h3 := lawP.inj h1 h2
  simp at h3
  obtain ⟨a, b⟩ := x
  obtain ⟨c, d⟩ := y
  simp only at h3
  rw [h3.1, h3.2]

/-- Block mb is a map with places as keys: its look-up is g. -/
def PMap (w : World) (mb : Nat) (g : ByteArray × Int → Option Value) (N : Nat) : Prop :=
  ∃ (D : DataW Value) (n : Nat), n ≤ N ∧ w.ownsMap Tryz.prog 150 heldV mb n D ∧ ∀ x : ByteArray × Int, x.1.size ≤ maxLen → (Lit.int .i64 x.2).wf = true → has D (plL x) = (g x).isSome ∧ ∀ v, g x = some v → ∀ z, D.atKey (plL x) z = .held v
theorem PMap.lt {w : World} {mb : Nat} {g : ByteArray × Int → Option Value} {N : Nat} (h : PMap w mb g N) : mb < w.heap.size := by obtain ⟨D, n, _, ho, _⟩ := h; exact ho.lt
theorem PMap.fr {S : Nat → Prop} {w w' : World} {mb : Nat} {g : ByteArray × Int → Option Value} {N : Nat} (h : PMap w mb g N) (hf : Fr S w w') (hS : ¬ S mb) : PMap w' mb g N := by
  obtain ⟨D, n, hn, ho, r⟩ := h; exact ⟨D, n, hn, hf.ownsMap ho hS, r⟩
theorem PMap.made (w : World) : PMap (w.alloc (.map #[] 0)) w.heap.size (fun _ => none) 0 := ⟨.map [], 0, Nat.le_refl _, World.ownsMap_made _ _ _ _, fun _ _ _ => ⟨rfl, fun _ h => by cases h⟩⟩
theorem PMap.mono {w : World} {mb : Nat} {g : ByteArray × Int → Option Value} {N M : Nat} (h : PMap w mb g N) (hN : N ≤ M) : PMap w mb g M := by
  obtain ⟨D, n, hn, r⟩ := h; exact ⟨D, n, by omega, r⟩
theorem held_at {D : DataW Value} {kl : Lit} {z v : Value} {o : Option Value} {ps : List MemPlace} (h1 : has D kl = o.isSome) (h2 : ∀ v, o = some v → ∀ z, D.atKey kl z = .held v) (hv : heldV v = some (D.atKey kl (.held z), ps)) : v = o.getD z := by
  simp only [heldV, Option.some.injEq, Prod.mk.injEq] at hv
  have e1 := hv.1
  rcases o with _ | v'
  · rw [atKey_of_not_has h1] at e1
    simpa using e1
  · rw [h2 _ rfl] at e1
    simpa using e1
theorem PMap.look {w : World} {mb : Nat} {g : ByteArray × Int → Option Value} {N : Nat} (h : PMap w mb g N) {t e : TypeId} {z : Value} (hz : (zeroValue e).run Tryz.prog w = .ok z w) (ht : Tryz.prog.underlying t = some (.map 150 e))
    {s : ByteArray} {n : Int} (hs : s.size ≤ maxLen) (hn : (Lit.int .i64 n).wf = true) : (Instr.lookup t (.map (some mb)) (.agg #[.string s, .int .i64 n]) false).run Tryz.prog w = .ok ((g (s, n)).getD z) w := by
  obtain ⟨D, m, _, ho, hh⟩ := h
  obtain ⟨h1, h2⟩ := hh (s, n) hs hn
  obtain ⟨v, ps, hrun, hv⟩ := ho.lookup lawP ht hz (zd := .held z) (zp := []) rfl (keyP hs hn)
  rw [hrun, held_at h1 h2 hv]
theorem wp_pmap_ok {w : World} {ops : Array Oper} {rest : List Oper} {o : Oper} {a : Act} {Q : Exit → Act → World → Prop} (hg : o.guard = none) (m x : Operand) (t e : TypeId) (z : Value) (hz : (zeroValue e).run Tryz.prog w = .ok z w) (hop : o.op = Op.lookup t m x true) (ht : Tryz.prog.underlying t = some (.map 150 e))
    (mb : Nat) (g : ByteArray × Int → Option Value) (N : Nat) (s : ByteArray) (n : Int) (hs : s.size ≤ maxLen) (hn : (Lit.int .i64 n).wf = true) (hm : a.eval m = .map (some mb)) (hown : PMap w mb g N) (hx : a.eval x = .agg #[.string s, .int .i64 n])
    (v : Value) (hv : (g (s, n)).getD z = v) (b : Bool) (hb : (g (s, n)).isSome = b)
    (hK : wpList Tryz.prog ops Q rest (a.put o.dst (.tuple #[v, .bool b])) w) : wpList Tryz.prog ops Q (o :: rest) a w := by
  obtain ⟨D, k, _, ho, hh⟩ := hown
  obtain ⟨h1, h2⟩ := hh (s, n) hs hn
  refine wpList_lookup_own_ok w hg m x t hop 150 e lawP ht heldV hz (.held z) [] rfl mb k D hm ho _ _ hx (keyP hs hn) (fun v1 ps hv1 => ?_)
  rw [h1, held_at h1 h2 hv1, hv, hb]; exact hK
theorem isKeyPl (x : ByteArray × Int) : WideAt.IsKeyLit (plL x) := trivial
def updP (g : ByteArray × Int → Option Value) (x : ByteArray × Int) (v : Value) : ByteArray × Int → Option Value := fun y => if y = x then some v else g y
theorem wp_pmap_put {w : World} {ops : Array Oper} {rest : List Oper} {o : Oper} {a : Act} {Q : Exit → Act → World → Prop} (hg : o.guard = none) (m x v : Operand) (t e : TypeId) (hop : o.op = Op.mapUpdate t m x v) (ht : Tryz.prog.underlying t = some (.map 150 e))
    (mb : Nat) (g : ByteArray × Int → Option Value) (N : Nat) (hN : N < maxLen) (s : ByteArray) (n : Int) (hs : s.size ≤ maxLen) (hn : (Lit.int .i64 n).wf = true) (u : Value) (hm : a.eval m = .map (some mb)) (hown : PMap w mb g N) (hx : a.eval x = .agg #[.string s, .int .i64 n]) (hv : a.eval v = u)
    (hK : ∀ w', PMap w' mb (updP g (s, n) u) (N + 1) → Fr (Is mb) w w' → wpList Tryz.prog ops Q rest (a.put o.dst undef) w') : wpList Tryz.prog ops Q (o :: rest) a w := by
  obtain ⟨D, k, hk, ho, hh⟩ := hown
  refine wpList_mapUpdate_own w hg m x v t hop 150 e lawP ht heldV mb k D hm ho (by omega) _ _ _ hx hv (keyP hs hn) (.held u) [] rfl (fun w' h h' => hK w' ⟨_, k + 1, by omega, h, fun y hy hy2 => ?_⟩ (Fr.of_grown_some h'))
  obtain ⟨h1, h2⟩ := hh y hy hy2
  unfold updP
  by_cases e : y = (s, n)
  · subst e
    rw [if_pos rfl]
    exact ⟨by rw [has_put_same ho.isMap (isKeyPl _) _]; rfl, fun v hv z => by cases hv; rw [atKey_put_same ho.isMap (isKeyPl _) _ _]⟩
  · rw [if_neg e]
    have hne : plL y ≠ plL (s, n) := fun he => e (plL_inj hy hy2 hs hn he)
    exact ⟨by rw [has_put_other hne]; exact h1, fun v hv z => by rw [atKey_put_other hne]; exact h2 v hv z⟩

/-! ### groups: texts to lists of numbers -/
def grpD (l : List Int) : DataW Unit := if l = [] then .nil else .slice (Go.ChangeShapes.lits .i64 l) []
/-- Block mb is a map from texts to slices of numbers: at x stands a slice that owns f x. -/
def GMap (w : World) (base mb : Nat) (f : List UInt8 → List Int) (N : Nat) : Prop :=
  ∃ (D : DataW Unit) (n : Nat), n ≤ N ∧ w.ownsGroups Tryz.prog 9 base 3 .i64 mb n D ∧ (∀ x, D.atKey (.string x) .nil = grpD (f x)) ∧ ∀ x, has D (.string x) = !(f x).isEmpty
theorem GMap.made {w : World} {mb base : Nat} (h : w.heap[mb]? = some (.map #[] 0)) (hb : mb < base) : GMap w base mb (fun _ => []) 0 :=
  ⟨.map [], 0, Nat.le_refl _, ⟨#[], 0, h, ⟨by simp, Go.MapKept.stamped_empty 0, by simp⟩, Nat.le_refl _, rfl, hb, by simp, by simp⟩, fun _ => rfl, fun _ => rfl⟩
theorem GMap.lt {w : World} {base mb : Nat} {f : List UInt8 → List Int} {N : Nat} (h : GMap w base mb f N) : mb < w.heap.size := by
  obtain ⟨D, n, _, ⟨es, c, hb, _⟩, _⟩ := h
  exact (Array.getElem?_eq_some_iff.1 hb).1
open Go.WideElems in
theorem fit_one {P : Program} {k : TypeId} {R : Value → Option (DataW Unit × List MemPlace)} {es : Array MapEntry} {clock : Nat} (F : Fit P k R es clock) {x y : MapEntry} (hx : x ∈ es.toList) (hy : y ∈ es.toList) (he : x.key = y.key) : x = y :=
  entry_eq_of_key ((Go.MapKept.stamped_iff es clock).1 F.stamped).2.2 hx hy he
theorem lits_inj {a b : List Int} (h : Go.ChangeShapes.lits (H := Unit) .i64 a = Go.ChangeShapes.lits .i64 b) : a = b := by
  unfold Go.ChangeShapes.lits at h
  exact (List.map_inj_right (fun x y hxy => by simpa using hxy)).1 h
set_option maxRecDepth 100000 in
theorem zeroIs (w : World) : (zeroValue 22).run Tryz.prog w = .ok (.slice none 0 0) w := by kernel_rfl
set_option maxRecDepth 100000 in
/-- The look-up: the same value in all worlds that hold the map as it is; the numbers; the way back. -/
theorem GMap.look {w : World} {base mb : Nat} {f : List UInt8 → List Int} {N : Nat} (h : GMap w base mb f N) (hN : N < maxLen) {x : ByteArray} (hx : x.size ≤ maxLen) :
    ∃ v, (∀ W : World, W.heap[mb]? = w.heap[mb]? → (Instr.lookup 152 (.map (some mb)) (.string x) false).run Tryz.prog W = .ok v W) ∧ w.ownsInts base 3 .i64 v (f (kb x)) ∧ (f (kb x)).length ≤ N ∧
      (∀ (y : Int), (Lit.int .i64 y).wf = true → ∀ (w1 : World) (v' : Value), w.grownBy w1 v.ownBlock → w1.ownsInts base 3 .i64 v' (f (kb x) ++ [y]) → (v'.ownBlock = v.ownBlock ∨ ∃ g, v'.ownBlock = some g ∧ w.heap.size ≤ g) →
        ∃ w2, (Instr.mapUpdate 152 (.map (some mb)) (.string x) v').run Tryz.prog w1 = .ok () w2 ∧ GMap w2 base mb (fun z => if z = kb x then f (kb x) ++ [y] else f z) (N + 1) ∧ w1.grownBy w2 (some mb)) := by
  obtain ⟨D, n, hn, hown, h1, h2⟩ := h
  have hkey := keyS hx
  obtain ⟨v, zs, hrun, hat, hoi, hzl, hback⟩ := hown.at lawS Tryz.underlying152 (zeroIs w) (by omega) hkey
  have hzs : zs = f (kb x) := by
    rw [h1 (kb x)] at hat
    unfold grpD at hat
    rcases hoi.datum (H := Unit) with ⟨e1, e2⟩ | e1
    · rw [e1] at hat
      split at hat
      · rename_i h0; rw [e2, h0]
      · cases hat
    · rw [e1] at hat
      split at hat
      · cases hat
      · injection hat with h3
        exact (lits_inj h3).symm
  subst hzs
  refine ⟨v, fun W hW => ?_, hoi, by omega, fun y hy w1 v' hg ho' hloc => ?_⟩
  · obtain ⟨es, clock, hb, F, _⟩ := hown
    rcases Maps.fit_look false lawS Tryz.underlying152 (zeroIs w) hb F hkey with ⟨r1, r2, _⟩ | ⟨e0, y0, m0, k0, r1, _⟩
    · rcases Maps.fit_look false lawS Tryz.underlying152 (zeroIs W) (hW.trans hb) F hkey with ⟨r3, _, _⟩ | ⟨e1, y1, m1, k1, r3, _⟩
      · rw [hrun] at r1
        rw [r3]
        have : v = .slice none 0 0 := by simpa using r1
        rw [this]; rfl
      · exact absurd k1 (r2 e1 m1)
    · rcases Maps.fit_look false lawS Tryz.underlying152 (zeroIs W) (hW.trans hb) F hkey with ⟨_, r2, _⟩ | ⟨e1, y1, m1, k1, r3, _⟩
      · exact absurd k0 (r2 e0 m0)
      · have he : e0 = e1 := entry_eq_of_key ((Go.MapKept.stamped_iff es clock).1 F.stamped).2.2 m0 m1 (k0.trans k1.symm)
        rw [hrun] at r1
        have : v = e0.val := by simpa using r1
        rw [r3, this, he]; rfl
  · obtain ⟨w2, r1, r2, r3⟩ := hback w1 v' _ hg ho' (by simp; omega) hloc
    refine ⟨w2, r1, ⟨_, n + 1, by omega, r2, fun z => ?_, fun z => ?_⟩, r3⟩
    · dsimp only
      have him : IsMap D := by obtain ⟨es, clock, _, _, _, rfl, _⟩ := hown; exact ⟨_, rfl⟩
      have hrd : rowDatum (H := Unit) .i64 v' (f (kb x) ++ [y]) = .slice (Go.ChangeShapes.lits .i64 (f (kb x) ++ [y])) [] := ho'.datum_pos (by simp)
      by_cases e : z = kb x
      · subst e
        rw [atKey_put_same him (isKeyS _) _ _, hrd, if_pos rfl, grpD, if_neg (by simp)]
      · rw [atKey_put_other (by intro e'; exact e (by simpa using e')), h1, if_neg e]
    · dsimp only
      have him : IsMap D := by obtain ⟨es, clock, _, _, _, rfl, _⟩ := hown; exact ⟨_, rfl⟩
      by_cases e : z = kb x
      · subst e
        rw [has_put_same him (isKeyS _) _, if_pos rfl]; simp
      · rw [has_put_other (by intro e'; exact e (by simpa using e')), h2, if_neg e]
/-- The groups stay while other blocks turn: not the map's, and below the rows' base. -/
theorem GMap.grown {w w' : World} {base mb : Nat} {f : List UInt8 → List Int} {N : Nat} {row : Option Nat} (h : GMap w base mb f N) (hg : w.grownBy w' row) (hb : some mb ≠ row) (hr : ∀ j, row = some j → j < base) : GMap w' base mb f N := by
  obtain ⟨D, n, hn, ho, h1, h2⟩ := h
  exact ⟨D, n, hn, ho.kept hg hb (ho.rowsAbove hr), h1, h2⟩
theorem GMap.base {w : World} {base mb : Nat} {f : List UInt8 → List Int} {N : Nat} (h : GMap w base mb f N) : mb < base := by
  obtain ⟨D, n, _, ⟨_, _, _, _, _, _, hb, _⟩, _⟩ := h; exact hb
end Go.Proofs.YtbblkknndaoefaaGreatDoor
namespace Go.Proofs.YtbblkknndaoefaaGreatDoor
open Go.RowKit Go.Maps Go.Sort Go.Shelf
set_option linter.unusedVariables false

set_option maxRecDepth 100000 in
set_option maxHeartbeats 1000000 in
theorem sl_min (a : Option Addr) (cap : Nat) (l : List Int) (w : World) (hl : Ints w a cap l) (hne : 1 ≤ l.length) :
    Calls Tryz.prog 126 #[.slice a l.length cap] w fun e w' => (∃ m, e = .returned (.int .i64 m) ∧ m ∈ l ∧ ∀ x ∈ l, m ≤ x) ∧ w = w' := by
  have hn : ¬ (l.length : Int) < 1 := by omega
  have hm := hl.lenmax
  have hn0 : (0 : Int) < l.length := by omega
  obtain ⟨b, off, x0, rfl, hx0, hc0⟩ := hl.at (k := 0) (by omega)
  rw [Nat.add_zero] at hc0
  have Hx0 := Lib.hid hx0
  clear hx0
  go_enter Tryz.func126, Tryz.ntmps126
  go_wp2_with fail
  go_loop [3, 4] (fun v i => ∃ (k : Nat) (m : Int), 1 ≤ k ∧ k ≤ l.length ∧ v = .int .i64 m ∧ i = .int .i64 (k : Int) ∧ Hid (m ∈ l.take k ∧ ∀ x ∈ l.take k, m ≤ x)) (fun _ i => l.length - (intOf i).toNat)
  case atStart => 
    refine ⟨1, x0, by omega, hne, rfl, rfl, ?_⟩
    unfold Hid
    have : l.take 1 = [x0] := by rw [List.take_add_one, Hx0.out]; rfl
    rw [this]; simp
  case round =>
    obtain ⟨k, m, hk1, hk, rfl, rfl, Hm⟩ := hrel
    by_cases hlt : k < l.length
    · have hlt' : (k : Int) < l.length := by omega
      obtain ⟨b', off', x, e, hx, hc⟩ := hl.at hlt
      cases e
      have Htk : Hid (l.take (k + 1) = l.take k ++ [x]) := by unfold Hid; rw [List.take_add_one, hx]; rfl
      clear hx
      by_cases hmx : m ≤ x
      · have hmin : min m x = m := by omega
        go_wp2_with fail
        go_round
        case rel =>
          refine ⟨k + 1, m, by omega, by omega, by first | rfl | (rw [if_pos hmx]), by go_num, ?_⟩
          unfold Hid
          rw [Htk.out]
          obtain ⟨h1, h2⟩ := Hm.out
          refine ⟨by simp [h1], fun y hy => ?_⟩
          rcases List.mem_append.1 hy with h | h
          · exact h2 y h
          · obtain rfl : y = x := by simpa using h
            exact hmx
        case measure => simp [intOf]; omega
      · have hmin : min m x = x := by omega
        go_wp2_with fail
        go_round
        case rel =>
          refine ⟨k + 1, x, by omega, by omega, by first | rfl | (rw [if_neg hmx]), by go_num, ?_⟩
          unfold Hid
          rw [Htk.out]
          obtain ⟨h1, h2⟩ := Hm.out
          refine ⟨by simp, fun y hy => ?_⟩
          rcases List.mem_append.1 hy with h | h
          · have := h2 y h; omega
          · obtain rfl : y = x := by simpa using h
            omega
        case measure => simp [intOf]; omega
    · obtain rfl : k = l.length := by omega
      have h := Hm.out
      rw [List.take_length] at h
      have Hr := Lib.hid h
      clear h Hm
      go_wp2_with fail
      go_ret
      exact ⟨⟨m, rfl, Hr.out.1, Hr.out.2⟩, rfl⟩

set_option maxHeartbeats 1000000 in
theorem tb_keys (mb : Option Nat) (w : World) : Calls Tryz.prog 150 #[.map mb] w fun e w' => e = .returned (.func (.func 187) #[] #[.pointer (some ⟨w.heap.size, 0, none⟩)]) ∧ w' = w.alloc (.cells #[.map mb] 152) :=
  (callsIn_wide (n := 5)).1 (AnyZ.keys_in Tryz.keysT Fence.wide 5 trivial rfl mb w)

set_option maxHeartbeats 1000000 in
theorem tb_sorted (mb Bm base : Nat) (f : List UInt8 → List Int) (N : Nat) (w : World) (hs : GMap w base mb f N) (hN : N ≤ 1099511627776) (hB : w.cell? ⟨Bm, 0, none⟩ = some (.map (some mb))) (hBl : Bm < w.heap.size) :
    Calls Tryz.prog 75 #[.func (.func 187) #[] #[.pointer (some ⟨Bm, 0, none⟩)]] w fun e w' =>
      (∃ a cap ids, e = .returned (.slice a ids.length cap) ∧ Strs w' a cap ids ∧ AscS (ids.map kb) ∧ (∀ x : ByteArray, x ∈ ids ↔ (f (kb x)) ≠ []) ∧ ids.length ≤ N ∧ ∀ ad, a = some ad → w.heap.size ≤ ad.block) ∧ Fr No w w' := by
  obtain ⟨D, n, hn, hg, _, hf⟩ := hs
  obtain ⟨es, clock, hbk, Ft, hes, hD, _⟩ := hg
  have hown : w.ownsMap Tryz.prog 9 (rowElem w base 3 .i64) mb n D := ⟨es, clock, hbk, Ft, hes, hD⟩
  clear hbk Ft hes hD
  have hsz := hown.size_le
  have hmax : Maps.size D ≤ maxLen := by unfold maxLen; omega
  have hbytes : Maps.size D * 16 ≤ 140737488355328 := by omega
  have hmem := mem_strKeys hown Tryz.underlying9
  have hnd := nodup_strKeys hown lawS Tryz.underlying9
  have hlen := strKeys_len D
  have hseq : SeqGives Fence.wide 2 Tryz.prog 187 #[.pointer (some ⟨Bm, 0, none⟩)] encStr (fun ss => ss.Perm (strKeys D)) (Maps.size D) w :=
    AnyZ.keys_gives (ρ := Tryz.keysT_ren) { Tryz.keysT with } Fence.wide _ trivial rfl (by omega) Bm mb n D _ hBl hB hown
  have cS := AnyZ.sorted_in Tryz.sortedS Fence.wide 5 trivial trivial trivial trivial rfl (by omega) (sortsS _) (enters_of Tryz.func106 (by kernel_rfl) rfl) 187 #[.pointer (some ⟨Bm, 0, none⟩)] trivial (enters_of Tryz.func187 (by kernel_rfl) rfl) _ _ hmax hbytes _ hseq
  refine ((callsIn_wide (n := 5)).1 cS).mono ?_
  rintro e w' ⟨v, ss, rfl, hperm, hrow, _, hb⟩
  have hp : (ss.mergeSort (fun x y => decide (x ≤ y))).Perm (strKeys D) := (List.mergeSort_perm ss _).trans hperm
  obtain ⟨L, hL⟩ : ∃ L, L = (ss.mergeSort (fun x y => decide (x ≤ y))) := ⟨_, rfl⟩
  have hl : (L.map bk).length = ss.length := by rw [hL]; simp
  have e1 : L.map encStr = (L.map bk).map Value.string := by rw [List.map_map]; rfl
  rw [← hL] at hp hrow
  rw [← hl, e1] at hrow
  obtain ⟨a, cap, rfl, h1, h2⟩ := Strs.of_own hrow
  have e2 : (L.map bk).map kb = L := by
    rw [List.map_map]
    have : kb ∘ bk = id := by funext x; exact kb_bk x
    rw [this, List.map_id]
  refine ⟨⟨a, cap, L.map bk, rfl, h1, ?_, fun x => ?_, ?_, h2⟩, Fr.of_below_size hb⟩
  · rw [e2, hL]; exact ascS_sorted (hperm.nodup_iff.2 hnd)
  · have hfx : f (kb x) ≠ [] ↔ has D (.string (kb x)) = true := by rw [hf]; cases f (kb x) <;> simp
    rw [hfx, ← hmem, ← hp.mem_iff]
    constructor
    · intro h
      obtain ⟨y, hy, rfl⟩ := List.mem_map.1 h
      rwa [kb_bk]
    · intro h
      exact List.mem_map.2 ⟨_, h, bk_kb x⟩
  · rw [List.length_map, hp.length_eq]; omega

set_option maxHeartbeats 1000000 in
theorem table_keys (mb base : Nat) (f : List UInt8 → List Int) (N : Nat) (w : World) (hs : GMap w base mb f N) (hN : N ≤ 1099511627776) :
    Calls Tryz.prog 125 #[.map (some mb)] w fun e w' =>
      (∃ a cap ids, e = .returned (.slice a ids.length cap) ∧ Strs w' a cap ids ∧ AscS (ids.map kb) ∧ (∀ x : ByteArray, x ∈ ids ↔ (f (kb x)) ≠ []) ∧ ids.length ≤ N ∧ ∀ ad, a = some ad → w.heap.size ≤ ad.block) ∧ Fr No w w' := by
  have hmb : mb < w.heap.size := hs.lt
  have hx : Fr No w (w.alloc (.cells #[.map (some mb)] 152)) := (Fr.refl _ _).alloc _
  have hs1 : GMap (w.alloc (.cells #[.map (some mb)] 152)) base mb f N := hs.grown (World.grownBy_alloc w _ none) (by simp) (fun j hj => by cases hj)
  have q1 := block_alloc w (.cells #[.map (some mb)] 152)
  have hsz : w.heap.size < (w.alloc (.cells #[.map (some mb)] 152)).heap.size := by simp
  go_enter Tryz.func125, Tryz.ntmps125
  go_wp2_with fail
  refine (tb_keys _ _).mono ?_
  rintro en w1 ⟨rfl, rfl⟩
  go_wp2_with fail
  generalize w.alloc (.cells #[.map (some mb)] 152) = W1 at *
  refine (tb_sorted mb w.heap.size base f N W1 hs1 hN (cell_of_block q1 0) hsz).mono ?_
  rintro en w2 ⟨⟨ia, ic, ids, rfl, hS, hasc, hmem, hln, hfresh⟩, hf2⟩
  have H := Lib.hid (And.intro hS (And.intro hasc (And.intro hmem (And.intro hfresh (hx.step hf2 (fun _ _ h => h))))))
  clear hS hasc hmem hfresh hf2 hs1 q1 hx
  go_wp2_with fail
  go_ret
  exact ⟨⟨ia, ic, ids, rfl, H.out.1, H.out.2.1, H.out.2.2.1, hln, fun ad e => by have := H.out.2.2.2.1 ad e; omega⟩, H.out.2.2.2.2⟩
end Go.Proofs.YtbblkknndaoefaaGreatDoor
