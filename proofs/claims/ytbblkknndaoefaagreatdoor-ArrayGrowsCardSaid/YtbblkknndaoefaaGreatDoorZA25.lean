/- SameArrays on equal lists. Slices of members as sources of an append; lists turned round. The row's frame for a row that lists variables and whose walk wants the world's shape. Plain laws. What the laid variables give to a law of the contents' chapters. The row's frame for a row with listed variables, the world's shape and the row's size bound. Plain. An array that came in, opened, with the bounds of its sizes. -/
import Derived.Test.YtbblkknndaoefaaGreatDoorZA12
import Derived.Test.YtbblkknndaoefaaGreatDoorZA6
import Derived.Test.YtbblkknndaoefaaGreatDoorZA2
import Derived.Test.YtbblkknndaoefaaGreatDoorZA5
import Derived.Test.YtbblkknndaoefaaGreatDoorRows
import Derived.HandedShaped
import Derived.Handed
import Derived.Test.YtbblkknndaoefaaGreatDoorZA9
import Derived.Shelf.Vars
import Derived.Stop.LaidErr
import Derived.MakeChecks
import Derived.Lib.LaidTab
import Derived.OpenShut
import Derived.LaidMore
import Derived.Lay
import Derived.Test.YtbblkknndaoefaaGreatDoorZA20
namespace Go.Proofs.YtbblkknndaoefaaGreatDoor
open Go.RowKit Go.Maps
set_option linter.unusedVariables false

theorem sameT_id (l : List ByteArray) : sameT l l = true := by unfold sameT; simp
set_option maxRecDepth 100000 in
set_option maxHeartbeats 4000000 in
theorem same_arrays_eq (a a' : Option Addr) (cap cap' : Nat) (O O' : List ArrM) (w : World) (hO : Arrs w a cap O) (hO' : Arrs w a' cap' O') (he : O.map ArrM.toArr = O'.map ArrM.toArr) :
    Calls Tryz.prog 46 #[.slice a O.length cap, .slice a' O'.length cap'] w fun e w' => e = .returned (.bool true) ∧ Fr No w w' := by
  have hm := hO.lenmax
  have hlen : O'.length = O.length := by have := congrArg List.length he; simp at this; exact this.symm
  rw [hlen]
  have Hlen := Lib.hid hlen
  clear hlen
  have He := Lib.hid he
  clear he
  go_enter Tryz.func46, Tryz.ntmps46
  go_wp2_with fail
  go_loopw [5] (fun i wr => ∃ k : Nat, k ≤ O.length ∧ i = .int .i64 (k : Int) ∧ Fr No w wr) (fun i _ => O.length - (intOf i).toNat)
  case atStart => exact ⟨0, by omega, rfl, Fr.refl _ _⟩
  case round =>
    obtain ⟨k, hk, rfl, hf⟩ := hrel
    by_cases hlt : k < O.length
    · have hlt1 : (k : Int) < O.length := by omega
      obtain ⟨ub, uo, u, e1, hu, ⟨hPu, hLu⟩, ⟨u0, u1, u2, u3, u4, u5⟩, hubl⟩ := (hO.no hf (fun _ => id)).elem hlt
      obtain ⟨vb, vo, v, e2, hv, ⟨hPv, hLv⟩, ⟨v0, v1, v2, v3, v4, v5⟩, hvbl⟩ := (hO'.no hf (fun _ => id)).elem (show k < O'.length by have := Hlen.out; omega)
      have huv : u.toArr = v.toArr := by
        have h1 : (O.map ArrM.toArr)[k]? = some u.toArr := by rw [List.getElem?_map, hu]; rfl
        rw [He.out, List.getElem?_map, hv] at h1
        exact (Option.some.inj h1).symm
      obtain ⟨⟨ia, ps, ta, ea, na, ls⟩, pa, pc, la, lc⟩ := u
      obtain ⟨Av, va, vc, wa, wk⟩ := v
      simp only at huv
      subst huv
      subst e1 e2
      simp only at u0 u1 u2 u3 u4 u5 v0 v1 v2 v3 v4 v5 hPu hLu hPv hLv
      have Hu := Lib.hid (And.intro hPu (And.intro hLu (And.intro hPv hLv)))
      have Hf := Lib.hid hf
      clear hu hv hPu hLu hPv hLv hf
      go_upto_region 6 with (fail)
      go_cut [6, 7] (fun x y wx => ∃ p q : Nat, x = .pointer (some ⟨p, 0, none⟩) ∧ y = .pointer (some ⟨q, 0, none⟩) ∧ wx.heap[p]? = some (.cells #[.string ia, .slice pa ps.length pc, .int .i64 ta, .int .i64 ea, .int .i64 na, .slice la ls.length lc] 42) ∧ wx.heap[q]? = some (.cells #[.string ia, .slice va ps.length vc, .int .i64 ta, .int .i64 ea, .int .i64 na, .slice wa ls.length wk] 42) ∧ Fr No wr wx)
      case first =>
        refine region_tree (From wr.heap.size) (.q 0 (.q 1 (.q 2 (.q 3 (.q 4 (.q 5 (.q 6 (.q 7 (.m2 8 (.m1 9 (.m1 10 (.m1 11 .fin))) 9 (.m1 8 (.m1 10 (.m1 11 .fin)))))))))))) _ (by kernel_rfl) (by kernel_rfl) (fun w0 hf0 => ?_) (fun _ _ h => h)
        have n1 : ¬ From wr.heap.size ub := by unfold From; omega
        have n2 : ¬ From wr.heap.size vb := by unfold From; omega
        have hs0 := hf0.size
        have g0 : ∀ g : Gr (From wr.heap.size) w0, g.W.cell? ⟨ub, uo + k * 6, none⟩ = some (.string ia) := fun g => g.fr.cell (hf0.cell u0 id) n1
        have g1 : ∀ g : Gr (From wr.heap.size) w0, g.W.cell? ⟨ub, uo + k * 6 + 1, none⟩ = some (.slice pa ps.length pc) := fun g => g.fr.cell (hf0.cell u1 id) n1
        have g2 : ∀ g : Gr (From wr.heap.size) w0, g.W.cell? ⟨ub, uo + k * 6 + 2, none⟩ = some (.int .i64 ta) := fun g => g.fr.cell (hf0.cell u2 id) n1
        have g3 : ∀ g : Gr (From wr.heap.size) w0, g.W.cell? ⟨ub, uo + k * 6 + 3, none⟩ = some (.int .i64 ea) := fun g => g.fr.cell (hf0.cell u3 id) n1
        have g4 : ∀ g : Gr (From wr.heap.size) w0, g.W.cell? ⟨ub, uo + k * 6 + 4, none⟩ = some (.int .i64 na) := fun g => g.fr.cell (hf0.cell u4 id) n1
        have g5 : ∀ g : Gr (From wr.heap.size) w0, g.W.cell? ⟨ub, uo + k * 6 + 5, none⟩ = some (.slice la ls.length lc) := fun g => g.fr.cell (hf0.cell u5 id) n1
        have h0 : ∀ g : Gr (From wr.heap.size) w0, g.W.cell? ⟨vb, vo + k * 6, none⟩ = some (.string ia) := fun g => g.fr.cell (hf0.cell v0 id) n2
        have h1 : ∀ g : Gr (From wr.heap.size) w0, g.W.cell? ⟨vb, vo + k * 6 + 1, none⟩ = some (.slice va ps.length vc) := fun g => g.fr.cell (hf0.cell v1 id) n2
        have h2 : ∀ g : Gr (From wr.heap.size) w0, g.W.cell? ⟨vb, vo + k * 6 + 2, none⟩ = some (.int .i64 ta) := fun g => g.fr.cell (hf0.cell v2 id) n2
        have h3 : ∀ g : Gr (From wr.heap.size) w0, g.W.cell? ⟨vb, vo + k * 6 + 3, none⟩ = some (.int .i64 ea) := fun g => g.fr.cell (hf0.cell v3 id) n2
        have h4 : ∀ g : Gr (From wr.heap.size) w0, g.W.cell? ⟨vb, vo + k * 6 + 4, none⟩ = some (.int .i64 na) := fun g => g.fr.cell (hf0.cell v4 id) n2
        have h5 : ∀ g : Gr (From wr.heap.size) w0, g.W.cell? ⟨vb, vo + k * 6 + 5, none⟩ = some (.slice wa ls.length wk) := fun g => g.fr.cell (hf0.cell v5 id) n2
        have Hf0 := Lib.hid hf0
        clear u0 u1 u2 u3 u4 u5 v0 v1 v2 v3 v4 v5 hf0
        repeat (apply tree_q; exact rfl; exact rfl; exact rfl; intro K hK; go_big_quiet_op; go_big_quiet_on)
        clear g0 g1 g2 g3 g4 g5 h0 h1 h2 h3 h4 h5
        refine tree_m2 rfl rfl ?_ ?_
        · skip
          go_wp2_with fail
          have hX1 : Fr No w0 (w0.alloc (.cells #[.string ⟨#[]⟩, .slice none 0 0, .int .i64 0, .int .i64 0, .int .i64 0, .slice none 0 0] 42)) := (Fr.refl _ _).alloc _
          have qu1 := block_alloc w0 (.cells #[.string ⟨#[]⟩, .slice none 0 0, .int .i64 0, .int .i64 0, .int .i64 0, .slice none 0 0] 42)
          refine OnlyN.mk ⟨(Fr.refl _ _).alloc _, ?_⟩
          generalize w0.alloc (.cells #[.string ⟨#[]⟩, .slice none 0 0, .int .i64 0, .int .i64 0, .int .i64 0, .slice none 0 0] 42) = X1 at *
          have hs1 := lt_of_block qu1
          refine tree_m1 rfl ?_
          go_wp2_with fail
          have hX2 : Fr No X1 (X1.alloc (.cells #[.string ⟨#[]⟩, .slice none 0 0, .int .i64 0, .int .i64 0, .int .i64 0, .slice none 0 0] 42)) := (Fr.refl _ _).alloc _
          have qv2 := block_alloc X1 (.cells #[.string ⟨#[]⟩, .slice none 0 0, .int .i64 0, .int .i64 0, .int .i64 0, .slice none 0 0] 42)
          have qu2 := hX2.heap qu1 id
          refine OnlyN.mk ⟨(Fr.refl _ _).alloc _, ?_⟩
          generalize X1.alloc (.cells #[.string ⟨#[]⟩, .slice none 0 0, .int .i64 0, .int .i64 0, .int .i64 0, .slice none 0 0] 42) = X2 at *
          refine tree_m1 rfl ?_
          have z0 : X2.cell? ⟨w0.heap.size, 0, none⟩ = some (.string ⟨#[]⟩) := cell_of_block qu2 0
          have y0 : X2.frozen? ⟨w0.heap.size, 0, none⟩ = false := free_of_block qu2 0
          have z1 : X2.cell? ⟨w0.heap.size, 1, none⟩ = some (.slice none 0 0) := cell_of_block qu2 1
          have y1 : X2.frozen? ⟨w0.heap.size, 1, none⟩ = false := free_of_block qu2 1
          have z2 : X2.cell? ⟨w0.heap.size, 2, none⟩ = some (.int .i64 0) := cell_of_block qu2 2
          have y2 : X2.frozen? ⟨w0.heap.size, 2, none⟩ = false := free_of_block qu2 2
          have z3 : X2.cell? ⟨w0.heap.size, 3, none⟩ = some (.int .i64 0) := cell_of_block qu2 3
          have y3 : X2.frozen? ⟨w0.heap.size, 3, none⟩ = false := free_of_block qu2 3
          have z4 : X2.cell? ⟨w0.heap.size, 4, none⟩ = some (.int .i64 0) := cell_of_block qu2 4
          have y4 : X2.frozen? ⟨w0.heap.size, 4, none⟩ = false := free_of_block qu2 4
          have z5 : X2.cell? ⟨w0.heap.size, 5, none⟩ = some (.slice none 0 0) := cell_of_block qu2 5
          have y5 : X2.frozen? ⟨w0.heap.size, 5, none⟩ = false := free_of_block qu2 5
          have h6 := set6 qu2 rfl (.string ia) (.slice pa ps.length pc) (.int .i64 ta) (.int .i64 ea) (.int .i64 na) (.slice la ls.length lc)
          have H6 := Lib.hid h6
          have Hq := Lib.hid qv2
          clear h6 qu2 qv2
          go_wp2_with fail
          refine OnlyN.mk ⟨H6.out.2.mono (fun b _ h => by unfold Is at h; unfold From; omega), ?_⟩
          clear z0 z1 z2 z3 z4 z5 y0 y1 y2 y3 y4 y5
          have qu3 := H6.out.1
          have qv3 := H6.out.2.heap Hq.out (by show ¬ (X1.heap.size = w0.heap.size); omega)
          have hX3 := H6.out.2
          clear H6 Hq
          generalize ((((((X2.setCell ⟨w0.heap.size, 0, none⟩ (.string ia)).setCell ⟨w0.heap.size, 1, none⟩ (.slice pa ps.length pc)).setCell ⟨w0.heap.size, 2, none⟩ (.int .i64 ta)).setCell ⟨w0.heap.size, 3, none⟩ (.int .i64 ea)).setCell ⟨w0.heap.size, 4, none⟩ (.int .i64 na)).setCell ⟨w0.heap.size, 5, none⟩ (.slice la ls.length lc)) = X3 at *
          refine tree_m1 rfl ?_
          have z0 : X3.cell? ⟨X1.heap.size, 0, none⟩ = some (.string ⟨#[]⟩) := cell_of_block qv3 0
          have y0 : X3.frozen? ⟨X1.heap.size, 0, none⟩ = false := free_of_block qv3 0
          have z1 : X3.cell? ⟨X1.heap.size, 1, none⟩ = some (.slice none 0 0) := cell_of_block qv3 1
          have y1 : X3.frozen? ⟨X1.heap.size, 1, none⟩ = false := free_of_block qv3 1
          have z2 : X3.cell? ⟨X1.heap.size, 2, none⟩ = some (.int .i64 0) := cell_of_block qv3 2
          have y2 : X3.frozen? ⟨X1.heap.size, 2, none⟩ = false := free_of_block qv3 2
          have z3 : X3.cell? ⟨X1.heap.size, 3, none⟩ = some (.int .i64 0) := cell_of_block qv3 3
          have y3 : X3.frozen? ⟨X1.heap.size, 3, none⟩ = false := free_of_block qv3 3
          have z4 : X3.cell? ⟨X1.heap.size, 4, none⟩ = some (.int .i64 0) := cell_of_block qv3 4
          have y4 : X3.frozen? ⟨X1.heap.size, 4, none⟩ = false := free_of_block qv3 4
          have z5 : X3.cell? ⟨X1.heap.size, 5, none⟩ = some (.slice none 0 0) := cell_of_block qv3 5
          have y5 : X3.frozen? ⟨X1.heap.size, 5, none⟩ = false := free_of_block qv3 5
          have h6 := set6 qv3 rfl (.string ia) (.slice va ps.length vc) (.int .i64 ta) (.int .i64 ea) (.int .i64 na) (.slice wa ls.length wk)
          have H6 := Lib.hid h6
          have Hq := Lib.hid qu3
          clear h6 qv3 qu3
          go_wp2_with fail
          refine OnlyN.mk ⟨H6.out.2.mono (fun b _ h => by unfold Is at h; unfold From; omega), ?_⟩
          clear z0 z1 z2 z3 z4 z5 y0 y1 y2 y3 y4 y5
          refine tree_end ?_
          go_wp2_with fail
          go_meet
          exact ⟨w0.heap.size, X1.heap.size, rfl, rfl, H6.out.2.heap Hq.out (by show ¬ (w0.heap.size = X1.heap.size); omega), H6.out.1, Hf0.out.step (((hX1.step hX2 (fun _ _ h => h)).step hX3 (fun b hb h => by unfold Is at h; have := hX1.size; omega)).step H6.out.2 (fun b hb h => by unfold Is at h; have := hX1.size; omega)) (fun _ _ h => h)⟩
        · skip
          go_wp2_with fail
          have hX1 : Fr No w0 (w0.alloc (.cells #[.string ⟨#[]⟩, .slice none 0 0, .int .i64 0, .int .i64 0, .int .i64 0, .slice none 0 0] 42)) := (Fr.refl _ _).alloc _
          have qv1 := block_alloc w0 (.cells #[.string ⟨#[]⟩, .slice none 0 0, .int .i64 0, .int .i64 0, .int .i64 0, .slice none 0 0] 42)
          refine OnlyN.mk ⟨(Fr.refl _ _).alloc _, ?_⟩
          generalize w0.alloc (.cells #[.string ⟨#[]⟩, .slice none 0 0, .int .i64 0, .int .i64 0, .int .i64 0, .slice none 0 0] 42) = X1 at *
          have hs1 := lt_of_block qv1
          refine tree_m1 rfl ?_
          go_wp2_with fail
          have hX2 : Fr No X1 (X1.alloc (.cells #[.string ⟨#[]⟩, .slice none 0 0, .int .i64 0, .int .i64 0, .int .i64 0, .slice none 0 0] 42)) := (Fr.refl _ _).alloc _
          have qu2 := block_alloc X1 (.cells #[.string ⟨#[]⟩, .slice none 0 0, .int .i64 0, .int .i64 0, .int .i64 0, .slice none 0 0] 42)
          have qv2 := hX2.heap qv1 id
          refine OnlyN.mk ⟨(Fr.refl _ _).alloc _, ?_⟩
          generalize X1.alloc (.cells #[.string ⟨#[]⟩, .slice none 0 0, .int .i64 0, .int .i64 0, .int .i64 0, .slice none 0 0] 42) = X2 at *
          refine tree_m1 rfl ?_
          have z0 : X2.cell? ⟨X1.heap.size, 0, none⟩ = some (.string ⟨#[]⟩) := cell_of_block qu2 0
          have y0 : X2.frozen? ⟨X1.heap.size, 0, none⟩ = false := free_of_block qu2 0
          have z1 : X2.cell? ⟨X1.heap.size, 1, none⟩ = some (.slice none 0 0) := cell_of_block qu2 1
          have y1 : X2.frozen? ⟨X1.heap.size, 1, none⟩ = false := free_of_block qu2 1
          have z2 : X2.cell? ⟨X1.heap.size, 2, none⟩ = some (.int .i64 0) := cell_of_block qu2 2
          have y2 : X2.frozen? ⟨X1.heap.size, 2, none⟩ = false := free_of_block qu2 2
          have z3 : X2.cell? ⟨X1.heap.size, 3, none⟩ = some (.int .i64 0) := cell_of_block qu2 3
          have y3 : X2.frozen? ⟨X1.heap.size, 3, none⟩ = false := free_of_block qu2 3
          have z4 : X2.cell? ⟨X1.heap.size, 4, none⟩ = some (.int .i64 0) := cell_of_block qu2 4
          have y4 : X2.frozen? ⟨X1.heap.size, 4, none⟩ = false := free_of_block qu2 4
          have z5 : X2.cell? ⟨X1.heap.size, 5, none⟩ = some (.slice none 0 0) := cell_of_block qu2 5
          have y5 : X2.frozen? ⟨X1.heap.size, 5, none⟩ = false := free_of_block qu2 5
          have h6 := set6 qu2 rfl (.string ia) (.slice pa ps.length pc) (.int .i64 ta) (.int .i64 ea) (.int .i64 na) (.slice la ls.length lc)
          have H6 := Lib.hid h6
          have Hq := Lib.hid qv2
          clear h6 qu2 qv2
          go_wp2_with fail
          refine OnlyN.mk ⟨H6.out.2.mono (fun b _ h => by unfold Is at h; unfold From; omega), ?_⟩
          clear z0 z1 z2 z3 z4 z5 y0 y1 y2 y3 y4 y5
          have qu3 := H6.out.1
          have qv3 := H6.out.2.heap Hq.out (by show ¬ (w0.heap.size = X1.heap.size); omega)
          have hX3 := H6.out.2
          clear H6 Hq
          generalize ((((((X2.setCell ⟨X1.heap.size, 0, none⟩ (.string ia)).setCell ⟨X1.heap.size, 1, none⟩ (.slice pa ps.length pc)).setCell ⟨X1.heap.size, 2, none⟩ (.int .i64 ta)).setCell ⟨X1.heap.size, 3, none⟩ (.int .i64 ea)).setCell ⟨X1.heap.size, 4, none⟩ (.int .i64 na)).setCell ⟨X1.heap.size, 5, none⟩ (.slice la ls.length lc)) = X3 at *
          refine tree_m1 rfl ?_
          have z0 : X3.cell? ⟨w0.heap.size, 0, none⟩ = some (.string ⟨#[]⟩) := cell_of_block qv3 0
          have y0 : X3.frozen? ⟨w0.heap.size, 0, none⟩ = false := free_of_block qv3 0
          have z1 : X3.cell? ⟨w0.heap.size, 1, none⟩ = some (.slice none 0 0) := cell_of_block qv3 1
          have y1 : X3.frozen? ⟨w0.heap.size, 1, none⟩ = false := free_of_block qv3 1
          have z2 : X3.cell? ⟨w0.heap.size, 2, none⟩ = some (.int .i64 0) := cell_of_block qv3 2
          have y2 : X3.frozen? ⟨w0.heap.size, 2, none⟩ = false := free_of_block qv3 2
          have z3 : X3.cell? ⟨w0.heap.size, 3, none⟩ = some (.int .i64 0) := cell_of_block qv3 3
          have y3 : X3.frozen? ⟨w0.heap.size, 3, none⟩ = false := free_of_block qv3 3
          have z4 : X3.cell? ⟨w0.heap.size, 4, none⟩ = some (.int .i64 0) := cell_of_block qv3 4
          have y4 : X3.frozen? ⟨w0.heap.size, 4, none⟩ = false := free_of_block qv3 4
          have z5 : X3.cell? ⟨w0.heap.size, 5, none⟩ = some (.slice none 0 0) := cell_of_block qv3 5
          have y5 : X3.frozen? ⟨w0.heap.size, 5, none⟩ = false := free_of_block qv3 5
          have h6 := set6 qv3 rfl (.string ia) (.slice va ps.length vc) (.int .i64 ta) (.int .i64 ea) (.int .i64 na) (.slice wa ls.length wk)
          have H6 := Lib.hid h6
          have Hq := Lib.hid qu3
          clear h6 qv3 qu3
          go_wp2_with fail
          refine OnlyN.mk ⟨H6.out.2.mono (fun b _ h => by unfold Is at h; unfold From; omega), ?_⟩
          clear z0 z1 z2 z3 z4 z5 y0 y1 y2 y3 y4 y5
          refine tree_end ?_
          go_wp2_with fail
          go_meet
          exact ⟨X1.heap.size, w0.heap.size, rfl, rfl, H6.out.2.heap Hq.out (by show ¬ (X1.heap.size = w0.heap.size); omega), H6.out.1, Hf0.out.step (((hX1.step hX2 (fun _ _ h => h)).step hX3 (fun b hb h => by unfold Is at h; have := hX1.size; omega)).step H6.out.2 (fun b hb h => by unfold Is at h; have := hX1.size; omega)) (fun _ _ h => h)⟩
      case rest =>
        obtain ⟨p, q, rfl, rfl, qp, qq, hfx⟩ := hcut
        have x0 : wc.cell? ⟨p, 0, none⟩ = some (.string ia) := cell_of_block qp 0
        have x1 : wc.cell? ⟨p, 1, none⟩ = some (.slice pa ps.length pc) := cell_of_block qp 1
        have y0 : wc.cell? ⟨q, 0, none⟩ = some (.string ia) := cell_of_block qq 0
        have y1 : wc.cell? ⟨q, 1, none⟩ = some (.slice va ps.length vc) := cell_of_block qq 1
        have Hfx := Lib.hid (Hf.out.step hfx (fun _ _ h => h))
        have h1 := same_texts pa va pc vc ps ps wc (Hu.out.1.no hfx (fun _ => id)) (Hu.out.2.2.1.no hfx (fun _ => id))
        rw [sameT_id] at h1
        have hLu' := Hu.out.2.1.no hfx (fun _ => id)
        have hLv' := Hu.out.2.2.2.no hfx (fun _ => id)
        clear hfx u0 u1 u2 u3 u4 u5 v0 v1 v2 v3 v4 v5
        go_wp2_with fail
        refine h1.mono ?_
        rintro en w5 ⟨rfl, hf5⟩
        have qp5 := hf5.heap qp id
        have qq5 := hf5.heap qq id
        clear x0 x1 y0 y1
        have x2 : w5.cell? ⟨p, 2, none⟩ = some (.int .i64 ta) := cell_of_block qp5 2
        have x3 : w5.cell? ⟨p, 3, none⟩ = some (.int .i64 ea) := cell_of_block qp5 3
        have x4 : w5.cell? ⟨p, 4, none⟩ = some (.int .i64 na) := cell_of_block qp5 4
        have x5 : w5.cell? ⟨p, 5, none⟩ = some (.slice la ls.length lc) := cell_of_block qp5 5
        have y2 : w5.cell? ⟨q, 2, none⟩ = some (.int .i64 ta) := cell_of_block qq5 2
        have y3 : w5.cell? ⟨q, 3, none⟩ = some (.int .i64 ea) := cell_of_block qq5 3
        have y4 : w5.cell? ⟨q, 4, none⟩ = some (.int .i64 na) := cell_of_block qq5 4
        have y5 : w5.cell? ⟨q, 5, none⟩ = some (.slice wa ls.length wk) := cell_of_block qq5 5
        have h2 := same_texts la wa lc wk ls ls w5 (hLu'.no hf5 (fun _ => id)) (hLv'.no hf5 (fun _ => id))
        rw [sameT_id] at h2
        have Hf5 := Lib.hid (Hfx.out.step hf5 (fun _ _ h => h))
        clear h1 hf5 hLu' hLv' qp qq qp5 qq5
        go_wp2_with fail
        refine h2.mono ?_
        rintro en w6 ⟨rfl, hf6⟩
        have Hf6 := Lib.hid (Hf5.out.step hf6 (fun _ _ h => h))
        clear h2 hf6 x2 x3 x4 x5 y2 y3 y4 y5
        go_wp2_with fail
        go_roundw
        case rel => exact ⟨k + 1, by omega, by go_num, Hf6.out⟩
        case measure => simp [intOf]; omega
    · obtain rfl : k = O.length := by omega
      go_wp2_with fail
      go_ret
      exact ⟨rfl, hf⟩
end Go.Proofs.YtbblkknndaoefaaGreatDoor
namespace Go.Proofs.YtbblkknndaoefaaGreatDoor
open Go.RowKit Go.Maps
set_option linter.unusedVariables false

theorem mflat_get : ∀ (L : List Mem) (j : Nat) (u : Value), (mflat L)[j]? = some u → ∃ m, L[j / 7]? = some m ∧ m.vals[j % 7]? = some u
  | [], j, u, h => by simp [mflat] at h
  | x :: t, j, u, h => by
    have e : mflat (x :: t) = x.vals.toList ++ mflat t := by simp [mflat]
    have hl : x.vals.toList.length = 7 := by simp [Mem.vals]
    rw [e] at h
    by_cases hj : j < 7
    · rw [List.getElem?_append_left (by omega)] at h
      refine ⟨x, by rw [show j / 7 = 0 by omega]; rfl, ?_⟩
      rw [show j % 7 = j by omega, ← Array.getElem?_toList]; exact h
    · rw [List.getElem?_append_right (by omega), hl] at h
      obtain ⟨m, h1, h2⟩ := mflat_get t (j - 7) u h
      refine ⟨m, ?_, ?_⟩
      · rw [show j / 7 = (j - 7) / 7 + 1 by omega]; simpa using h1
      · rw [show j % 7 = (j - 7) % 7 by omega]; exact h2
theorem mflat_append (L M : List Mem) : mflat (L ++ M) = mflat L ++ mflat M := by simp [mflat]
theorem mflat_one (L : List Mem) : ∀ u ∈ mflat L, u.oneCell' = true := by
  intro u hu
  obtain ⟨m, _, h⟩ := List.mem_flatMap.1 hu
  exact mvals_one m u h
/-- The cells of a slice of members, from the n-th on. -/
theorem Mems.src {w : World} {a : Option Addr} {cap : Nat} {L : List Mem} (h : Mems w a cap L) (n : Nat) : ∀ ad, a = some ad → ∀ j u, (mflat (L.drop n))[j]? = some u → w.cell? ⟨ad.block, ad.off + n * 7 + j, none⟩ = some u := by
  intro ad e j u hu
  obtain ⟨m, h1, h2⟩ := mflat_get _ _ _ hu
  rw [List.getElem?_drop] at h1
  obtain ⟨_, _, h3⟩ := h.cell ad e (by intro e; subst e; simp at h1)
  have h4 := h3 (n + j / 7) m h1 (j % 7) (by omega)
  rw [← h2, ← h4]
  congr 2
  omega
theorem Mems.srcT {w : World} {a : Option Addr} {cap : Nat} {L : List Mem} (h : Mems w a cap L) (n : Nat) : ∀ ad, a = some ad → ∀ j u, (mflat (L.take n))[j]? = some u → w.cell? ⟨ad.block, ad.off + j, none⟩ = some u := by
  intro ad e j u hu
  obtain ⟨m, h1, h2⟩ := mflat_get _ _ _ hu
  have h1' : L[j / 7]? = some m := by
    rw [List.getElem?_take] at h1
    split at h1
    · exact h1
    · cases h1
  obtain ⟨_, _, h3⟩ := h.cell ad e (by intro e; subst e; simp at h1')
  have h4 := h3 (j / 7) m h1' (j % 7) (by omega)
  rw [← h2, ← h4]
  congr 2
  omega

theorem Mems.from_if {w : World} {a : Option Addr} {cap : Nat} {L : List Mem} (h : Mems w a cap L) (n : Nat) (hn : n ≤ L.length) :
    (∀ ad, (if cap = n then a else Option.map (fun x => x.add (n * 7)) a) = some ad → ∀ j u, (mflat (L.drop n))[j]? = some u → w.cell? (ad.add j) = some u) ∧
    ((if cap = n then a else Option.map (fun x => x.add (n * 7)) a) = none → L.length - n = 0 ∧ cap - n = 0) := by
  have hl := h.len
  constructor
  · intro ad e j u hu
    have hne : L ≠ [] := by intro e; subst e; simp [mflat] at hu
    split at e
    · rename_i hc
      have : L.drop n = [] := List.drop_eq_nil_of_le (by omega)
      rw [this] at hu
      simp [mflat] at hu
    · obtain ⟨ad', e', rfl⟩ := Option.map_eq_some_iff.1 e
      have hsp := (h.cell ad' e' hne).1
      have h1 := h.src n ad' e' j u hu
      obtain ⟨b, o, sp⟩ := ad'
      simp only at hsp h1
      subst hsp
      rw [Addr.add_lit, Addr.add_lit]
      exact h1
  · intro e
    split at e
    · rename_i hc
      obtain ⟨h1, h2⟩ := h.isNil e
      rw [h1]; simp; omega
    · obtain ⟨h1, h2⟩ := h.isNil (Option.map_eq_none_iff.1 e)
      rw [h1]; simp; omega
theorem Mems.upto {w : World} {a : Option Addr} {cap : Nat} {L : List Mem} (h : Mems w a cap L) (n : Nat) (hn : n ≤ L.length) :
    (∀ ad, a = some ad → ∀ j u, (mflat (L.take n))[j]? = some u → w.cell? (ad.add j) = some u) ∧ (a = none → n = 0 ∧ cap = 0) := by
  constructor
  · intro ad e j u hu
    have hne : L ≠ [] := by intro e; subst e; simp [mflat] at hu
    have hsp := (h.cell ad e hne).1
    have h1 := h.srcT n ad e j u hu
    obtain ⟨b, o, sp⟩ := ad
    simp only at hsp h1
    subst hsp
    rw [Addr.add_lit]
    exact h1
  · intro e
    obtain ⟨h1, h2⟩ := h.isNil e
    rw [h1] at hn
    exact ⟨by simpa using hn, h2⟩

/-- Different paths. -/
def Diff (L : List Mem) : Prop := L.Pairwise (fun m o => m.p ≠ o.p)
theorem diff_turn {L : List Mem} (h : Diff L) (n : Nat) : Diff (L.drop n ++ L.take n) := by
  have hp : (L.take n ++ L.drop n).Perm (L.drop n ++ L.take n) := List.perm_append_comm
  rw [List.take_append_drop] at hp
  exact hp.pairwise h (fun h => Ne.symm h)
theorem turn_mem (L : List Mem) (n : Nat) (m : Mem) : m ∈ L ↔ m ∈ L.drop n ++ L.take n := by
  have hp : (L.take n ++ L.drop n).Perm (L.drop n ++ L.take n) := List.perm_append_comm
  rw [List.take_append_drop] at hp
  exact hp.mem_iff
theorem diff_of {L : List Mem} (h : ∀ (i j : Nat) (m o : Mem), j < i → L[i]? = some m → L[j]? = some o → m.p ≠ o.p) : Diff L := by
  unfold Diff
  rw [List.pairwise_iff_getElem]
  intro i j hi hj hij
  exact Ne.symm (h j i _ _ hij (List.getElem?_eq_getElem hj) (List.getElem?_eq_getElem hi))
end Go.Proofs.YtbblkknndaoefaaGreatDoor
namespace Go.Proofs.YtbblkknndaoefaaGreatDoor
open Go
variable {H : Type} {enc : TypeId × Value → H}

/-- As the library's wrap with a condition beside it; the contract is told the world's shape too. -/
theorem returns_laid_shaped {a : Assume} {C : Checked} {os : Os} {f : FuncId} {fn : Func} {s : ChangeSpec} {conds : List PathCond} {apart fresh handsOn again : Bool} {X : World → Array Value → Prop}
    (hX : ∀ (w w' : World) (args : Array Value), w.heap = w'.heap → X w args → X w' args)
    (own : ownKnob C.prog.godebug = none) (started : os.Started) (noInit : C.prog.inits.idxOf? f = none) (hfn : C.prog.funcs[f]? = some fn)
    (witness : ∃ (w : World) (tape : Go.Tape) (i : Input), w.os = os ∧ (w.forCall tape i).Shaped C.prog ∧ i.vars = [] ∧ Input.okWide C.prog (w.forCall tape i) .any w.heap.size f i ∧
      ((s.pre enc C.prog fn conds apart (w.forCall tape i).memory i.args ∧ X (w.forCall tape i).memory i.args) ∧ sizedMet enc C.prog fn (OpenSpec.ofChange s) apart (w.forCall tape i).memory i.args) ∧ a.holds C.prog (lone (Frame.enter C.prog f i.args .normal) [] (w.forCall tape i)))
    (contract : ∀ (W : World) (base : Nat) (args : Array Value) (ds gs : List (DataW H)) (before : List MemPlace),
      (∀ (j : Nat) t v, fn.params[j]? = some t → args[j]? = some v → Value.okWide C.prog W .any base t v) →
      DataW.Whole enc C.prog fn.params.toList s.vars apart W args.toList ds gs before →
      X W args → W.ShapedOpen C.prog →
      Calls C.prog f args W fun e W' => ∃ v, e = .returned v ∧ s.post enc C.prog fn apart fresh handsOn again W args v W') :
    ReturnsInHanded a C os f .any (fun w args => (s.pre enc C.prog fn conds apart w args ∧ X w args) ∧ sizedMet enc C.prog fn (OpenSpec.ofChange s) apart w args) (s.post enc C.prog fn apart fresh handsOn again) := by
  refine returnsInHanded_of_calls own started noInit witness ?_
  intro w tape i _ hsh _ hok hpre hholds
  obtain ⟨_, _, _, fn', hfn', _, _, _, _, hval⟩ := hok
  have e : fn' = fn := Option.some.inj (hfn'.symm.trans hfn)
  subst e
  obtain ⟨⟨⟨ds, gs, before, hw, hc⟩, hx⟩, hz⟩ := hpre
  have hw' := DataW.Whole.of_heap (w' := w.forCall tape i) (by rfl) hw
  refine (contract (w.forCall tape i) w.heap.size i.args ds gs before hval hw' (hX _ _ _ (by rfl) hx) hsh).mono fun e W' ⟨v, he, hp⟩ => ?_
  subst he
  exact ChangeSpec.post_blind hp
end Go.Proofs.YtbblkknndaoefaaGreatDoor
namespace Go.Proofs.YtbblkknndaoefaaGreatDoor
open Go.ChangeShapes Go.WideShapes Go.RowKit
set_option linter.unusedVariables false

theorem gES : Tryz.prog.globalNamed "strconv.ErrSyntax" = some 3 := by kernel_rfl
theorem gESType : (Tryz.prog.globals[3]?).map (·.type) = some 167 := by kernel_rfl
theorem gER : Tryz.prog.globalNamed "strconv.ErrRange" = some 4 := by kernel_rfl
theorem gERType : (Tryz.prog.globals[4]?).map (·.type) = some 167 := by kernel_rfl
theorem cellsE : Tryz.prog.cellsOf 267 = 1 := by kernel_rfl
theorem cellsS : Tryz.prog.cellsOf 9 = 1 := by kernel_rfl
theorem starE : "*" ++ "errors.errorString" = "*errors.errorString" := by decide
theorem rowE (u : TypeId) (h : Tryz.prog.typeName? 3 u = some "*errors.errorString") : u = 265 :=
  typeName_ptr_named (nm := "errors.errorString") (by rw [starE]; kernel_rfl) (by kernel_rfl) (by decide) u (by rw [starE]; exact h)
theorem gPow : Tryz.prog.globalNamed "internal/strconv.uint64pow10" = some 0 := by kernel_rfl
theorem gPowType : (Tryz.prog.globals[0]?).map (·.type) = some 212 := by kernel_rfl
theorem gAcc : Tryz.prog.globalNamed "unicode/utf8.acceptRanges" = some 8 := by kernel_rfl
theorem cellsU : Tryz.prog.cellsOf 176 = 1 := by kernel_rfl
theorem cellsP : Tryz.prog.cellsOf 212 = 20 := by kernel_rfl
theorem laid_lt {P : Program} {n : String} {d : DataW Unit} {r : List (String × DataW Unit)} {W : World} {g : Nat} (h : laidMet P ((n, d) :: r) W) (hg : P.globalNamed n = some g) : g < W.heap.size := by
  obtain ⟨ps, ⟨g0, t0, cs0, f0, p0, q0, hg0, ht0, hv0, _⟩, _⟩ := h
  unfold World.var? at hv0
  rw [hg] at hv0
  simp only [Option.bind_some] at hv0
  cases hh : W.heap[g]? with
  | none => simp [hh] at hv0
  | some o => exact (Array.getElem?_eq_some_iff.1 hh).1

theorem env_of {W : World} (hsh : W.ShapedOpen Tryz.prog) (hL : laidMet Tryz.prog Rows.cryptOwnersRow.laid W) : Env W := by
  obtain ⟨m, hm⟩ := cell_of_shapedOpen_int (P := Tryz.prog) (g := 1) (t := 3) (zero := #[.int .i64 0]) hsh (of_decide_eq_true (by kernel_rfl)) (by kernel_rfl) rfl (by kernel_rfl) (by kernel_rfl) Tryz.underlying3
  have hLr := hL.tail.tail.tail.tail
  have hA := laid_lt hL.tail.tail.tail gAcc
  obtain ⟨ar, sr, hvr, -, -, -⟩ := laid_sentinel hLr gER gERType Tryz.underlying167 rowE Tryz.underlying265 Tryz.underlying267 rfl rfl Tryz.underlying9 cellsE cellsS
  obtain ⟨asx, ssx, hvs, -, -, -⟩ := laid_sentinel hLr.tail gES gESType Tryz.underlying167 rowE Tryz.underlying265 Tryz.underlying267 rfl rfl Tryz.underlying9 cellsE cellsS
  have c5 : W.cell? ⟨3, 0, none⟩ = some (.iface 265 (.pointer (some asx))) := by have h0 := World.var?_cell gES hvs 0; simpa using h0
  have c6 : W.cell? ⟨4, 0, none⟩ = some (.iface 265 (.pointer (some ar))) := by have h0 := World.var?_cell gER hvr 0; simpa using h0
  exact ⟨⟨m, hm⟩, ⟨⟨_, c5, .inr ⟨_, _, rfl⟩⟩, ⟨_, c6, .inr ⟨_, _, rfl⟩⟩⟩, Lib.tabIs_of_head gPow gPowType Tryz.underlying212 Tryz.underlying176 cellsU cellsP hL.tail.tail, hA⟩
end Go.Proofs.YtbblkknndaoefaaGreatDoor
namespace Go.Proofs.YtbblkknndaoefaaGreatDoor
open Go
variable {H : Type} {enc : TypeId × Value → H}

/-- As the library's wrap; the contract is told the laid variables, the world's shape and the size bound of the arguments. -/
theorem returns_laid_sized {a : Assume} {C : Checked} {os : Os} {f : FuncId} {fn : Func} {s : ChangeSpec} {conds : List PathCond} {apart fresh handsOn again : Bool} {X : World → Array Value → Prop}
    (hX : ∀ (w w' : World) (args : Array Value), w.heap = w'.heap → X w args → X w' args)
    (own : ownKnob C.prog.godebug = none) (started : os.Started) (noInit : C.prog.inits.idxOf? f = none) (hfn : C.prog.funcs[f]? = some fn)
    (witness : ∃ (w : World) (tape : Go.Tape) (i : Input), w.os = os ∧ (w.forCall tape i).Shaped C.prog ∧ i.vars = [] ∧ Input.okWide C.prog (w.forCall tape i) .any w.heap.size f i ∧
      ((s.pre enc C.prog fn conds apart (w.forCall tape i).memory i.args ∧ X (w.forCall tape i).memory i.args) ∧ sizedMet enc C.prog fn (OpenSpec.ofChange s) apart (w.forCall tape i).memory i.args) ∧ a.holds C.prog (lone (Frame.enter C.prog f i.args .normal) [] (w.forCall tape i)))
    (contract : ∀ (W : World) (base : Nat) (args : Array Value) (ds2 gs2 : List (DataW H)) (before2 : List MemPlace),
      (∀ (j : Nat) t v, fn.params[j]? = some t → args[j]? = some v → Value.okWide C.prog W .any base t v) →
      DataW.Whole enc C.prog fn.params.toList s.vars apart W args.toList ds2 gs2 before2 →
      (DataW.weightsEach C.prog (fn.params.toList ++ (OpenSpec.ofChange s).bare.plain.varTypes C.prog) (ds2 ++ gs2)).all (· ≤ reachBytes) = true →
      X W args → W.ShapedOpen C.prog →
      Calls C.prog f args W fun e W' => ∃ v, e = .returned v ∧ s.post enc C.prog fn apart fresh handsOn again W args v W') :
    ReturnsInHanded a C os f .any (fun w args => (s.pre enc C.prog fn conds apart w args ∧ X w args) ∧ sizedMet enc C.prog fn (OpenSpec.ofChange s) apart w args) (s.post enc C.prog fn apart fresh handsOn again) := by
  refine returnsInHanded_of_calls own started noInit witness ?_
  intro w tape i _ hsh _ hok hpre hholds
  obtain ⟨_, _, _, fn', hfn', _, _, _, _, hval⟩ := hok
  have e : fn' = fn := Option.some.inj (hfn'.symm.trans hfn)
  subst e
  obtain ⟨⟨⟨ds, gs, before, hw, hc⟩, hx⟩, _, ds2, gs2, before2, hw2, hz⟩ := hpre
  have hw2' := DataW.Whole.of_heap (w' := w.forCall tape i) (by rfl) hw2
  refine (contract (w.forCall tape i) w.heap.size i.args ds2 gs2 before2 hval hw2' hz (hX _ _ _ (by rfl) hx) hsh).mono fun e W' ⟨v, he, hp⟩ => ?_
  subst he
  exact ChangeSpec.post_blind hp
end Go.Proofs.YtbblkknndaoefaaGreatDoor
namespace Go.Proofs.YtbblkknndaoefaaGreatDoor
open Go.RowKit Go.Maps Go.ChangeShapes
set_option linter.unusedVariables false

section
variable {H : Type} {enc : TypeId × Value → H} {w : World} {base : Nat} {spare : Nat → Bool} {held : Bool}
set_option maxRecDepth 100000 in
theorem structArr : ∃ f0 f1 f2 f3 f4 f5 : Field, Tryz.prog.underlying 42 = some (.struct #[f0, f1, f2, f3, f4, f5]) ∧ (f0.offset = 0 ∧ f0.type = 9) ∧ (f1.offset = 1 ∧ f1.type = 33) ∧ (f2.offset = 2 ∧ f2.type = 3) ∧ (f3.offset = 3 ∧ f3.type = 3) ∧ (f4.offset = 4 ∧ f4.type = 3) ∧ (f5.offset = 5 ∧ f5.type = 33) :=
  ⟨_, _, _, _, _, _, Tryz.underlying42, ⟨rfl, rfl⟩, ⟨rfl, rfl⟩, ⟨rfl, rfl⟩, ⟨rfl, rfl⟩, ⟨rfl, rfl⟩, ⟨rfl, rfl⟩⟩
/-- The bounds of an array that came in. -/
structure ArrIn (m : ArrM) : Prop where
  i : m.i.size ≤ reachBytes
  ps : StrsIn m.ps
  t : (Lit.int .i64 m.t).wf = true
  e : (Lit.int .i64 m.e).wf = true
  n : (Lit.int .i64 m.n).wf = true
  l : StrsIn m.l
set_option maxRecDepth 100000 in
theorem open_arr_raw {fuel : Nat} {cs : List Value} {x : DataW H × List MemPlace} (h : DataW.trod enc Tryz.prog w base spare held fuel 42 cs = some x) (hz : Wt 42 x.1) :
    ∃ m : ArrM, cs = m.vals.toList ∧ (Strs w m.pa m.pc m.ps ∧ Strs w m.la m.lc m.l) ∧ ArrIn m := by
  obtain ⟨f0, f1, f2, f3, f4, f5, hu, ⟨o0, t0⟩, ⟨o1, t1⟩, ⟨o2, t2⟩, ⟨o3, t3⟩, ⟨o4, t4⟩, ⟨o5, t5⟩⟩ := structArr
  obtain ⟨xs, k, hk, hxy, hlen, hxl, hf⟩ := DataW.trod_struct hu h
  have hc : Tryz.prog.cellsOf 42 = 6 := by kernel_rfl
  have hcs : Tryz.prog.cellsOf 9 = 1 := by kernel_rfl
  have hci : Tryz.prog.cellsOf 3 = 1 := by kernel_rfl
  have hcl : Tryz.prog.cellsOf 33 = 1 := by kernel_rfl
  rw [hc] at hlen
  match xs, hxl, cs, hlen with
  | [y0, y1, y2, y3, y4, y5], _, [v0, v1, v2, v3, v4, v5], _ =>
    have g0 := hf 0 f0 rfl
    have g1 := hf 1 f1 rfl
    have g2 := hf 2 f2 rfl
    have g3 := hf 3 f3 rfl
    have g4 := hf 4 f4 rfl
    have g5 := hf 5 f5 rfl
    rw [o0, t0, hcs] at g0
    rw [o1, t1, hcl] at g1
    rw [o2, t2, hci] at g2
    rw [o3, t3, hci] at g3
    rw [o4, t4, hci] at g4
    rw [o5, t5, hcl] at g5
    subst hxy
    have zz := fun (j : Nat) (f : Field) (d : DataW H) h1 h2 => wt_struct (j := j) (f := f) (d := d) hu hz h1 h2
    have z0 := zz 0 f0 y0.1 rfl rfl
    have z1 := zz 1 f1 y1.1 rfl rfl
    have z5 := zz 5 f5 y5.1 rfl rfl
    rw [t0] at z0
    rw [t1] at z1
    rw [t5] at z5
    obtain ⟨s0, e0, d0, b0⟩ := DataW.trod_string Tryz.underlying9 (show DataW.trod enc Tryz.prog w base spare held k 9 [v0] = some y0 from g0)
    obtain ⟨pa, pc, ps, e1, hS1, hl1⟩ := open_strs_raw (show DataW.trod enc Tryz.prog w base spare held k 33 [v1] = some y1 from g1) z1
    obtain ⟨n2, e2, _, b2⟩ := DataW.trod_int Tryz.underlying3 (show DataW.trod enc Tryz.prog w base spare held k 3 [v2] = some y2 from g2)
    obtain ⟨n3, e3, _, b3⟩ := DataW.trod_int Tryz.underlying3 (show DataW.trod enc Tryz.prog w base spare held k 3 [v3] = some y3 from g3)
    obtain ⟨n4, e4, _, b4⟩ := DataW.trod_int Tryz.underlying3 (show DataW.trod enc Tryz.prog w base spare held k 3 [v4] = some y4 from g4)
    obtain ⟨la, lc, l, e5, hS5, hl5⟩ := open_strs_raw (show DataW.trod enc Tryz.prog w base spare held k 33 [v5] = some y5 from g5) z5
    rw [d0] at z0
    cases e0; cases e1; cases e2; cases e3; cases e4; cases e5
    exact ⟨⟨⟨s0, ps, n2, n3, n4, l⟩, pa, pc, la, lc⟩, rfl, ⟨hS1, hS5⟩, ⟨wt_string z0, hl1, b2, b3, b4, hl5⟩⟩
end
end Go.Proofs.YtbblkknndaoefaaGreatDoor
