/- pvs: made physical volumes. What the arrays of made physical volumes are. Plain. The law VolumeAll. SameArrays on equal lists. SameVirtuals, SameMember, SameMembers on equal lists. Slices of members as sources of an append; lists turned round. The law VolumeGroups: the walk. What the laid variables give to a law of the contents' chapters. The row's frame for a row with listed variables, the world's shape and the row's size bound. Plain. -/
import Derived.Test.YtbblkknndaoefaaGreatDoorZV23
import Derived.Test.YtbblkknndaoefaaGreatDoorZV5
import Derived.Test.YtbblkknndaoefaaGreatDoorZV17
import Derived.Test.YtbblkknndaoefaaGreatDoorZV22
import Derived.Test.YtbblkknndaoefaaGreatDoorZV12
import Derived.Test.YtbblkknndaoefaaGreatDoorZV6
import Derived.Test.YtbblkknndaoefaaGreatDoorZV2
import Derived.Test.YtbblkknndaoefaaGreatDoorZV13
import Derived.Test.YtbblkknndaoefaaGreatDoorZV14
import Derived.Test.YtbblkknndaoefaaGreatDoorZV15
import Derived.Test.YtbblkknndaoefaaGreatDoorZV8
import Derived.Test.YtbblkknndaoefaaGreatDoorRows
import Derived.Shelf.Vars
import Derived.Stop.LaidErr
import Derived.MakeChecks
import Derived.Lib.LaidTab
import Derived.OpenShut
import Derived.LaidMore
import Derived.Lay
import Derived.HandedShaped
import Derived.Handed
namespace Go.Proofs.YtbblkknndaoefaaGreatDoor
open Go.RowKit Go.Maps
set_option linter.unusedVariables false

/-- What pvs answers. -/
def PvsRes (w : World) (B tb k n : Nat) (e : Ending) (w' : World) : Prop :=
  ∃ (L : List Mem) (a' : Option Addr) (c' k' : Nat), e = .returned (.slice a' L.length c') ∧ Mems w' a' c' L ∧ (∀ ad, a' = some ad → w.heap.size ≤ ad.block) ∧ MFresh w' w.heap.size L ∧ (∀ m ∈ L, PvOk m) ∧ L.length ≤ n ∧ k' ≤ k + 200 ∧ Tape w' B tb k' ∧ w'.ownsRow w.heap.size 58 7 (.slice a' L.length c') L.length (mflat L)

set_option maxRecDepth 100000 in
set_option maxHeartbeats 8000000 in
theorem made_pvs (B tb k n : Nat) (w : World) (ht : Tape w B tb k) (hk : k ≤ 50000) (hn : n ≤ 8) :
    Calls Tryz.prog 44 #[.pointer (some ⟨tb, 0, none⟩), .int .i64 (n : Int)] w fun e w' => PvsRes w B tb k n e w' ∧ Fr (Is tb) w w' := by
  obtain ⟨i0, hi0, hz0, hz1, hz2⟩ := info_parts infoM
  have htl := ht.lt
  have hBt := ht.le
  have hn1 := tape_next B tb k ((n : Int) + 1) w ht (by omega) (by omega) (by omega)
  go_enter Tryz.func44, Tryz.ntmps44
  go_wp2_with fail
  refine hn1.mono ?_
  rintro e w1 ⟨r, rfl, hr1, hr2, ht1, hf1⟩
  obtain ⟨r, rfl⟩ := Int.eq_ofNat_of_zero_le hr1
  have hf1' : Fr (TB tb w.heap.size) w w1 := hf1.mono (fun b _ h => .inl h)
  have hrn : r ≤ n := by omega
  clear hn1 hr1 hr2 hf1
  go_wp2_with fail
  go_loopw [5, 6] (fun v i wr => ∃ (L : List Mem) (av : Option Addr) (cv j kk : Nat), v = .slice av L.length cv ∧ i = .int .i64 (j : Int) ∧ L.length + j ≤ n ∧ kk + 20 * j ≤ k + 170 ∧ wr.ownsRow w.heap.size 58 7 (.slice av L.length cv) L.length (mflat L) ∧ MFresh wr w.heap.size L ∧ Hid (∀ m ∈ L, PvOk m) ∧ Tape wr B tb kk ∧ Fr (TB tb w.heap.size) w wr) (fun _ i _ => (intOf i).toNat)
  case atStart => exact ⟨[], none, 0, r, k + 1, rfl, rfl, by simp; omega, by omega, World.ownsRow_nil _ _ _ _, fun m hm => by simp at hm, fun m hm => by simp at hm, ht1, hf1'⟩
  case round =>
    obtain ⟨L, av, cv, j, kk, rfl, rfl, hLj, hkk, hown, hMF, Hsm, htr, hf⟩ := hrel
    by_cases hlt : 0 < j
    · have hlt' : (0 : Int) < j := by omega
      have hLl : L.length ≤ 8 := by omega
      have hj8 : j ≤ 8 := by omega
      have hpv := made_pv B tb kk wr htr (by omega)
      have hsr := hf.size
      clear htr
      go_wp2_with fail
      refine hpv.mono ?_
      rintro e w2 ⟨⟨m, k2, rfl, ⟨hS, hB⟩, hF, hok, hk2, ht2⟩, hf2⟩
      have hown2 := ownsRow_at hown hf2 (fun b h e => by have h1 := ownsRow_blk hown h; unfold From at h1; unfold Is at e; omega)
      have hMF2 := hMF.fr hf2 (fun b h1 h2 e => by unfold Is at e; omega)
      have hff2 : Fr (TB tb w.heap.size) w w2 := hf.step hf2 (fun b _ h => .inl h)
      have hs2 := hf2.size
      obtain ⟨mp, mi, mr, ms, mt, me, ma, ml, mc⟩ := m
      simp only at hS hB hF
      unfold Mem.vals
      have Hown := Lib.hid hown2
      have HR := Lib.hid (And.intro hMF2 (And.intro hff2 (And.intro hS (And.intro hB (And.intro hok ht2)))))
      have HF : Hid (∀ ad, ma = some ad → w.heap.size ≤ ad.block) := fun ad e => by have := hF ad e; omega
      have hsw : w.heap.size ≤ w2.heap.size := by omega
      clear hpv hf2 hown hMF hf hMF2 hff2 hS hB hF hok ht2
      go_wp2_with (at_builtin; refine wpList_append_own _ rfl _ _ 23 rfl w.heap.size 58 i0 (.agg #[.string ByteArray.empty, .string ByteArray.empty, .int .i64 0, .int .i64 0, .int .i64 0, .int .i64 0, .slice none 0 0]) 7 88 Tryz.underlying23 hi0 hz0 hz1 hz2 rfl (by decide) _ _ _ rfl (hown2.alloc _) ⟨w2.heap.size, 0, none⟩ 1 1 (Mem.vals ⟨mp, mi, mr, ms, mt, me, ma, ml, mc⟩).toList rfl rfl (cells_new _ (Mem.vals ⟨mp, mi, mr, ms, mt, me, ma, ml, mc⟩) _ rfl) (mvals_one _) (by unfold maxLen; omega) (by omega) (by first | omega | (simp; done) | (simp; omega)) ?_; intro v' w9 hown9 hgrow9 _; obtain ⟨av', cv', rfl⟩ := ownsRow_slice hown9)
      have hal : Fr No w2 (w2.alloc (.cells #[.string mp, .string mi, .int .i64 mr, .int .i64 ms, .int .i64 mt, .int .i64 me, .slice ma ml.length mc] 58)) := (Fr.refl _ _).alloc _
      have howa := Hown.out.alloc (.cells #[.string mp, .string mi, .int .i64 mr, .int .i64 ms, .int .i64 mt, .int .i64 me, .slice ma ml.length mc] 58)
      have hgf : Fr (fun b => (Value.slice av L.length cv).ownBlock = some b) (w2.alloc (.cells #[.string mp, .string mi, .int .i64 mr, .int .i64 ms, .int .i64 mt, .int .i64 me, .slice ma ml.length mc] 58)) w9 := Fr.of_grown hgrow9
      obtain ⟨hMF2, hff2, hS, hB, hok, ht2⟩ := HR.out
      have hMF9 : MFresh w9 w.heap.size (L ++ [⟨mp, mi, mr, ms, mt, me, ma, ml, mc⟩]) := MFresh.own (MFresh.snoc (hMF2.fr hal (fun _ _ _ => id)) (hS.no hal (fun _ => id)) (hB.fr hal (fun _ _ => id)) HF.out) howa hgf
      have hsm9 : ∀ m ∈ L ++ [(⟨mp, mi, mr, ms, mt, me, ma, ml, mc⟩ : Mem)], PvOk m := fun m hm => by
        rcases List.mem_append.1 hm with h | h
        · exact Hsm.out m h
        · obtain rfl : m = ⟨mp, mi, mr, ms, mt, me, ma, ml, mc⟩ := by simpa using h
          exact hok
      have ht9 := (ht2.fr hal (fun _ _ => id) id).fr hgf (fun b hb h => by have h2 := ownsRow_blk howa h; unfold From at h2; omega) (fun h => by have h2 := ownsRow_blk howa h; unfold From at h2; omega)
      have hf9 : Fr (TB tb w.heap.size) w w9 := (hff2.step hal (fun _ _ h => h.elim)).step hgf (fun b _ h => .inr (ownsRow_blk howa h))
      have HF9 := Lib.hid (And.intro hown9 (And.intro hMF9 (And.intro hsm9 (And.intro ht9 hf9))))
      clear hown9 hMF9 hsm9 ht9 hf9 hgf howa hal hgrow9 hown2 hMF2 hff2 hS hB hok ht2
      go_roundw
      case rel => exact ⟨L ++ [⟨mp, mi, mr, ms, mt, me, ma, ml, mc⟩], av', cv', j - 1, k2, by simp, by go_num, by simp; omega, by omega, by rw [List.length_append, mflat_snoc]; exact HF9.out.1, HF9.out.2.1, Lib.hid HF9.out.2.2.1, HF9.out.2.2.2.1, HF9.out.2.2.2.2⟩
      case measure => simp [intOf]; omega
    · obtain rfl : j = 0 := by omega
      obtain ⟨a', c', hv, hR, hfresh⟩ := Mems.of_own hown (fun m hm => (hMF m hm).1)
      cases hv
      have H := Lib.hid (And.intro hR (And.intro hfresh (And.intro hMF (And.intro (And.intro htr hown) (hf.mono (T := Is tb) (fun b hb h => by unfold TB at h; unfold Is; omega))))))
      clear hown hMF htr hf hR hfresh
      go_wp2_with fail
      go_ret
      exact ⟨⟨L, _, _, kk, rfl, H.out.1, H.out.2.1, H.out.2.2.1, Hsm.out, by omega, by omega, H.out.2.2.2.1.1, H.out.2.2.2.1.2⟩, H.out.2.2.2.2⟩
end Go.Proofs.YtbblkknndaoefaaGreatDoor
namespace Go.Proofs.YtbblkknndaoefaaGreatDoor
open Go.RowKit
set_option linter.unusedVariables false

theorem first_some {b : ByteArray × Int → Option Mem} {id : ByteArray} {s : Int} (h : (b (id, s)).isSome = true) (h1 : 1 ≤ s ∧ s ≤ 16) : ∃ m, b (id, leastSlot b id) = some m ∧ firstOf b id = m := by
  have hf : ∃ k, (List.range 16).find? (fun (k : Nat) => (b (id, (k : Int) + 1)).isSome) = some k := by
    rcases hh : (List.range 16).find? (fun (k : Nat) => (b (id, (k : Int) + 1)).isSome) with _ | k
    · have := List.find?_eq_none.1 hh (s - 1).toNat (List.mem_range.2 (by omega))
      rw [show (((s - 1).toNat : Nat) : Int) + 1 = s by omega] at this
      exact absurd h this
    · exact ⟨k, rfl⟩
  obtain ⟨k, hk⟩ := hf
  have hs := List.find?_some hk
  have hl : leastSlot b id = (k : Int) + 1 := by unfold leastSlot; rw [hk]; rfl
  obtain ⟨m, hm⟩ := Option.isSome_iff_exists.1 hs
  refine ⟨m, by rw [hl]; exact hm, ?_⟩
  unfold firstOf
  rw [hl, hm]; rfl
theorem filter_split (p : Nat → Bool) (l : List Nat) : (l.filter p).length + (l.filter fun k => !p k).length = l.length := by
  induction l with
  | nil => rfl
  | cons x t ih => cases h : p x <;> simp [h] <;> omega
/-- The laws of an array that stems from sound members. -/
structure ArrOk (A : Arr) : Prop where
  t : 1 ≤ A.t ∧ A.t ≤ 16
  ps : (A.ps.length : Int) = A.t
  n : A.n + ((lacksF A.ps A.ps.length).length : Int) = A.t
  nr : 0 ≤ A.n
  i : A.i ∈ pvIds
  l : A.l.length ≤ 2
  psz : ∀ x ∈ A.ps, x.size ≤ 100
theorem arr_ok {L : List Mem} (hL : ∀ m ∈ L, PvOk m) {id : ByteArray} {s : Int} (h : (best2 soundB L (id, s)).isSome = true) : ArrOk (buildA (best2 soundB L) id) := by
  obtain ⟨b, hb⟩ : ∃ b, b = best2 soundB L := ⟨_, rfl⟩
  have hm : ∀ x s m, b (x, s) = some m → m ∈ L ∧ soundB m = true ∧ m.i = x ∧ m.s = s := fun x s m e => by
    rw [hb] at e
    obtain ⟨h1, h2, h3⟩ := best2_mem L (x, s) m e
    simp only [Prod.mk.injEq] at h3
    exact ⟨h1, h2, h3.1, h3.2⟩
  rw [← hb] at h ⊢
  obtain ⟨m0, hm0⟩ := Option.isSome_iff_exists.1 h
  have hs : ∀ x s m, b (x, s) = some m → m.p.toList.isEmpty = false ∧ (1 ≤ m.s ∧ m.s ≤ 16) ∧ (1 ≤ m.t ∧ m.t ≤ 16) := fun x s m e => by
    have h2 := (hm x s m e).2.1
    unfold soundB at h2
    simp only [Bool.and_eq_true, decide_eq_true_eq, Bool.not_eq_true'] at h2
    exact ⟨h2.1.1, h2.1.2, h2.2⟩
  have h16 : 1 ≤ s ∧ s ≤ 16 := by
    have h1 := (hs id s m0 hm0).2.1
    have h2 := (hm id s m0 hm0).2.2.2
    omega
  obtain ⟨m, hlm, hfm⟩ := first_some h h16
  obtain ⟨hmL, _, hmi, _⟩ := hm _ _ m hlm
  have hmt := (hs _ _ m hlm).2.2
  have hok := hL m hmL
  obtain ⟨T, hT⟩ : ∃ T : Nat, m.t = (T : Int) := ⟨m.t.toNat, by omega⟩
  have hTn : m.t.toNat = T := by omega
  have hlk : ∀ k, k < T → lackAt ((List.range T).map (pathAt b id)) k = !(b (id, (k : Int) + 1)).isSome := fun k hk => by
    unfold lackAt
    rw [List.getElem?_map, List.getElem?_range hk]
    simp only [Option.map_some]
    unfold pathAt
    rcases he : b (id, (k : Int) + 1) with _ | x
    · simp [ByteArray.toList_eq]
    · simp only [Option.isSome_some, Bool.not_true]
      exact (hs _ _ x he).1
  have hfl : (List.range T).filter (lackAt ((List.range T).map (pathAt b id))) = (List.range T).filter fun (k : Nat) => !(b (id, (k : Int) + 1)).isSome :=
    List.filter_congr (fun k hk => hlk k (List.mem_range.1 hk))
  unfold buildA
  rw [hfm, hT]
  refine ⟨by dsimp only; omega, by dsimp only; simp, ?_, by dsimp only; omega, by dsimp only; rw [← hmi]; exact hok.i, hok.n, ?_⟩
  · dsimp only
    have e1 : ((List.range ((T : Nat) : Int).toNat).map (pathAt b id)).length = T := by simp
    rw [e1]
    unfold lacksF
    rw [List.length_map, show ((T : Nat) : Int).toNat = T from by omega, hfl]
    have := filter_split (fun (k : Nat) => (b (id, (k : Int) + 1)).isSome) (List.range T)
    rw [List.length_range] at this
    omega
  · dsimp only
    intro x hx
    obtain ⟨k, _, rfl⟩ := List.mem_map.1 hx
    unfold pathAt
    rcases he : b (id, (k : Int) + 1) with _ | y
    · exact (by decide : (⟨#[]⟩ : ByteArray).size ≤ 100)
    · exact (hL y (hm _ _ y he).1).p
theorem lv_all : ∀ i ∈ pvIds, lvOk i 1 = true ∧ lvOk i 2 = true := by
  have h : ∀ i ∈ pvIds, ∀ s ∈ [(⟨#[49]⟩ : ByteArray), ⟨#[50]⟩], isName ((⟨#[108, 118, 45]⟩ : ByteArray) ++ i ++ (⟨#[45]⟩ : ByteArray) ++ s) = true := by
    intro i hi s hs
    simp only [pvIds, List.mem_cons, List.not_mem_nil, or_false] at hi hs
    rcases hi with rfl | rfl | rfl <;> rcases hs with rfl | rfl <;> · simp [isName, ByteArray.toList_eq, inSet, nameBA]; decide
  intro i hi
  refine ⟨?_, ?_⟩
  · unfold lvOk lvT; rw [v_it1, h i hi _ (by simp)]; decide
  · unfold lvOk lvT; rw [v_it2, h i hi _ (by simp)]; decide
theorem wantL_len {A : Arr} (h : ArrOk A) : (wantL A.i A.t A.n A.l 1).length = if A.n = A.t then A.l.length else 0 := by
  unfold wantL
  split
  · rename_i e
    have h2 := h.l
    obtain ⟨h3, h4⟩ := lv_all A.i h.i
    unfold wantF
    rw [List.length_map]
    rcases hl : A.l.length with _ | _ | _ | n
    · rfl
    · simp [List.range_succ_eq_map, h3]
    · simp [List.range_succ_eq_map, h3, h4]
    · omega
  · rfl
end Go.Proofs.YtbblkknndaoefaaGreatDoor
namespace Go.Proofs.YtbblkknndaoefaaGreatDoor
open Go.RowKit Go.Maps
set_option linter.unusedVariables false

theorem pv_small {L : List Mem} (h : ∀ m ∈ L, PvOk m) (hl : L.length ≤ 100) : MemSmall2 L := by
  refine ⟨by omega, fun m hm => by have := (h m hm).p; omega, fun m hm => by have := pvIds_size _ (h m hm).i; omega, fun m hm => by have := (h m hm).n; omega, fun m hm => WalkArith.wf_i64 (by have := (h m hm).s; omega)⟩
end Go.Proofs.YtbblkknndaoefaaGreatDoor
namespace Go.Proofs.YtbblkknndaoefaaGreatDoor
open Go.RowKit Go.Maps
set_option linter.unusedVariables false

theorem sameT_id (l : List ByteArray) : sameT l l = true := by unfold sameT; simp
set_option maxRecDepth 100000 in
set_option maxHeartbeats 4000000 in
theorem same_arrays_eq (a a' : Option Addr) (cap cap' : Nat) (O O' : List ArrM) (w : World) (hO : Arrs w a cap O) (hO' : Arrs w a' cap' O') (he : O.map ArrM.toArr = O'.map ArrM.toArr) :
    Calls Tryz.prog 46 #[.slice a O.length cap, .slice a' O'.length cap'] w fun e w' => e = .returned (.bool true) ∧ Fr No w w' := by
  have hm := hO.lenmax
  have hlen : O'.length = O.length := by have := congrArg List.length he; simp at this; exact this.symm
  rw [hlen]
  have Hlen := Lib.hid hlen
  clear hlen
  have He := Lib.hid he
  clear he
  go_enter Tryz.func46, Tryz.ntmps46
  go_wp2_with fail
  go_loopw [5] (fun i wr => ∃ k : Nat, k ≤ O.length ∧ i = .int .i64 (k : Int) ∧ Fr No w wr) (fun i _ => O.length - (intOf i).toNat)
  case atStart => exact ⟨0, by omega, rfl, Fr.refl _ _⟩
  case round =>
    obtain ⟨k, hk, rfl, hf⟩ := hrel
    by_cases hlt : k < O.length
    · have hlt1 : (k : Int) < O.length := by omega
      obtain ⟨ub, uo, u, e1, hu, ⟨hPu, hLu⟩, ⟨u0, u1, u2, u3, u4, u5⟩, hubl⟩ := (hO.no hf (fun _ => id)).elem hlt
      obtain ⟨vb, vo, v, e2, hv, ⟨hPv, hLv⟩, ⟨v0, v1, v2, v3, v4, v5⟩, hvbl⟩ := (hO'.no hf (fun _ => id)).elem (show k < O'.length by have := Hlen.out; omega)
      have huv : u.toArr = v.toArr := by
        have h1 : (O.map ArrM.toArr)[k]? = some u.toArr := by rw [List.getElem?_map, hu]; rfl
        rw [He.out, List.getElem?_map, hv] at h1
        exact (Option.some.inj h1).symm
      obtain ⟨⟨ia, ps, ta, ea, na, ls⟩, pa, pc, la, lc⟩ := u
      obtain ⟨Av, va, vc, wa, wk⟩ := v
      simp only at huv
      subst huv
      subst e1 e2
      simp only at u0 u1 u2 u3 u4 u5 v0 v1 v2 v3 v4 v5 hPu hLu hPv hLv
      have Hu := Lib.hid (And.intro hPu (And.intro hLu (And.intro hPv hLv)))
      have Hf := Lib.hid hf
      clear hu hv hPu hLu hPv hLv hf
      go_upto_region 6 with (fail)
      go_cut [6, 7] (fun x y wx => ∃ p q : Nat, x = .pointer (some ⟨p, 0, none⟩) ∧ y = .pointer (some ⟨q, 0, none⟩) ∧ wx.heap[p]? = some (.cells #[.string ia, .slice pa ps.length pc, .int .i64 ta, .int .i64 ea, .int .i64 na, .slice la ls.length lc] 42) ∧ wx.heap[q]? = some (.cells #[.string ia, .slice va ps.length vc, .int .i64 ta, .int .i64 ea, .int .i64 na, .slice wa ls.length wk] 42) ∧ Fr No wr wx)
      case first =>
        refine region_tree (From wr.heap.size) (.q 0 (.q 1 (.q 2 (.q 3 (.q 4 (.q 5 (.q 6 (.q 7 (.m2 8 (.m1 9 (.m1 10 (.m1 11 .fin))) 9 (.m1 8 (.m1 10 (.m1 11 .fin)))))))))))) _ (by kernel_rfl) (by kernel_rfl) (fun w0 hf0 => ?_) (fun _ _ h => h)
        have n1 : ¬ From wr.heap.size ub := by unfold From; omega
        have n2 : ¬ From wr.heap.size vb := by unfold From; omega
        have hs0 := hf0.size
        have g0 : ∀ g : Gr (From wr.heap.size) w0, g.W.cell? ⟨ub, uo + k * 6, none⟩ = some (.string ia) := fun g => g.fr.cell (hf0.cell u0 id) n1
        have g1 : ∀ g : Gr (From wr.heap.size) w0, g.W.cell? ⟨ub, uo + k * 6 + 1, none⟩ = some (.slice pa ps.length pc) := fun g => g.fr.cell (hf0.cell u1 id) n1
        have g2 : ∀ g : Gr (From wr.heap.size) w0, g.W.cell? ⟨ub, uo + k * 6 + 2, none⟩ = some (.int .i64 ta) := fun g => g.fr.cell (hf0.cell u2 id) n1
        have g3 : ∀ g : Gr (From wr.heap.size) w0, g.W.cell? ⟨ub, uo + k * 6 + 3, none⟩ = some (.int .i64 ea) := fun g => g.fr.cell (hf0.cell u3 id) n1
        have g4 : ∀ g : Gr (From wr.heap.size) w0, g.W.cell? ⟨ub, uo + k * 6 + 4, none⟩ = some (.int .i64 na) := fun g => g.fr.cell (hf0.cell u4 id) n1
        have g5 : ∀ g : Gr (From wr.heap.size) w0, g.W.cell? ⟨ub, uo + k * 6 + 5, none⟩ = some (.slice la ls.length lc) := fun g => g.fr.cell (hf0.cell u5 id) n1
        have h0 : ∀ g : Gr (From wr.heap.size) w0, g.W.cell? ⟨vb, vo + k * 6, none⟩ = some (.string ia) := fun g => g.fr.cell (hf0.cell v0 id) n2
        have h1 : ∀ g : Gr (From wr.heap.size) w0, g.W.cell? ⟨vb, vo + k * 6 + 1, none⟩ = some (.slice va ps.length vc) := fun g => g.fr.cell (hf0.cell v1 id) n2
        have h2 : ∀ g : Gr (From wr.heap.size) w0, g.W.cell? ⟨vb, vo + k * 6 + 2, none⟩ = some (.int .i64 ta) := fun g => g.fr.cell (hf0.cell v2 id) n2
        have h3 : ∀ g : Gr (From wr.heap.size) w0, g.W.cell? ⟨vb, vo + k * 6 + 3, none⟩ = some (.int .i64 ea) := fun g => g.fr.cell (hf0.cell v3 id) n2
        have h4 : ∀ g : Gr (From wr.heap.size) w0, g.W.cell? ⟨vb, vo + k * 6 + 4, none⟩ = some (.int .i64 na) := fun g => g.fr.cell (hf0.cell v4 id) n2
        have h5 : ∀ g : Gr (From wr.heap.size) w0, g.W.cell? ⟨vb, vo + k * 6 + 5, none⟩ = some (.slice wa ls.length wk) := fun g => g.fr.cell (hf0.cell v5 id) n2
        have Hf0 := Lib.hid hf0
        clear u0 u1 u2 u3 u4 u5 v0 v1 v2 v3 v4 v5 hf0
        repeat (apply tree_q; exact rfl; exact rfl; exact rfl; intro K hK; go_big_quiet_op; go_big_quiet_on)
        clear g0 g1 g2 g3 g4 g5 h0 h1 h2 h3 h4 h5
        refine tree_m2 rfl rfl ?_ ?_
        · skip
          go_wp2_with fail
          have hX1 : Fr No w0 (w0.alloc (.cells #[.string ⟨#[]⟩, .slice none 0 0, .int .i64 0, .int .i64 0, .int .i64 0, .slice none 0 0] 42)) := (Fr.refl _ _).alloc _
          have qu1 := block_alloc w0 (.cells #[.string ⟨#[]⟩, .slice none 0 0, .int .i64 0, .int .i64 0, .int .i64 0, .slice none 0 0] 42)
          refine OnlyN.mk ⟨(Fr.refl _ _).alloc _, ?_⟩
          generalize w0.alloc (.cells #[.string ⟨#[]⟩, .slice none 0 0, .int .i64 0, .int .i64 0, .int .i64 0, .slice none 0 0] 42) = X1 at *
          have hs1 := lt_of_block qu1
          refine tree_m1 rfl ?_
          go_wp2_with fail
          have hX2 : Fr No X1 (X1.alloc (.cells #[.string ⟨#[]⟩, .slice none 0 0, .int .i64 0, .int .i64 0, .int .i64 0, .slice none 0 0] 42)) := (Fr.refl _ _).alloc _
          have qv2 := block_alloc X1 (.cells #[.string ⟨#[]⟩, .slice none 0 0, .int .i64 0, .int .i64 0, .int .i64 0, .slice none 0 0] 42)
          have qu2 := hX2.heap qu1 id
          refine OnlyN.mk ⟨(Fr.refl _ _).alloc _, ?_⟩
          generalize X1.alloc (.cells #[.string ⟨#[]⟩, .slice none 0 0, .int .i64 0, .int .i64 0, .int .i64 0, .slice none 0 0] 42) = X2 at *
          refine tree_m1 rfl ?_
          have z0 : X2.cell? ⟨w0.heap.size, 0, none⟩ = some (.string ⟨#[]⟩) := cell_of_block qu2 0
          have y0 : X2.frozen? ⟨w0.heap.size, 0, none⟩ = false := free_of_block qu2 0
          have z1 : X2.cell? ⟨w0.heap.size, 1, none⟩ = some (.slice none 0 0) := cell_of_block qu2 1
          have y1 : X2.frozen? ⟨w0.heap.size, 1, none⟩ = false := free_of_block qu2 1
          have z2 : X2.cell? ⟨w0.heap.size, 2, none⟩ = some (.int .i64 0) := cell_of_block qu2 2
          have y2 : X2.frozen? ⟨w0.heap.size, 2, none⟩ = false := free_of_block qu2 2
          have z3 : X2.cell? ⟨w0.heap.size, 3, none⟩ = some (.int .i64 0) := cell_of_block qu2 3
          have y3 : X2.frozen? ⟨w0.heap.size, 3, none⟩ = false := free_of_block qu2 3
          have z4 : X2.cell? ⟨w0.heap.size, 4, none⟩ = some (.int .i64 0) := cell_of_block qu2 4
          have y4 : X2.frozen? ⟨w0.heap.size, 4, none⟩ = false := free_of_block qu2 4
          have z5 : X2.cell? ⟨w0.heap.size, 5, none⟩ = some (.slice none 0 0) := cell_of_block qu2 5
          have y5 : X2.frozen? ⟨w0.heap.size, 5, none⟩ = false := free_of_block qu2 5
          have h6 := set6 qu2 rfl (.string ia) (.slice pa ps.length pc) (.int .i64 ta) (.int .i64 ea) (.int .i64 na) (.slice la ls.length lc)
          have H6 := Lib.hid h6
          have Hq := Lib.hid qv2
          clear h6 qu2 qv2
          go_wp2_with fail
          refine OnlyN.mk ⟨H6.out.2.mono (fun b _ h => by unfold Is at h; unfold From; omega), ?_⟩
          clear z0 z1 z2 z3 z4 z5 y0 y1 y2 y3 y4 y5
          have qu3 := H6.out.1
          have qv3 := H6.out.2.heap Hq.out (by show ¬ (X1.heap.size = w0.heap.size); omega)
          have hX3 := H6.out.2
          clear H6 Hq
          generalize ((((((X2.setCell ⟨w0.heap.size, 0, none⟩ (.string ia)).setCell ⟨w0.heap.size, 1, none⟩ (.slice pa ps.length pc)).setCell ⟨w0.heap.size, 2, none⟩ (.int .i64 ta)).setCell ⟨w0.heap.size, 3, none⟩ (.int .i64 ea)).setCell ⟨w0.heap.size, 4, none⟩ (.int .i64 na)).setCell ⟨w0.heap.size, 5, none⟩ (.slice la ls.length lc)) = X3 at *
          refine tree_m1 rfl ?_
          have z0 : X3.cell? ⟨X1.heap.size, 0, none⟩ = some (.string ⟨#[]⟩) := cell_of_block qv3 0
          have y0 : X3.frozen? ⟨X1.heap.size, 0, none⟩ = false := free_of_block qv3 0
          have z1 : X3.cell? ⟨X1.heap.size, 1, none⟩ = some (.slice none 0 0) := cell_of_block qv3 1
          have y1 : X3.frozen? ⟨X1.heap.size, 1, none⟩ = false := free_of_block qv3 1
          have z2 : X3.cell? ⟨X1.heap.size, 2, none⟩ = some (.int .i64 0) := cell_of_block qv3 2
          have y2 : X3.frozen? ⟨X1.heap.size, 2, none⟩ = false := free_of_block qv3 2
          have z3 : X3.cell? ⟨X1.heap.size, 3, none⟩ = some (.int .i64 0) := cell_of_block qv3 3
          have y3 : X3.frozen? ⟨X1.heap.size, 3, none⟩ = false := free_of_block qv3 3
          have z4 : X3.cell? ⟨X1.heap.size, 4, none⟩ = some (.int .i64 0) := cell_of_block qv3 4
          have y4 : X3.frozen? ⟨X1.heap.size, 4, none⟩ = false := free_of_block qv3 4
          have z5 : X3.cell? ⟨X1.heap.size, 5, none⟩ = some (.slice none 0 0) := cell_of_block qv3 5
          have y5 : X3.frozen? ⟨X1.heap.size, 5, none⟩ = false := free_of_block qv3 5
          have h6 := set6 qv3 rfl (.string ia) (.slice va ps.length vc) (.int .i64 ta) (.int .i64 ea) (.int .i64 na) (.slice wa ls.length wk)
          have H6 := Lib.hid h6
          have Hq := Lib.hid qu3
          clear h6 qv3 qu3
          go_wp2_with fail
          refine OnlyN.mk ⟨H6.out.2.mono (fun b _ h => by unfold Is at h; unfold From; omega), ?_⟩
          clear z0 z1 z2 z3 z4 z5 y0 y1 y2 y3 y4 y5
          refine tree_end ?_
          go_wp2_with fail
          go_meet
          exact ⟨w0.heap.size, X1.heap.size, rfl, rfl, H6.out.2.heap Hq.out (by show ¬ (w0.heap.size = X1.heap.size); omega), H6.out.1, Hf0.out.step (((hX1.step hX2 (fun _ _ h => h)).step hX3 (fun b hb h => by unfold Is at h; have := hX1.size; omega)).step H6.out.2 (fun b hb h => by unfold Is at h; have := hX1.size; omega)) (fun _ _ h => h)⟩
        · skip
          go_wp2_with fail
          have hX1 : Fr No w0 (w0.alloc (.cells #[.string ⟨#[]⟩, .slice none 0 0, .int .i64 0, .int .i64 0, .int .i64 0, .slice none 0 0] 42)) := (Fr.refl _ _).alloc _
          have qv1 := block_alloc w0 (.cells #[.string ⟨#[]⟩, .slice none 0 0, .int .i64 0, .int .i64 0, .int .i64 0, .slice none 0 0] 42)
          refine OnlyN.mk ⟨(Fr.refl _ _).alloc _, ?_⟩
          generalize w0.alloc (.cells #[.string ⟨#[]⟩, .slice none 0 0, .int .i64 0, .int .i64 0, .int .i64 0, .slice none 0 0] 42) = X1 at *
          have hs1 := lt_of_block qv1
          refine tree_m1 rfl ?_
          go_wp2_with fail
          have hX2 : Fr No X1 (X1.alloc (.cells #[.string ⟨#[]⟩, .slice none 0 0, .int .i64 0, .int .i64 0, .int .i64 0, .slice none 0 0] 42)) := (Fr.refl _ _).alloc _
          have qu2 := block_alloc X1 (.cells #[.string ⟨#[]⟩, .slice none 0 0, .int .i64 0, .int .i64 0, .int .i64 0, .slice none 0 0] 42)
          have qv2 := hX2.heap qv1 id
          refine OnlyN.mk ⟨(Fr.refl _ _).alloc _, ?_⟩
          generalize X1.alloc (.cells #[.string ⟨#[]⟩, .slice none 0 0, .int .i64 0, .int .i64 0, .int .i64 0, .slice none 0 0] 42) = X2 at *
          refine tree_m1 rfl ?_
          have z0 : X2.cell? ⟨X1.heap.size, 0, none⟩ = some (.string ⟨#[]⟩) := cell_of_block qu2 0
          have y0 : X2.frozen? ⟨X1.heap.size, 0, none⟩ = false := free_of_block qu2 0
          have z1 : X2.cell? ⟨X1.heap.size, 1, none⟩ = some (.slice none 0 0) := cell_of_block qu2 1
          have y1 : X2.frozen? ⟨X1.heap.size, 1, none⟩ = false := free_of_block qu2 1
          have z2 : X2.cell? ⟨X1.heap.size, 2, none⟩ = some (.int .i64 0) := cell_of_block qu2 2
          have y2 : X2.frozen? ⟨X1.heap.size, 2, none⟩ = false := free_of_block qu2 2
          have z3 : X2.cell? ⟨X1.heap.size, 3, none⟩ = some (.int .i64 0) := cell_of_block qu2 3
          have y3 : X2.frozen? ⟨X1.heap.size, 3, none⟩ = false := free_of_block qu2 3
          have z4 : X2.cell? ⟨X1.heap.size, 4, none⟩ = some (.int .i64 0) := cell_of_block qu2 4
          have y4 : X2.frozen? ⟨X1.heap.size, 4, none⟩ = false := free_of_block qu2 4
          have z5 : X2.cell? ⟨X1.heap.size, 5, none⟩ = some (.slice none 0 0) := cell_of_block qu2 5
          have y5 : X2.frozen? ⟨X1.heap.size, 5, none⟩ = false := free_of_block qu2 5
          have h6 := set6 qu2 rfl (.string ia) (.slice pa ps.length pc) (.int .i64 ta) (.int .i64 ea) (.int .i64 na) (.slice la ls.length lc)
          have H6 := Lib.hid h6
          have Hq := Lib.hid qv2
          clear h6 qu2 qv2
          go_wp2_with fail
          refine OnlyN.mk ⟨H6.out.2.mono (fun b _ h => by unfold Is at h; unfold From; omega), ?_⟩
          clear z0 z1 z2 z3 z4 z5 y0 y1 y2 y3 y4 y5
          have qu3 := H6.out.1
          have qv3 := H6.out.2.heap Hq.out (by show ¬ (w0.heap.size = X1.heap.size); omega)
          have hX3 := H6.out.2
          clear H6 Hq
          generalize ((((((X2.setCell ⟨X1.heap.size, 0, none⟩ (.string ia)).setCell ⟨X1.heap.size, 1, none⟩ (.slice pa ps.length pc)).setCell ⟨X1.heap.size, 2, none⟩ (.int .i64 ta)).setCell ⟨X1.heap.size, 3, none⟩ (.int .i64 ea)).setCell ⟨X1.heap.size, 4, none⟩ (.int .i64 na)).setCell ⟨X1.heap.size, 5, none⟩ (.slice la ls.length lc)) = X3 at *
          refine tree_m1 rfl ?_
          have z0 : X3.cell? ⟨w0.heap.size, 0, none⟩ = some (.string ⟨#[]⟩) := cell_of_block qv3 0
          have y0 : X3.frozen? ⟨w0.heap.size, 0, none⟩ = false := free_of_block qv3 0
          have z1 : X3.cell? ⟨w0.heap.size, 1, none⟩ = some (.slice none 0 0) := cell_of_block qv3 1
          have y1 : X3.frozen? ⟨w0.heap.size, 1, none⟩ = false := free_of_block qv3 1
          have z2 : X3.cell? ⟨w0.heap.size, 2, none⟩ = some (.int .i64 0) := cell_of_block qv3 2
          have y2 : X3.frozen? ⟨w0.heap.size, 2, none⟩ = false := free_of_block qv3 2
          have z3 : X3.cell? ⟨w0.heap.size, 3, none⟩ = some (.int .i64 0) := cell_of_block qv3 3
          have y3 : X3.frozen? ⟨w0.heap.size, 3, none⟩ = false := free_of_block qv3 3
          have z4 : X3.cell? ⟨w0.heap.size, 4, none⟩ = some (.int .i64 0) := cell_of_block qv3 4
          have y4 : X3.frozen? ⟨w0.heap.size, 4, none⟩ = false := free_of_block qv3 4
          have z5 : X3.cell? ⟨w0.heap.size, 5, none⟩ = some (.slice none 0 0) := cell_of_block qv3 5
          have y5 : X3.frozen? ⟨w0.heap.size, 5, none⟩ = false := free_of_block qv3 5
          have h6 := set6 qv3 rfl (.string ia) (.slice va ps.length vc) (.int .i64 ta) (.int .i64 ea) (.int .i64 na) (.slice wa ls.length wk)
          have H6 := Lib.hid h6
          have Hq := Lib.hid qu3
          clear h6 qv3 qu3
          go_wp2_with fail
          refine OnlyN.mk ⟨H6.out.2.mono (fun b _ h => by unfold Is at h; unfold From; omega), ?_⟩
          clear z0 z1 z2 z3 z4 z5 y0 y1 y2 y3 y4 y5
          refine tree_end ?_
          go_wp2_with fail
          go_meet
          exact ⟨X1.heap.size, w0.heap.size, rfl, rfl, H6.out.2.heap Hq.out (by show ¬ (X1.heap.size = w0.heap.size); omega), H6.out.1, Hf0.out.step (((hX1.step hX2 (fun _ _ h => h)).step hX3 (fun b hb h => by unfold Is at h; have := hX1.size; omega)).step H6.out.2 (fun b hb h => by unfold Is at h; have := hX1.size; omega)) (fun _ _ h => h)⟩
      case rest =>
        obtain ⟨p, q, rfl, rfl, qp, qq, hfx⟩ := hcut
        have x0 : wc.cell? ⟨p, 0, none⟩ = some (.string ia) := cell_of_block qp 0
        have x1 : wc.cell? ⟨p, 1, none⟩ = some (.slice pa ps.length pc) := cell_of_block qp 1
        have y0 : wc.cell? ⟨q, 0, none⟩ = some (.string ia) := cell_of_block qq 0
        have y1 : wc.cell? ⟨q, 1, none⟩ = some (.slice va ps.length vc) := cell_of_block qq 1
        have Hfx := Lib.hid (Hf.out.step hfx (fun _ _ h => h))
        have h1 := same_texts pa va pc vc ps ps wc (Hu.out.1.no hfx (fun _ => id)) (Hu.out.2.2.1.no hfx (fun _ => id))
        rw [sameT_id] at h1
        have hLu' := Hu.out.2.1.no hfx (fun _ => id)
        have hLv' := Hu.out.2.2.2.no hfx (fun _ => id)
        clear hfx u0 u1 u2 u3 u4 u5 v0 v1 v2 v3 v4 v5
        go_wp2_with fail
        refine h1.mono ?_
        rintro en w5 ⟨rfl, hf5⟩
        have qp5 := hf5.heap qp id
        have qq5 := hf5.heap qq id
        clear x0 x1 y0 y1
        have x2 : w5.cell? ⟨p, 2, none⟩ = some (.int .i64 ta) := cell_of_block qp5 2
        have x3 : w5.cell? ⟨p, 3, none⟩ = some (.int .i64 ea) := cell_of_block qp5 3
        have x4 : w5.cell? ⟨p, 4, none⟩ = some (.int .i64 na) := cell_of_block qp5 4
        have x5 : w5.cell? ⟨p, 5, none⟩ = some (.slice la ls.length lc) := cell_of_block qp5 5
        have y2 : w5.cell? ⟨q, 2, none⟩ = some (.int .i64 ta) := cell_of_block qq5 2
        have y3 : w5.cell? ⟨q, 3, none⟩ = some (.int .i64 ea) := cell_of_block qq5 3
        have y4 : w5.cell? ⟨q, 4, none⟩ = some (.int .i64 na) := cell_of_block qq5 4
        have y5 : w5.cell? ⟨q, 5, none⟩ = some (.slice wa ls.length wk) := cell_of_block qq5 5
        have h2 := same_texts la wa lc wk ls ls w5 (hLu'.no hf5 (fun _ => id)) (hLv'.no hf5 (fun _ => id))
        rw [sameT_id] at h2
        have Hf5 := Lib.hid (Hfx.out.step hf5 (fun _ _ h => h))
        clear h1 hf5 hLu' hLv' qp qq qp5 qq5
        go_wp2_with fail
        refine h2.mono ?_
        rintro en w6 ⟨rfl, hf6⟩
        have Hf6 := Lib.hid (Hf5.out.step hf6 (fun _ _ h => h))
        clear h2 hf6 x2 x3 x4 x5 y2 y3 y4 y5
        go_wp2_with fail
        go_roundw
        case rel => exact ⟨k + 1, by omega, by go_num, Hf6.out⟩
        case measure => simp [intOf]; omega
    · obtain rfl : k = O.length := by omega
      go_wp2_with fail
      go_ret
      exact ⟨rfl, hf⟩
end Go.Proofs.YtbblkknndaoefaaGreatDoor
namespace Go.Proofs.YtbblkknndaoefaaGreatDoor
open Go.RowKit Go.Maps
set_option linter.unusedVariables false

set_option maxRecDepth 100000 in
set_option maxHeartbeats 2000000 in
theorem same_virtuals_eq (a a' : Option Addr) (cap cap' : Nat) (V : List Vir) (w : World) (hV : Virs w a cap V) (hV' : Virs w a' cap' V) :
    Calls Tryz.prog 22 #[.slice a V.length cap, .slice a' V.length cap'] w fun e w' => e = .returned (.bool true) ∧ Fr No w w' := by
  have hm := hV.lenmax
  go_enter Tryz.func22, Tryz.ntmps22
  go_wp2_with fail
  go_loopw [5] (fun i wr => ∃ k : Nat, k ≤ V.length ∧ i = .int .i64 (k : Int) ∧ Fr No w wr) (fun i _ => V.length - (intOf i).toNat)
  case atStart => exact ⟨0, by omega, rfl, Fr.refl _ _⟩
  case round =>
    obtain ⟨k, hk, rfl, hf⟩ := hrel
    by_cases hlt : k < V.length
    · have hlt1 : (k : Int) < V.length := by omega
      go_wp2_with fail
      refine region_sig No [(0, false), (1, false), (2, false), (3, false), (4, false), (5, false), (6, false), (7, false), (8, false)] (by kernel_rfl) (by kernel_rfl) (fun w0 hf0 => ?_)
      have hf1 := hf.step hf0 (fun _ _ h => h)
      obtain ⟨ub, uo, u, e1, hu, ⟨u0, u1, u2, u3⟩, _⟩ := (hV.no hf1 (fun _ => id)).elem hlt
      obtain ⟨vb, vo, v, e2, hv, ⟨v0, v1, v2, v3⟩, _⟩ := (hV'.no hf1 (fun _ => id)).elem hlt
      obtain rfl : u = v := by rw [hu] at hv; exact Option.some.inj hv
      subst e1 e2
      have g0 : ∀ g : Gr No w0, g.W.cell? ⟨ub, uo + k * 4, none⟩ = some (.string u.q) := fun g => g.fr.cell u0 id
      have g1 : ∀ g : Gr No w0, g.W.cell? ⟨ub, uo + k * 4 + 1, none⟩ = some (.string u.o) := fun g => g.fr.cell u1 id
      have g2 : ∀ g : Gr No w0, g.W.cell? ⟨ub, uo + k * 4 + 2, none⟩ = some (.string u.c) := fun g => g.fr.cell u2 id
      have g3 : ∀ g : Gr No w0, g.W.cell? ⟨ub, uo + k * 4 + 3, none⟩ = some (.int .i64 u.r) := fun g => g.fr.cell u3 id
      have h0 : ∀ g : Gr No w0, g.W.cell? ⟨vb, vo + k * 4, none⟩ = some (.string u.q) := fun g => g.fr.cell v0 id
      have h1 : ∀ g : Gr No w0, g.W.cell? ⟨vb, vo + k * 4 + 1, none⟩ = some (.string u.o) := fun g => g.fr.cell v1 id
      have h2 : ∀ g : Gr No w0, g.W.cell? ⟨vb, vo + k * 4 + 2, none⟩ = some (.string u.c) := fun g => g.fr.cell v2 id
      have h3 : ∀ g : Gr No w0, g.W.cell? ⟨vb, vo + k * 4 + 3, none⟩ = some (.int .i64 u.r) := fun g => g.fr.cell v3 id
      clear u0 u1 u2 u3 v0 v1 v2 v3 hu hv
      repeat (apply sig_q; exact rfl; exact rfl; exact rfl; intro K hK; go_big_quiet_op; go_big_quiet_on)
      refine sig_end ?_
      go_wp2_with fail
      go_roundw
      case rel => exact ⟨k + 1, by omega, by go_num, hf1⟩
      case measure => simp [intOf]; omega
    · obtain rfl : k = V.length := by omega
      go_wp2_with fail
      go_ret
      exact ⟨rfl, hf⟩

theorem sameT_self (l : List ByteArray) : sameT l l = true := by unfold sameT; simp
set_option maxRecDepth 100000 in
set_option maxHeartbeats 2000000 in
theorem same_member_eq (p i : ByteArray) (r s t e : Int) (a a' : Option Addr) (l : List ByteArray) (c c' : Nat) (w : World) (hS : Strs w a c l) (hS' : Strs w a' c' l) :
    Calls Tryz.prog 73 #[.agg #[.string p, .string i, .int .i64 r, .int .i64 s, .int .i64 t, .int .i64 e, .slice a l.length c], .agg #[.string p, .string i, .int .i64 r, .int .i64 s, .int .i64 t, .int .i64 e, .slice a' l.length c']] w fun en w' => en = .returned (.bool true) ∧ Fr No w w' := by
  have hx : Fr No w ((w.alloc (.cells #[.string p, .string i, .int .i64 r, .int .i64 s, .int .i64 t, .int .i64 e, .slice a l.length c] 58)).alloc (.cells #[.string p, .string i, .int .i64 r, .int .i64 s, .int .i64 t, .int .i64 e, .slice a' l.length c'] 58)) := ((Fr.refl _ _).alloc _).alloc _
  have hst := same_texts a a' c c' l l _ (hS.no hx (fun _ => id)) (hS'.no hx (fun _ => id))
  rw [sameT_self] at hst
  have Hx := Lib.hid hx
  clear hx hS hS'
  go_enter Tryz.func73, Tryz.ntmps73
  go_wp2_with fail
  refine hst.mono ?_
  rintro en w1 ⟨rfl, hf1⟩
  have hfin := Hx.out.step hf1 (fun _ _ h => h)
  clear hst hf1
  go_wp2_with fail
  go_ret
  exact ⟨rfl, hfin⟩

theorem mem_k {m m' : Mem} (h : m.k = m'.k) : m' = { m with a := m'.a, c := m'.c } := by
  cases m; cases m'
  simp only [Mem.k, Mem.mk.injEq] at h ⊢
  obtain ⟨h1, h2, h3, h4, h5, h6, _, h8, _⟩ := h
  exact ⟨h1.symm, h2.symm, h3.symm, h4.symm, h5.symm, h6.symm, trivial, h8.symm, trivial⟩
set_option maxRecDepth 100000 in
set_option maxHeartbeats 2000000 in
theorem same_members_eq (a a' : Option Addr) (cap cap' : Nat) (O O' : List Mem) (w : World) (hO : Mems w a cap O) (hO' : Mems w a' cap' O') (he : O.map Mem.k = O'.map Mem.k) :
    Calls Tryz.prog 18 #[.slice a O.length cap, .slice a' O'.length cap'] w fun e w' => e = .returned (.bool true) ∧ Fr No w w' := by
  have hm := hO.lenmax
  have hlen : O'.length = O.length := by have := congrArg List.length he; simp at this; exact this.symm
  rw [hlen]
  have Hlen := Lib.hid hlen
  clear hlen
  have He := Lib.hid he
  clear he
  go_enter Tryz.func18, Tryz.ntmps18
  go_wp2_with fail
  go_loopw [5] (fun i wr => ∃ k : Nat, k ≤ O.length ∧ i = .int .i64 (k : Int) ∧ Fr No w wr) (fun i _ => O.length - (intOf i).toNat)
  case atStart => exact ⟨0, by omega, rfl, Fr.refl _ _⟩
  case round =>
    obtain ⟨k, hk, rfl, hf⟩ := hrel
    by_cases hlt : k < O.length
    · have hlt1 : (k : Int) < O.length := by omega
      go_wp2_with fail
      refine region_sig No [(0, false), (1, false), (2, false), (3, false), (4, false), (5, false), (6, false), (7, false), (8, true), (9, false)] (by kernel_rfl) (by kernel_rfl) (fun w0 hf0 => ?_)
      have hf1 := hf.step hf0 (fun _ _ h => h)
      obtain ⟨ub, uo, u, e1, hu, hSu, ⟨u0, u1, u2, u3, u4, u5, u6⟩, _⟩ := (hO.no hf1 (fun _ => id)).elem hlt
      obtain ⟨vb, vo, v, e2, hv, hSv, ⟨v0, v1, v2, v3, v4, v5, v6⟩, _⟩ := (hO'.no hf1 (fun _ => id)).elem (show k < O'.length by have := Hlen.out; omega)
      have huv : u.k = v.k := by
        have h1 : (O.map Mem.k)[k]? = some u.k := by rw [List.getElem?_map, hu]; rfl
        rw [He.out, List.getElem?_map, hv] at h1
        exact (Option.some.inj h1).symm
      have hv' := mem_k huv
      obtain ⟨pa, ia, ra, sa, ta, ea, aa, la, ca⟩ := u
      generalize v.a = va at hv'
      generalize v.c = vc at hv'
      subst hv'
      subst e1 e2
      simp only at u0 u1 u2 u3 u4 u5 u6 v0 v1 v2 v3 v4 v5 v6 hSu hSv
      have g0 : ∀ g : Gr No w0, g.W.cell? ⟨ub, uo + k * 7, none⟩ = some (.string pa) := fun g => g.fr.cell u0 id
      have g1 : ∀ g : Gr No w0, g.W.cell? ⟨ub, uo + k * 7 + 1, none⟩ = some (.string ia) := fun g => g.fr.cell u1 id
      have g2 : ∀ g : Gr No w0, g.W.cell? ⟨ub, uo + k * 7 + 2, none⟩ = some (.int .i64 ra) := fun g => g.fr.cell u2 id
      have g3 : ∀ g : Gr No w0, g.W.cell? ⟨ub, uo + k * 7 + 3, none⟩ = some (.int .i64 sa) := fun g => g.fr.cell u3 id
      have g4 : ∀ g : Gr No w0, g.W.cell? ⟨ub, uo + k * 7 + 4, none⟩ = some (.int .i64 ta) := fun g => g.fr.cell u4 id
      have g5 : ∀ g : Gr No w0, g.W.cell? ⟨ub, uo + k * 7 + 5, none⟩ = some (.int .i64 ea) := fun g => g.fr.cell u5 id
      have g6 : ∀ g : Gr No w0, g.W.cell? ⟨ub, uo + k * 7 + 6, none⟩ = some (.slice aa la.length ca) := fun g => g.fr.cell u6 id
      have h0 : ∀ g : Gr No w0, g.W.cell? ⟨vb, vo + k * 7, none⟩ = some (.string pa) := fun g => g.fr.cell v0 id
      have h1 : ∀ g : Gr No w0, g.W.cell? ⟨vb, vo + k * 7 + 1, none⟩ = some (.string ia) := fun g => g.fr.cell v1 id
      have h2 : ∀ g : Gr No w0, g.W.cell? ⟨vb, vo + k * 7 + 2, none⟩ = some (.int .i64 ra) := fun g => g.fr.cell v2 id
      have h3 : ∀ g : Gr No w0, g.W.cell? ⟨vb, vo + k * 7 + 3, none⟩ = some (.int .i64 sa) := fun g => g.fr.cell v3 id
      have h4 : ∀ g : Gr No w0, g.W.cell? ⟨vb, vo + k * 7 + 4, none⟩ = some (.int .i64 ta) := fun g => g.fr.cell v4 id
      have h5 : ∀ g : Gr No w0, g.W.cell? ⟨vb, vo + k * 7 + 5, none⟩ = some (.int .i64 ea) := fun g => g.fr.cell v5 id
      have h6 : ∀ g : Gr No w0, g.W.cell? ⟨vb, vo + k * 7 + 6, none⟩ = some (.slice va la.length vc) := fun g => g.fr.cell v6 id
      have Hsu := Lib.hid hSu
      have Hsv := Lib.hid hSv
      clear u0 u1 u2 u3 u4 u5 u6 v0 v1 v2 v3 v4 v5 v6 hu hv huv hSu hSv
      repeat (apply sig_q; exact rfl; exact rfl; exact rfl; intro K hK; go_big_quiet_op; go_big_quiet_on)
      clear g0 g1 g2 g3 g4 g5 g6 h0 h1 h2 h3 h4 h5 h6
      apply sig_m
      exact rfl
      go_wp2_with fail
      refine (same_member_eq pa ia ra sa ta ea aa va la ca vc _ Hsu.out Hsv.out).mono ?_
      rintro en w1 ⟨rfl, hf2⟩
      have Hf := Lib.hid (hf1.step hf2 (fun _ _ h => h))
      go_wp2_with fail
      refine OnlyN.mk ⟨hf2, ?_⟩
      clear hf2
      repeat (apply sig_q; exact rfl; exact rfl; exact rfl; intro K hK; go_big_quiet_op; go_big_quiet_on)
      refine sig_end ?_
      go_wp2_with fail
      go_roundw
      case rel => exact ⟨k + 1, by omega, by go_num, Hf.out⟩
      case measure => simp [intOf]; omega
    · obtain rfl : k = O.length := by omega
      go_wp2_with fail
      go_ret
      exact ⟨rfl, hf⟩
end Go.Proofs.YtbblkknndaoefaaGreatDoor
namespace Go.Proofs.YtbblkknndaoefaaGreatDoor
open Go.RowKit Go.Maps
set_option linter.unusedVariables false

theorem mflat_get : ∀ (L : List Mem) (j : Nat) (u : Value), (mflat L)[j]? = some u → ∃ m, L[j / 7]? = some m ∧ m.vals[j % 7]? = some u
  | [], j, u, h => by simp [mflat] at h
  | x :: t, j, u, h => by
    have e : mflat (x :: t) = x.vals.toList ++ mflat t := by simp [mflat]
    have hl : x.vals.toList.length = 7 := by simp [Mem.vals]
    rw [e] at h
    by_cases hj : j < 7
    · rw [List.getElem?_append_left (by omega)] at h
      refine ⟨x, by rw [show j / 7 = 0 by omega]; rfl, ?_⟩
      rw [show j % 7 = j by omega, ← Array.getElem?_toList]; exact h
    · rw [List.getElem?_append_right (by omega), hl] at h
      obtain ⟨m, h1, h2⟩ := mflat_get t (j - 7) u h
      refine ⟨m, ?_, ?_⟩
      · rw [show j / 7 = (j - 7) / 7 + 1 by omega]; simpa using h1
      · rw [show j % 7 = (j - 7) % 7 by omega]; exact h2
theorem mflat_append (L M : List Mem) : mflat (L ++ M) = mflat L ++ mflat M := by simp [mflat]
theorem mflat_one (L : List Mem) : ∀ u ∈ mflat L, u.oneCell' = true := by
  intro u hu
  obtain ⟨m, _, h⟩ := List.mem_flatMap.1 hu
  exact mvals_one m u h
/-- The cells of a slice of members, from the n-th on. -/
theorem Mems.src {w : World} {a : Option Addr} {cap : Nat} {L : List Mem} (h : Mems w a cap L) (n : Nat) : ∀ ad, a = some ad → ∀ j u, (mflat (L.drop n))[j]? = some u → w.cell? ⟨ad.block, ad.off + n * 7 + j, none⟩ = some u := by
  intro ad e j u hu
  obtain ⟨m, h1, h2⟩ := mflat_get _ _ _ hu
  rw [List.getElem?_drop] at h1
  obtain ⟨_, _, h3⟩ := h.cell ad e (by intro e; subst e; simp at h1)
  have h4 := h3 (n + j / 7) m h1 (j % 7) (by omega)
  rw [← h2, ← h4]
  congr 2
  omega
theorem Mems.srcT {w : World} {a : Option Addr} {cap : Nat} {L : List Mem} (h : Mems w a cap L) (n : Nat) : ∀ ad, a = some ad → ∀ j u, (mflat (L.take n))[j]? = some u → w.cell? ⟨ad.block, ad.off + j, none⟩ = some u := by
  intro ad e j u hu
  obtain ⟨m, h1, h2⟩ := mflat_get _ _ _ hu
  have h1' : L[j / 7]? = some m := by
    rw [List.getElem?_take] at h1
    split at h1
    · exact h1
    · cases h1
  obtain ⟨_, _, h3⟩ := h.cell ad e (by intro e; subst e; simp at h1')
  have h4 := h3 (j / 7) m h1' (j % 7) (by omega)
  rw [← h2, ← h4]
  congr 2
  omega

theorem Mems.from_if {w : World} {a : Option Addr} {cap : Nat} {L : List Mem} (h : Mems w a cap L) (n : Nat) (hn : n ≤ L.length) :
    (∀ ad, (if cap = n then a else Option.map (fun x => x.add (n * 7)) a) = some ad → ∀ j u, (mflat (L.drop n))[j]? = some u → w.cell? (ad.add j) = some u) ∧
    ((if cap = n then a else Option.map (fun x => x.add (n * 7)) a) = none → L.length - n = 0 ∧ cap - n = 0) := by
  have hl := h.len
  constructor
  · intro ad e j u hu
    have hne : L ≠ [] := by intro e; subst e; simp [mflat] at hu
    split at e
    · rename_i hc
      have : L.drop n = [] := List.drop_eq_nil_of_le (by omega)
      rw [this] at hu
      simp [mflat] at hu
    · obtain ⟨ad', e', rfl⟩ := Option.map_eq_some_iff.1 e
      have hsp := (h.cell ad' e' hne).1
      have h1 := h.src n ad' e' j u hu
      obtain ⟨b, o, sp⟩ := ad'
      simp only at hsp h1
      subst hsp
      rw [Addr.add_lit, Addr.add_lit]
      exact h1
  · intro e
    split at e
    · rename_i hc
      obtain ⟨h1, h2⟩ := h.isNil e
      rw [h1]; simp; omega
    · obtain ⟨h1, h2⟩ := h.isNil (Option.map_eq_none_iff.1 e)
      rw [h1]; simp; omega
theorem Mems.upto {w : World} {a : Option Addr} {cap : Nat} {L : List Mem} (h : Mems w a cap L) (n : Nat) (hn : n ≤ L.length) :
    (∀ ad, a = some ad → ∀ j u, (mflat (L.take n))[j]? = some u → w.cell? (ad.add j) = some u) ∧ (a = none → n = 0 ∧ cap = 0) := by
  constructor
  · intro ad e j u hu
    have hne : L ≠ [] := by intro e; subst e; simp [mflat] at hu
    have hsp := (h.cell ad e hne).1
    have h1 := h.srcT n ad e j u hu
    obtain ⟨b, o, sp⟩ := ad
    simp only at hsp h1
    subst hsp
    rw [Addr.add_lit]
    exact h1
  · intro e
    obtain ⟨h1, h2⟩ := h.isNil e
    rw [h1] at hn
    exact ⟨by simpa using hn, h2⟩

/-- Different paths. -/
def Diff (L : List Mem) : Prop := L.Pairwise (fun m o => m.p ≠ o.p)
theorem diff_turn {L : List Mem} (h : Diff L) (n : Nat) : Diff (L.drop n ++ L.take n) := by
  have hp : (L.take n ++ L.drop n).Perm (L.drop n ++ L.take n) := List.perm_append_comm
  rw [List.take_append_drop] at hp
  exact hp.pairwise h (fun h => Ne.symm h)
theorem turn_mem (L : List Mem) (n : Nat) (m : Mem) : m ∈ L ↔ m ∈ L.drop n ++ L.take n := by
  have hp : (L.take n ++ L.drop n).Perm (L.drop n ++ L.take n) := List.perm_append_comm
  rw [List.take_append_drop] at hp
  exact hp.mem_iff
theorem diff_of {L : List Mem} (h : ∀ (i j : Nat) (m o : Mem), j < i → L[i]? = some m → L[j]? = some o → m.p ≠ o.p) : Diff L := by
  unfold Diff
  rw [List.pairwise_iff_getElem]
  intro i j hi hj hij
  exact Ne.symm (h j i _ _ hij (List.getElem?_eq_getElem hj) (List.getElem?_eq_getElem hi))
end Go.Proofs.YtbblkknndaoefaaGreatDoor
namespace Go.Proofs.YtbblkknndaoefaaGreatDoor
open Go.RowKit Go.Maps
set_option linter.unusedVariables false

theorem app_small2 {L R : List Mem} {K : List ByteArray} (hL : MemSmall2 L) (hl : L.length ≤ 100) (hR : FewOk R K) (hin : ∀ m ∈ R, MemIn m) : MemSmall2 (L ++ R) := by
  have h2 := hR.n
  refine ⟨by rw [List.length_append]; omega, ?_, ?_, ?_, ?_⟩ <;> intro m hm <;> rcases List.mem_append.1 hm with h | h
  · exact hL.p m h
  · have := (hR.m m h).1; omega
  · exact hL.i m h
  · have := (hR.m m h).2.1; omega
  · exact hL.l m h
  · have := (hR.m m h).2.2; omega
  · exact hL.s m h
  · exact (hin m h).s
theorem small_of2 {L : List Mem} (h : MemSmall2 L) : MemSmall L := ⟨h.len, h.p, h.i, h.l⟩

set_option maxRecDepth 100000 in
set_option maxHeartbeats 8000000 in
theorem vgroups_walk (la : Option Addr) (lc : Nat) (l : List Int) (ra : Option Addr) (rc : Nat) (R : List Mem) (rd : Int) (w : World) (hl : Ints w la lc l) (hR : Mems w ra rc R) (hin : ∀ m ∈ R, MemIn m) (hrd : (Lit.int .i64 rd).wf = true) (hE : Env w) :
    Calls Tryz.prog 7 #[.slice la l.length lc, .slice ra R.length rc, .int .i64 rd] w fun e w' => e = .returned (.bool true) ∧ Fr No w w' := by
  obtain ⟨i0, hi0, hz0, hz1, hz2⟩ := info_parts infoM
  have hfew := few34 ra rc R w hR hin
  have hrm := hR.lenmax
  go_enter Tryz.func7, Tryz.ntmps7
  go_wp2_with fail
  refine hfew.mono ?_
  rintro e w1 ⟨⟨b, rfl, hb⟩, hf1⟩
  have hE1 := hE.no hf1
  clear hfew
  cases b with
  | false =>
    go_wp2_with fail
    refine (known34 w1 hE1).mono ?_
    rintro e wf ⟨rfl, hff⟩
    have hfin := hf1.step hff (fun _ _ h => h)
    go_wp2_with fail
    go_ret
    exact ⟨rfl, hfin⟩
  | true =>
    have hok := hb rfl
    have hl1 := hl.no hf1 (fun _ => id)
    have hR1 := hR.no hf1 (fun _ => id)
    have hx : Fr No w1 (w1.alloc (.cells #[.slice la l.length lc, .int .i64 0] 29)) := (Fr.refl _ _).alloc _
    have ht := Tape.make hl1 29
    have hE0 := hE1.no hx
    have hs0 : (w1.alloc (.cells #[.slice la l.length lc, .int .i64 0] 29)).heap.size = w1.heap.size + 1 := by simp
    have hsz := hE1.sz
    obtain ⟨W0, hW0⟩ : ∃ W0, W0 = w1.alloc (.cells #[.slice la l.length lc, .int .i64 0] 29) := ⟨_, rfl⟩
    rw [← hW0] at hx ht hE0 hs0
    have hs0' : w1.heap.size + 1 ≤ W0.heap.size := by omega
    have hpv := made_pvs w1.heap.size w1.heap.size 0 8 W0 ht (by omega) (by omega)
    have Hx := Lib.hid (hf1.step hx (fun _ _ h => h))
    have hxk := hx
    have hs1 := hf1.size
    have HW0 := Lib.hid hW0.symm
    have Hok := Lib.hid hok
    have Hin := Lib.hid hin
    have hrl := hok.n
    clear hs0 hx hE hE1 hf1 hl1 hl hR ht hok hb hin hW0
    go_wp2_with fail
    rw [HW0.out]
    clear HW0
    refine hpv.mono ?_
    rintro e w2 ⟨⟨L, a1, c1, k1, rfl, hL, hLf, hLm, hLo, hLl, hk1, ht1, hown⟩, hf2⟩
    have hE2 := hE0.fr hf2 (fun b hb h => by unfold Is at h; omega)
    have hfx2 : Fr (From w1.heap.size) w1 w2 := (hxk.mono (fun _ _ h => h.elim)).step hf2 (fun b _ h => by unfold Is at h; unfold From; omega)
    have hR2 := hR1.keep hfx2 (fun b hb h => by unfold From at h; omega)
    have hfw2 : Fr No w w2 := Hx.out.trans hf2 (fun _ _ h => h) (fun b hb h => by unfold Is at h; omega)
    have hup := hR2.upto R.length (Nat.le_refl _)
    rw [List.take_length] at hup
    have hs2 := hf2.size
    clear hpv hL hLf hk1 ht1 hf2 hE0 hxk
    have Hown := Lib.hid hown
    go_wp2_with (at_builtin; refine wpList_append_src rfl _ _ 23 rfl W0.heap.size 58 i0 (.agg #[.string ByteArray.empty, .string ByteArray.empty, .int .i64 0, .int .i64 0, .int .i64 0, .int .i64 0, .slice none 0 0]) 7 88 Tryz.underlying23 hi0 hz0 hz1 hz2 rfl (by decide) _ _ _ rfl hown _ R.length _ (mflat R) rfl hup.2 (by rw [mflat_len]) hup.1 (mflat_one _) (by unfold maxLen; omega) (by omega) (by first | omega | (simp; done) | (simp; omega)) ?_; intro v3 w3 own3 gr3; obtain ⟨av, cv, rfl⟩ := ownsRow_slice own3)
    have hg3 : Fr (From W0.heap.size) w2 w3 := (Fr.of_grown gr3).mono (fun b _ h => ownsRow_blk Hown.out h)
    have hR3 := hR1.keep (hfx2.step hg3 (fun b _ h => by unfold From at *; omega)) (fun b hb h => by unfold From at h; omega)
    have hL3 : MFresh w3 W0.heap.size L := MFresh.own hLm Hown.out (Fr.of_grown gr3)
    obtain ⟨Q, hQ⟩ : ∃ Q, Q = L ++ R := ⟨_, rfl⟩
    have hQl : L.length + R.length = Q.length := by rw [hQ, List.length_append]
    have hsmQ : MemSmall2 Q := by rw [hQ]; exact app_small2 (pv_small hLo (by omega)) (by omega) Hok.out Hin.out
    have hSQ : ∀ m ∈ Q, Strs w3 m.a m.c m.l := fun m hm => by
      rw [hQ] at hm
      rcases List.mem_append.1 hm with h | h
      · exact (hL3 m h).1
      · exact hR3.ok m h
    have hownQ : w3.ownsRow W0.heap.size 58 7 (.slice av Q.length cv) Q.length (mflat Q) := by rw [← hQl, hQ, mflat_append]; exact own3
    obtain ⟨a6, c6, e6, hM3, _⟩ := Mems.of_own hownQ hSQ
    cases e6
    have hfw3 : Fr No w w3 := hfw2.trans hg3 (fun _ _ h => h) (fun b hb h => by unfold From at h; omega)
    have hE3 := hE2.fr hg3 (fun b hb h => by unfold From at h; omega)
    obtain ⟨m0, hm3⟩ := hE3.len
    have hs3 := hg3.size
    clear hg3 hR3 hL3 hSQ hownQ own3 gr3 hup hfx2 hR2 hR1 hfw2 hE2 hLm hown Hown hQ
    rw [hQl]
    clear hQl
    have hvg := v_group av cv Q m0 w3 hM3 hsmQ hm3 (by omega)
    go_wp2_with fail
    refine hvg.mono ?_
    rintro e w4 ⟨⟨oa, oc, O, ids, rfl, hO, _, _, hids, hOe, _, _⟩, hf4⟩
    have HOe := Lib.hid hOe
    have Hids := Lib.hid hids
    have hM4 := hM3.no hf4 (fun _ => id)
    have hm4 := hf4.cell hm3 id
    have hE4 := hE3.no hf4
    have hs4 := hf4.size
    have hfw4 := hfw3.step hf4 (fun _ _ h => h)
    clear hvg hf4 hOe hids hM3 hm3 hE3 hfw3
    have hrg := ref_group34 av cv Q m0 w4 hM4 (small_of2 hsmQ) hm4 (by omega)
    go_wp2_with fail
    refine hrg.mono ?_
    rintro e w5 ⟨⟨pa, pc, P, rfl, hP, hPe⟩, hf5⟩
    have hOP : O.map ArrM.toArr = P.map ArrM.toArr := by rw [HOe.out, hPe, Hids.out.unique (ids34 Q)]
    have hO5 := hO.no hf5 (fun _ => id)
    have hE5 := hE4.no hf5
    have hs5 := hf5.size
    have hfw5 := hfw4.step hf5 (fun _ _ h => h)
    have hsa := same_arrays_eq oa pa oc pc O P w5 hO5 hP hOP
    have HPe := Lib.hid hPe
    clear hrg hf5 hPe hM4 hm4 hE4 hfw4 hO hOP hO5
    go_wp2_with fail
    refine hsa.mono ?_
    rintro e w6 ⟨rfl, hf6⟩
    have hP6 := hP.no hf6 (fun _ => id)
    have hE6 := hE5.no hf6
    have hfw6 := hfw5.step hf6 (fun _ _ h => h)
    have hpm := hP6.lenmax
    clear hsa hf6 hP hE5 hfw5 HOe Hids
    go_wp2_with fail
    go_loopw [10] (fun i wr => ∃ j : Nat, j ≤ P.length ∧ i = .int .i64 (j : Int) ∧ Fr No w6 wr) (fun i _ => P.length - (intOf i).toNat)
    case atStart => exact ⟨0, by omega, rfl, Fr.refl _ _⟩
    case round =>
      obtain ⟨j, hj, rfl, hf⟩ := hrel
      by_cases hlt : j < P.length
      · have hlt' : (j : Int) < P.length := by omega
        go_wp2_with fail
        refine region_sig No [(0, false), (1, false), (2, false), (3, false), (4, false), (6, false), (7, false), (8, false), (9, false), (10, false), (5, true), (11, true), (12, true), (13, false), (14, false), (15, false), (16, false), (17, false), (18, false), (20, false), (21, false), (22, false), (23, false), (19, true), (24, true), (25, true), (26, false), (27, false)] (by kernel_rfl) (by kernel_rfl) (fun w0 hf0 => ?_)
        have hfx := hf.step hf0 (fun _ _ h => h)
        obtain ⟨pb, po, A, rfl, hAj, ⟨hS1, hS2⟩, ⟨c0, c1, c2, c3, c4, c5⟩, _⟩ := (hP6.no hfx (fun _ => id)).elem hlt
        have hAx : ∃ x, x ∈ idsW (Q.filter soundB) ∧ A.toArr = buildA (best2 soundB Q) x := by
          have h1 : (P.map ArrM.toArr)[j]? = some A.toArr := by rw [List.getElem?_map, hAj]; rfl
          rw [HPe.out, List.getElem?_map] at h1
          rcases hx : (idsW (Q.filter soundB))[j]? with _ | x
          · rw [hx] at h1; cases h1
          · rw [hx] at h1
            exact ⟨x, List.mem_of_getElem? hx, (Option.some.inj h1).symm⟩
        obtain ⟨x, hxm, hAe⟩ := hAx
        have hsz3 := arr_small hsmQ sound_t hxm
        rw [← hAe] at hsz3
        obtain ⟨hz1, hz2, hz3⟩ := hsz3
        have hEw := hE6.no hfx
        have Hfx := Lib.hid hfx
        obtain ⟨⟨ai, aps, at_, ae, an, al⟩, qa, qc, ia, ic⟩ := A
        simp only at c0 c1 c2 c3 c4 c5 hS1 hS2 hz1 hz2 hz3
        have hG : ∀ (W : World), Fr No w0 W → (∀ g : Gr No W, g.W.cell? ⟨pb, po + j * 6, none⟩ = some (.string ai)) ∧ (∀ g : Gr No W, g.W.cell? ⟨pb, po + j * 6 + 1, none⟩ = some (.slice qa aps.length qc)) ∧ (∀ g : Gr No W, g.W.cell? ⟨pb, po + j * 6 + 2, none⟩ = some (.int .i64 at_)) ∧ (∀ g : Gr No W, g.W.cell? ⟨pb, po + j * 6 + 3, none⟩ = some (.int .i64 ae)) ∧ (∀ g : Gr No W, g.W.cell? ⟨pb, po + j * 6 + 4, none⟩ = some (.int .i64 an)) ∧ (∀ g : Gr No W, g.W.cell? ⟨pb, po + j * 6 + 5, none⟩ = some (.slice ia al.length ic)) := fun W h =>
          ⟨fun g => g.fr.cell (h.cell c0 id) id, fun g => g.fr.cell (h.cell c1 id) id, fun g => g.fr.cell (h.cell c2 id) id, fun g => g.fr.cell (h.cell c3 id) id, fun g => g.fr.cell (h.cell c4 id) id, fun g => g.fr.cell (h.cell c5 id) id⟩
        have HG := Lib.hid hG
        obtain ⟨g0, g1, g2, g3, g4, g5⟩ := hG w0 (Fr.refl _ _)
        have hwn := v_want ai at_ ae an rd qa aps.length qc ia ic al w0 hEw hz1 hS2 hz2
        have HS := Lib.hid (And.intro hS1 hS2)
        have HE := Lib.hid hEw
        clear hAe hxm c0 c1 c2 c3 c4 c5 hS1 hS2 hf hf0 hfx hAj hEw hG
        repeat (first | (apply sig_q; exact rfl; exact rfl; exact rfl; intro K hK; go_big_quiet_op; go_big_quiet_on) | (apply sig_skip; exact rfl; exact rfl; exact rfl; intro K hK; go_big_quiet_op; go_big_quiet_on))
        clear g0 g1 g2 g3 g4 g5
        apply sig_m
        exact rfl
        go_wp2_with fail
        refine hwn.mono ?_
        rintro e w7 ⟨⟨ua, uc, U, rfl, hU, hUe⟩, hf7⟩
        have HUe := Lib.hid hUe
        have hrw := ref_want ai at_ ae an rd qa aps.length qc ia ic al w7 (HE.out.no hf7) hz1 (HS.out.2.no hf7 (fun _ => id)) hz2
        have Hf7 := Lib.hid hf7
        clear hwn hUe
        go_wp2_with fail
        refine OnlyN.mk ⟨hf7, ?_⟩
        clear hf7
        apply sig_m
        exact rfl
        go_wp2_with fail
        refine hrw.mono ?_
        rintro e w8 ⟨⟨va, vc, V, rfl, hV, hVe⟩, hf8⟩
        have hUV : U = V := by rw [HUe.out, hVe]
        subst hUV
        have hsv := same_virtuals_eq ua va uc vc U w8 (hU.no hf8 (fun _ => id)) hV
        have Hf8 := Lib.hid (Hf7.out.step hf8 (fun _ _ h => h))
        clear hrw hVe hU hV HUe
        go_wp2_with fail
        refine OnlyN.mk ⟨hf8, ?_⟩
        clear hf8
        apply sig_m
        exact rfl
        go_wp2_with fail
        refine hsv.mono ?_
        rintro e w9 ⟨rfl, hf9⟩
        have Hf9 := Lib.hid (Hf8.out.step hf9 (fun _ _ h => h))
        clear hsv
        go_wp2_with fail
        refine OnlyN.mk ⟨hf9, ?_⟩
        clear hf9
        obtain ⟨g0, g1, g2, g3, g4, g5⟩ := HG.out w9 Hf9.out
        repeat (first | (apply sig_q; exact rfl; exact rfl; exact rfl; intro K hK; go_big_quiet_op; go_big_quiet_on) | (apply sig_skip; exact rfl; exact rfl; exact rfl; intro K hK; go_big_quiet_op; go_big_quiet_on))
        clear g0 g1 g2 g3 g4 g5
        have hvl := v_lacks ai at_ ae an (.slice ia al.length ic) qa qc aps w9 (HS.out.1.no Hf9.out (fun _ => id)) (by omega)
        apply sig_m
        exact rfl
        go_wp2_with fail
        refine hvl.mono ?_
        rintro e w10 ⟨⟨xa, xc, rfl, hX⟩, hf10⟩
        have hrl := ref_lacks ai at_ ae an (.slice ia al.length ic) qa qc aps w10 (HS.out.1.no (Hf9.out.step hf10 (fun _ _ h => h)) (fun _ => id)) (by omega)
        have Hf10 := Lib.hid (Hf9.out.step hf10 (fun _ _ h => h))
        clear hvl
        go_wp2_with fail
        refine OnlyN.mk ⟨hf10, ?_⟩
        clear hf10
        apply sig_m
        exact rfl
        go_wp2_with fail
        refine hrl.mono ?_
        rintro e w11 ⟨⟨ya, yc, rfl, hY⟩, hf11⟩
        have hsi := ints_same xa ya xc yc (lacksF aps aps.length) (lacksF aps aps.length) w11 (hX.no hf11 (fun _ => id)) hY
        have Hf11 := Lib.hid (Hf10.out.step hf11 (fun _ _ h => h))
        clear hrl hX hY
        go_wp2_with fail
        refine OnlyN.mk ⟨hf11, ?_⟩
        clear hf11
        apply sig_m
        exact rfl
        go_wp2_with fail
        refine hsi.mono ?_
        rintro e w12 ⟨rfl, hf12⟩
        have Hf12 := Lib.hid (Hfx.out.step (Hf11.out.step hf12 (fun _ _ h => h)) (fun _ _ h => h))
        clear hsi
        go_wp2_with fail
        refine OnlyN.mk ⟨hf12, ?_⟩
        clear hf12
        repeat (first | (apply sig_q; exact rfl; exact rfl; exact rfl; intro K hK; go_big_quiet_op; go_big_quiet_on) | (apply sig_skip; exact rfl; exact rfl; exact rfl; intro K hK; go_big_quiet_op; go_big_quiet_on))
        refine sig_end ?_
        go_wp2_with fail
        go_roundw
        case rel => exact ⟨j + 1, by omega, by go_num, Hf12.out⟩
        case measure => simp [intOf]; omega
      · obtain rfl : j = P.length := by omega
        have hfw7 := hfw6.step hf (fun _ _ h => h)
        have hkn := known34 wr (hE6.no hf)
        clear hf
        go_wp2_with fail
        refine hkn.mono ?_
        rintro e wf ⟨rfl, hff⟩
        have hfin := hfw7.step hff (fun _ _ h => h)
        go_wp2_with fail
        go_ret
        exact ⟨rfl, hfin⟩
end Go.Proofs.YtbblkknndaoefaaGreatDoor
namespace Go.Proofs.YtbblkknndaoefaaGreatDoor
open Go.ChangeShapes Go.WideShapes Go.RowKit
set_option linter.unusedVariables false

theorem gES : Tryz.prog.globalNamed "strconv.ErrSyntax" = some 3 := by kernel_rfl
theorem gESType : (Tryz.prog.globals[3]?).map (·.type) = some 167 := by kernel_rfl
theorem gER : Tryz.prog.globalNamed "strconv.ErrRange" = some 4 := by kernel_rfl
theorem gERType : (Tryz.prog.globals[4]?).map (·.type) = some 167 := by kernel_rfl
theorem cellsE : Tryz.prog.cellsOf 267 = 1 := by kernel_rfl
theorem cellsS : Tryz.prog.cellsOf 9 = 1 := by kernel_rfl
theorem starE : "*" ++ "errors.errorString" = "*errors.errorString" := by decide
theorem rowE (u : TypeId) (h : Tryz.prog.typeName? 3 u = some "*errors.errorString") : u = 265 :=
  typeName_ptr_named (nm := "errors.errorString") (by rw [starE]; kernel_rfl) (by kernel_rfl) (by decide) u (by rw [starE]; exact h)
theorem gPow : Tryz.prog.globalNamed "internal/strconv.uint64pow10" = some 0 := by kernel_rfl
theorem gPowType : (Tryz.prog.globals[0]?).map (·.type) = some 212 := by kernel_rfl
theorem gAcc : Tryz.prog.globalNamed "unicode/utf8.acceptRanges" = some 8 := by kernel_rfl
theorem cellsU : Tryz.prog.cellsOf 176 = 1 := by kernel_rfl
theorem cellsP : Tryz.prog.cellsOf 212 = 20 := by kernel_rfl
theorem laid_lt {P : Program} {n : String} {d : DataW Unit} {r : List (String × DataW Unit)} {W : World} {g : Nat} (h : laidMet P ((n, d) :: r) W) (hg : P.globalNamed n = some g) : g < W.heap.size := by
  obtain ⟨ps, ⟨g0, t0, cs0, f0, p0, q0, hg0, ht0, hv0, _⟩, _⟩ := h
  unfold World.var? at hv0
  rw [hg] at hv0
  simp only [Option.bind_some] at hv0
  cases hh : W.heap[g]? with
  | none => simp [hh] at hv0
  | some o => exact (Array.getElem?_eq_some_iff.1 hh).1

theorem env_of {W : World} (hsh : W.ShapedOpen Tryz.prog) (hL : laidMet Tryz.prog Rows.cryptOwnersRow.laid W) : Env W := by
  obtain ⟨m, hm⟩ := cell_of_shapedOpen_int (P := Tryz.prog) (g := 1) (t := 3) (zero := #[.int .i64 0]) hsh (of_decide_eq_true (by kernel_rfl)) (by kernel_rfl) rfl (by kernel_rfl) (by kernel_rfl) Tryz.underlying3
  have hLr := hL.tail.tail.tail.tail
  have hA := laid_lt hL.tail.tail.tail gAcc
  obtain ⟨ar, sr, hvr, -, -, -⟩ := laid_sentinel hLr gER gERType Tryz.underlying167 rowE Tryz.underlying265 Tryz.underlying267 rfl rfl Tryz.underlying9 cellsE cellsS
  obtain ⟨asx, ssx, hvs, -, -, -⟩ := laid_sentinel hLr.tail gES gESType Tryz.underlying167 rowE Tryz.underlying265 Tryz.underlying267 rfl rfl Tryz.underlying9 cellsE cellsS
  have c5 : W.cell? ⟨3, 0, none⟩ = some (.iface 265 (.pointer (some asx))) := by have h0 := World.var?_cell gES hvs 0; simpa using h0
  have c6 : W.cell? ⟨4, 0, none⟩ = some (.iface 265 (.pointer (some ar))) := by have h0 := World.var?_cell gER hvr 0; simpa using h0
  exact ⟨⟨m, hm⟩, ⟨⟨_, c5, .inr ⟨_, _, rfl⟩⟩, ⟨_, c6, .inr ⟨_, _, rfl⟩⟩⟩, Lib.tabIs_of_head gPow gPowType Tryz.underlying212 Tryz.underlying176 cellsU cellsP hL.tail.tail, hA⟩
end Go.Proofs.YtbblkknndaoefaaGreatDoor
namespace Go.Proofs.YtbblkknndaoefaaGreatDoor
open Go
variable {H : Type} {enc : TypeId × Value → H}

/-- As the library's wrap; the contract is told the laid variables, the world's shape and the size bound of the arguments. -/
theorem returns_laid_sized {a : Assume} {C : Checked} {os : Os} {f : FuncId} {fn : Func} {s : ChangeSpec} {conds : List PathCond} {apart fresh handsOn again : Bool} {X : World → Array Value → Prop}
    (hX : ∀ (w w' : World) (args : Array Value), w.heap = w'.heap → X w args → X w' args)
    (own : ownKnob C.prog.godebug = none) (started : os.Started) (noInit : C.prog.inits.idxOf? f = none) (hfn : C.prog.funcs[f]? = some fn)
    (witness : ∃ (w : World) (tape : Go.Tape) (i : Input), w.os = os ∧ (w.forCall tape i).Shaped C.prog ∧ i.vars = [] ∧ Input.okWide C.prog (w.forCall tape i) .any w.heap.size f i ∧
      ((s.pre enc C.prog fn conds apart (w.forCall tape i).memory i.args ∧ X (w.forCall tape i).memory i.args) ∧ sizedMet enc C.prog fn (OpenSpec.ofChange s) apart (w.forCall tape i).memory i.args) ∧ a.holds C.prog (lone (Frame.enter C.prog f i.args .normal) [] (w.forCall tape i)))
    (contract : ∀ (W : World) (base : Nat) (args : Array Value) (ds2 gs2 : List (DataW H)) (before2 : List MemPlace),
      (∀ (j : Nat) t v, fn.params[j]? = some t → args[j]? = some v → Value.okWide C.prog W .any base t v) →
      DataW.Whole enc C.prog fn.params.toList s.vars apart W args.toList ds2 gs2 before2 →
      (DataW.weightsEach C.prog (fn.params.toList ++ (OpenSpec.ofChange s).bare.plain.varTypes C.prog) (ds2 ++ gs2)).all (· ≤ reachBytes) = true →
      X W args → W.ShapedOpen C.prog →
      Calls C.prog f args W fun e W' => ∃ v, e = .returned v ∧ s.post enc C.prog fn apart fresh handsOn again W args v W') :
    ReturnsInHanded a C os f .any (fun w args => (s.pre enc C.prog fn conds apart w args ∧ X w args) ∧ sizedMet enc C.prog fn (OpenSpec.ofChange s) apart w args) (s.post enc C.prog fn apart fresh handsOn again) := by
  refine returnsInHanded_of_calls own started noInit witness ?_
  intro w tape i _ hsh _ hok hpre hholds
  obtain ⟨_, _, _, fn', hfn', _, _, _, _, hval⟩ := hok
  have e : fn' = fn := Option.some.inj (hfn'.symm.trans hfn)
  subst e
  obtain ⟨⟨⟨ds, gs, before, hw, hc⟩, hx⟩, _, ds2, gs2, before2, hw2, hz⟩ := hpre
  have hw2' := DataW.Whole.of_heap (w' := w.forCall tape i) (by rfl) hw2
  refine (contract (w.forCall tape i) w.heap.size i.args ds2 gs2 before2 hval hw2' hz (hX _ _ _ (by rfl) hx) hsh).mono fun e W' ⟨v, he, hp⟩ => ?_
  subst he
  exact ChangeSpec.post_blind hp
end Go.Proofs.YtbblkknndaoefaaGreatDoor
