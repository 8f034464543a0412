/- volume.Lacks. volume.Group; known: the example of the chapter of volumes. -/
import Derived.Test.YtcibciippghooaaGreatDoorZN4
import Derived.Test.YtcibciippghooaaGreatDoorZN2
import Derived.Test.YtcibciippghooaaGreatDoorZN3
import Derived.Test.YtcibciippghooaaGreatDoorZL17
namespace Go.Proofs.YtcibciippghooaaGreatDoor
open Go.RowKit Go.Maps
set_option linter.unusedVariables false
attribute [local go_sem] Oper.semAt_some

theorem lacksF_wf {ps : List ByteArray} (h : ps.length ≤ 1000000) : ∀ x ∈ lacksF ps ps.length, (Lit.int .i64 x).wf = true := by
  intro x hx
  unfold lacksF at hx
  obtain ⟨k, hk, rfl⟩ := List.mem_map.1 hx
  have := List.mem_range.1 (List.mem_filter.1 hk).1
  exact WalkArith.wf_i64 (by omega)
structure LackI (w0 : World) (N t3 : Nat) (pre : List Int) (V : Nat → Prop) (W : World) : Prop where
  row : ∃ av cv, W.heap[t3]? = some (.cells #[.slice av pre.length cv] 22) ∧ W.ownsRow N 3 1 (.slice av pre.length cv) pre.length (pre.map (Value.int .i64)) ∧ ∀ b, V b ↔ b = t3 ∨ (Value.slice av pre.length cv).ownBlock = some b
  fr : Fr (From w0.heap.size) w0 W
theorem LackI.lt {w0 : World} {N t3 : Nat} {pre : List Int} {V : Nat → Prop} {W : World} (h : LackI w0 N t3 pre V W) : ∀ b, V b → b < W.heap.size := by
  obtain ⟨av, cv, h1, h2, h4⟩ := h.row
  intro b hb
  rcases (h4 b).1 hb with rfl | hb
  · exact lt_of_block h1
  · exact ownsRow_lt h2 hb
theorem LackI.keep {w0 : World} {N t3 : Nat} {pre : List Int} {V S : Nat → Prop} {A B : World} (h : LackI w0 N t3 pre V A) (hf : Fr S A B) (hS : ∀ b, S b → ¬ V b ∧ w0.heap.size ≤ b) : LackI w0 N t3 pre V B := by
  obtain ⟨av, cv, h1, h2, h4⟩ := h.row
  exact ⟨⟨av, cv, hf.heap h1 (fun h => (hS _ h).1 ((h4 _).2 (.inl rfl))), ownsRow_at h2 hf (fun b hb h => (hS _ h).1 ((h4 _).2 (.inr hb))), h4⟩, h.fr.step hf (fun b hb h => (hS _ h).2)⟩

set_option maxRecDepth 100000 in
set_option maxHeartbeats 4000000 in
theorem v_lacks (s : ByteArray) (t e n : Int) (iv : Value) (a : Option Addr) (cap : Nat) (ps : List ByteArray) (w : World) (hS : Strs w a cap ps) (hps : ps.length ≤ 1000000) :
    Calls Tryz.prog 30 #[.agg #[.string s, .slice a ps.length cap, .int .i64 t, .int .i64 e, .int .i64 n, iv]] w fun en w' => (∃ a' c', en = .returned (.slice a' (lacksF ps ps.length).length c') ∧ Ints w' a' c' (lacksF ps ps.length)) ∧ Fr No w w' := by
  refine (callsIn_wide (n := 12)).1 (callsIn_of_wp_marks Tryz.func30 rfl trivial (wpIn_wide.2 ?_))
  simp only [Tryz.ntmps30, List.size_toArray, List.length_cons, List.length_nil, Nat.reduceAdd, Nat.reduceSub, Array.replicate_succ, Array.replicate_zero, List.push_toArray, List.append_toArray, List.nil_append, List.cons_append]
  obtain ⟨i0, hi0, hz0, hz1, hz2⟩ := info_parts infoI2
  have hW : Fr No w ((w.alloc (.cells #[.string s, .slice a ps.length cap, .int .i64 t, .int .i64 e, .int .i64 n, iv] 58)).alloc (.cells #[.slice none 0 0] 22)) := ((Fr.refl _ _).alloc _).alloc _
  have b1 := block_alloc1 w (.cells #[.string s, .slice a ps.length cap, .int .i64 t, .int .i64 e, .int .i64 n, iv] 58) (.cells #[.slice none 0 0] 22)
  have b2 := block_alloc2 w (.cells #[.string s, .slice a ps.length cap, .int .i64 t, .int .i64 e, .int .i64 n, iv] 58) (.cells #[.slice none 0 0] 22)
  have hs0 : ((w.alloc (.cells #[.string s, .slice a ps.length cap, .int .i64 t, .int .i64 e, .int .i64 n, iv] 58)).alloc (.cells #[.slice none 0 0] 22)).heap.size = w.heap.size + 2 := by simp
  have hS0 := hS.no hW (fun _ => id)
  go_upto_region 2 with (fail)
  generalize (w.alloc (.cells #[.string s, .slice a ps.length cap, .int .i64 t, .int .i64 e, .int .i64 n, iv] 58)).alloc (.cells #[.slice none 0 0] 22) = W0 at *
  have x1 : W0.cell? ⟨w.heap.size, 1, none⟩ = some (.slice a ps.length cap) := cell_of_block b1 1
  have Hs0 := Lib.hid hs0
  clear hs0
  go_wp2_with fail
  refine (v_empty _ _ _ _).mono ?_
  rintro en w1 ⟨rfl, rfl⟩
  have hx : Fr No W0 (W0.alloc (.cells #[.slice a ps.length cap] 27)) := (Fr.refl _ _).alloc _
  have d2 := hx.heap b2 id
  have db := block_alloc W0 (.cells #[.slice a ps.length cap] 27)
  have hS2 := hS0.no hx (fun _ => id)
  have hfw := hW.step hx (fun _ _ h => h)
  have hs2 : (W0.alloc (.cells #[.slice a ps.length cap] 27)).heap.size = w.heap.size + 3 := by have := Hs0.out; simp; omega
  have hal : ∀ ad, a = some ad → ps ≠ [] → ad.block < w.heap.size := fun ad e hne => (hS.cell ad e hne).2.1
  have hbs : W0.heap.size = w.heap.size + 2 := Hs0.out
  clear x1 b1 b2 hS0 hx hW
  go_wp2_with fail
  generalize W0.alloc (.cells #[.slice a ps.length cap] 27) = W2 at *
  rw [hbs] at db
  clear hbs Hs0
  refine (wpIn_wide (n := 12)).1 (wpIn_range_fr (α := Int) (T := fun _ => False) (V0 := Is (w.heap.size + 1)) rfl (by omega) (gf := 76) (lb := #[.pointer (some ⟨w.heap.size + 2, 0, none⟩)]) rfl trivial (enters_of Tryz.func76 (by kernel_rfl) rfl) (encs := fun i : Int => #[.int .i64 i]) (fun _ => rfl) (fun b h => h.elim) (fun b h => by unfold Is at h; omega)
    (empty_gives 11 (by omega) (w.heap.size + 2) a cap ps W2 (Is (w.heap.size + 1)) db hS2 hps (fun ad e hne h => by have := hal ad e hne; unfold Is at h; omega))
    (LackI w (W2.heap.size + 2) (w.heap.size + 1)) (fun _ _ _ h => h.lt) (fun s V A B S h hf hS => h.keep hf (fun b hb => ⟨(hS b hb).1, (hS b hb).2.elim (fun h => h.elim) (fun h => by omega)⟩))
    ⟨⟨none, 0, d2, World.ownsRow_nil _ _ _ _, fun b => by simp [Is, Value.ownBlock]⟩, hfw.mono (fun _ _ h => h.elim)⟩
    (fun x V a' W => a' = { tmps := #[.agg #[.string s, .slice a ps.length cap, .int .i64 t, .int .i64 e, .int .i64 n, iv], .pointer (some ⟨w.heap.size, 0, none⟩), .slice none 0 0, .pointer (some ⟨w.heap.size + 1, 0, none⟩), .int .i64 x, .pointer (some ⟨w.heap.size, 1, none⟩), .slice a ps.length cap, .func (.func 76) #[] #[.pointer (some ⟨w.heap.size + 2, 0, none⟩)], .int .i64 x, undef, undef, undef, undef, undef], defers := [] })
    (fun x V a' A B h hf => h)
    ?assign ?body ?done)
  case assign =>
    intro l pre V x W K hi hsz2 hK
    have hK' := fun a' W' (h1 : Fr No W W') h2 => hK a' W' h1 h2
    gi_wp2
    exact hK _ _ (Fr.refl _ _) rfl
  case done =>
    rintro V W hi hK hnV
    obtain ⟨av, cv, h1, h2, h4⟩ := hi.row
    have c5 : W.cell? ⟨w.heap.size + 1, 0, none⟩ = some (.slice av (lacksF ps ps.length).length cv) := cell_of_block h1 0
    have hput : Fr (Is W2.heap.size) W (W.putObj W2.heap.size (.deferred none)) := Fr.putObj _ _ _ rfl
    have h2' := ownsRow_at h2 hput (fun b hb e => by unfold Is at e; subst e; exact hnV ((h4 _).2 (.inr hb)))
    obtain ⟨a', c', hv, hD, hfresh⟩ := Ints.of_own h2' (fun x hx => lacksF_wf hps x hx)
    have hfin : Fr No w (W.putObj W2.heap.size (.deferred none)) := (hi.fr.step hput (fun b hb e => by unfold Is at e; have := hfw.size; omega)).mono (fun b hb h => by unfold From at h; omega)
    cases hv
    have H := Lib.hid (And.intro hD hfin)
    clear hD hfresh hfin h2 h2' hput h4 hfw
    go_wp2
    refine ⟨by simp, .inl ⟨_, _, rfl, run_takeDeferred hK, ?_⟩⟩
    exact ⟨_, results_tmp rfl _ _ _, ⟨_, _, rfl, H.out.1⟩, H.out.2⟩
  case body =>
    rintro l pre V x a' W hi rfl hpre hsz2
    obtain ⟨av, cv, h1, h2, h4⟩ := hi.row
    have x3 : W.cell? ⟨w.heap.size + 1, 0, none⟩ = some (.slice av pre.length cv) := cell_of_block h1 0
    have hql : pre.length ≤ 1000000 := by have := hpre.length_le; have := lacksF_len ps ps.length; simp at *; omega
    have hVl := hi.lt
    have H4 : Hid (∀ b, V b ↔ b = w.heap.size + 1 ∨ (Value.slice av pre.length cv).ownBlock = some b) := h4
    have Hi := Lib.hid hi
    have H2 := Lib.hid h2
    have H1 := Lib.hid h1
    have Hsz2 := Lib.hid hsz2
    have Hs2 := Lib.hid hs2
    have hbase : W2.heap.size + 2 ≤ W.heap.size + 1 := by omega
    clear h4 hi hpre hsz2 hs2 h1
    gi_wp2_with (gi_at_builtin; refine wpListIn_append_own _ rfl _ _ 22 rfl (W2.heap.size + 2) 3 i0 (.int .i64 0) 1 8 Tryz.underlying22 hi0 hz0 hz1 hz2 rfl (by decide) _ _ _ rfl (h2.alloc _) ⟨W.heap.size, 0, none⟩ 1 1 [.int .i64 x] rfl rfl (cell_one_new _ _ _) (ints_oneCell _ [x]) (by unfold maxLen; omega) (by omega) (by simp; omega) ?_; intro v' w4 hown4 hgrow4 _; obtain ⟨av', cv', rfl⟩ := ownsRow_slice hown4; have hal4 := (Fr.refl No W).alloc (.cells #[.int .i64 x] 3); have k10 := (Fr.of_grown hgrow4).heap (hal4.heap H1.out id) (fun e => by have := ownsRow_blk (H2.out.alloc (.cells #[.int .i64 x] 3)) e; unfold From at this; have := Hs2.out; omega); have x5 : w4.cell? ⟨w.heap.size + 1, 0, none⟩ = some (.slice av pre.length cv) := cell_of_block k10 0; have y5 : w4.frozen? ⟨w.heap.size + 1, 0, none⟩ = false := free_of_block k10 0)
    have hg4 : Fr V W w4 := (hal4.mono (fun _ _ h => h.elim)).step (Fr.of_grown hgrow4) (fun b _ e => (H4.out b).2 (.inr e))
    have hs : Fr (Is (w.heap.size + 1)) w4 (w4.setCell ⟨w.heap.size + 1, 0, none⟩ (.slice av' (pre.length + 1) cv')) := Fr.setCell (S := Is (w.heap.size + 1)) (p := ⟨w.heap.size + 1, 0, none⟩) (Fr.refl _ _) (fun _ => rfl) _
    have hV5 : V (w.heap.size + 1) := (H4.out _).2 (.inl rfl)
    have hfs := hg4.step hs (fun b _ e => by unfold Is at e; subst e; exact hV5)
    have hVw : ∀ b, V b → w.heap.size ≤ b := fun b hb => ((H4.out b).1 hb).elim (fun e => by omega) (fun e => by have := ownsRow_blk H2.out e; unfold From at this; have := Hs2.out; omega)
    refine ⟨fun b => b = w.heap.size + 1 ∨ (Value.slice av' (pre.length + 1) cv').ownBlock = some b, fun b hb => hb.elim (fun e => .inl (e ▸ hV5)) (fun e => .inr (ownsRow_blk hown4 e)), ⟨⟨av', cv', ?_, ?_, ?_⟩, Hi.out.fr.step hfs (fun b _ hb => hVw b hb)⟩, hfs⟩
    · have := block_setCell k10 0 (.slice av' (pre.length + 1) cv')
      simpa using this
    · have := ownsRow_at hown4 hs (fun b hb e => by have := ownsRow_blk hown4 hb; unfold Is at e; unfold From at this; have := Hs2.out; omega)
      simpa using this
    · intro b; rw [List.length_append]; rfl
end Go.Proofs.YtcibciippghooaaGreatDoor
namespace Go.Proofs.YtcibciippghooaaGreatDoor
open Go.RowKit Go.Maps
set_option linter.unusedVariables false

set_option maxRecDepth 100000 in
set_option maxHeartbeats 2000000 in
theorem v_group (a : Option Addr) (cap : Nat) (L : List Mem) (m0 : Int) (w : World) (hl : Mems w a cap L) (hb : MemSmall2 L) (hm0 : w.cell? ⟨3, 0, none⟩ = some (.int .i64 m0)) (hw0 : 3 < w.heap.size) :
    Calls Tryz.prog 27 #[.slice a L.length cap] w fun e w' => ArrRes w (best2 soundB L) e w' ∧ Fr No w w' := by
  have h := v_arrays a cap L m0 w hl hb hm0 hw0
  go_enter Tryz.func27, Tryz.ntmps27
  go_wp2_with fail
  refine h.mono ?_
  rintro e w1 ⟨⟨a', c', O, ids, rfl, r⟩, hf⟩
  have H := Lib.hid (And.intro r hf)
  clear r hf h
  go_wp2_with fail
  go_ret
  exact ⟨⟨a', c', O, ids, rfl, H.out.1⟩, H.out.2⟩
theorem of_known4 {w w' : World} {p s i : ByteArray} {l : List ByteArray} {rd sl t : Int} {e : Ending} {c : Ct} (h : OfRes4 w p s rd e w') (hp : parseC s = some c) (hk : c.kind = 4) (hi : c.id = i) (hsl : c.slot = sl) (htt : c.total = t) (ht : c.inner.map Ct.txt = l) :
    ∃ a cap, e = .returned (.tuple #[.agg #[.string p, .string i, .int .i64 rd, .int .i64 sl, .int .i64 t, .int .i64 t, .slice a l.length cap], .bool true]) ∧ Strs w' a cap l ∧ ∀ ad, a = some ad → w.heap.size ≤ ad.block := by
  rcases h with ⟨h1, _⟩ | ⟨c', a, cap, h1, _, h3, h4, h5⟩
  · exact absurd hk (h1 c hp)
  · rw [hp] at h1; cases h1
    have hl : c.inner.length = l.length := by rw [← ht]; simp
    rw [ht] at h4
    rw [hi, hl, hsl, htt] at h3
    exact ⟨a, cap, h3, h4, h5⟩
theorem one_arr {b : ByteArray × Int → Option Mem} {O : List ArrM} {ids : List ByteArray} {i : ByteArray} {A : Arr} (h : O.map ArrM.toArr = ids.map (buildA b)) (h1 : IsIds2 b ids) (h2 : IsIds2 b [i]) (h3 : buildA b i = A) : ∃ pa pc la lc, O = [⟨A, pa, pc, la, lc⟩] := by
  rw [h1.unique h2, List.map_cons, List.map_nil, h3] at h
  rcases O with _ | ⟨m, _ | ⟨_, _⟩⟩
  · cases h
  · obtain ⟨ar, pa, pc, la, lc⟩ := m
    simp only [List.map_cons, List.map_nil, List.cons.injEq, and_true] at h
    exact ⟨pa, pc, la, lc, by rw [h]⟩
  · cases h
theorem one_int (w : World) (x : Int) (hx : (Lit.int .i64 x).wf = true) : Ints (w.alloc (.cells #[.int .i64 x] 3)) (some ⟨w.heap.size, 0, none⟩) 1 [x] := by
  have h := block_alloc w (.cells #[.int .i64 x] 3)
  refine ⟨by simp, by unfold maxLen; simp, by simpa using hx, (fun e => by cases e), fun ad e _ => ?_⟩
  cases e
  refine ⟨rfl, lt_of_block h, fun i y hi => ?_⟩
  rw [cell_of_block h]
  rcases i with _ | i
  · simp at hi; subst hi; rfl
  · simp at hi
theorem v_small1 (a2 : Option Addr) (c2 : Nat) : MemSmall2 [vMb a2 c2] := by
  refine ⟨by simp, ?_, ?_, ?_, ?_⟩ <;> intro m hm <;> simp only [List.mem_cons, List.not_mem_nil, or_false] at hm <;> subst hm
  · exact (by decide : kPa.size ≤ 1000000)
  · exact (by decide : vId.size ≤ 1000000)
  · simp [vMb]
  · exact WalkArith.wf_i64 (by simp [vMb])
theorem v_small2 (a1 a2 : Option Addr) (c1 c2 : Nat) : MemSmall2 [vMb a2 c2, vMa a1 c1] := by
  refine ⟨by simp, ?_, ?_, ?_, ?_⟩ <;> intro m hm <;> simp only [List.mem_cons, List.not_mem_nil, or_false] at hm <;> rcases hm with rfl | rfl
  · exact (by decide : kPa.size ≤ 1000000)
  · exact (by decide : kPb.size ≤ 1000000)
  · exact (by decide : vId.size ≤ 1000000)
  · exact (by decide : vId.size ≤ 1000000)
  · simp [vMb]
  · simp [vMa]
  · exact WalkArith.wf_i64 (by simp [vMb])
  · exact WalkArith.wf_i64 (by simp [vMa])

set_option maxRecDepth 100000 in
set_option maxHeartbeats 8000000 in
theorem known34 (w : World) (hE : Env w) : Calls Tryz.prog 12 #[] w fun e w' => e = .returned (.bool true) ∧ Fr No w w' := by
  have hof1 := volume_of kPb vT1 0 w hE (by decide)
  go_enter Tryz.func12, Tryz.ntmps12
  go_wp2_with fail
  refine hof1.mono ?_
  rintro e w1 ⟨hr, hf1⟩
  obtain ⟨a1, c1, rfl, hS1, hF1⟩ := of_known4 (i := vId) (sl := 1) (t := 2) hr vP1 rfl rfl rfl rfl vX1
  clear hof1 hr
  have hE1 := hE.no hf1
  go_upto_region 2 with (fail)
  have hx1 : Fr No w1 (w1.alloc (.cells #[.string kPb, .string vId, .int .i64 0, .int .i64 1, .int .i64 2, .int .i64 2, .slice a1 2 c1] 31)) := (Fr.refl _ _).alloc _
  have q1 := block_alloc w1 (.cells #[.string kPb, .string vId, .int .i64 0, .int .i64 1, .int .i64 2, .int .i64 2, .slice a1 2 c1] 31)
  have hE2 := hE1.no hx1
  have hS1x := hS1.no hx1 (fun _ => id)
  have hfw := hf1.step hx1 (fun _ _ h => h)
  change Code.wp _ _ _ _ (w1.alloc (.cells #[.string kPb, .string vId, .int .i64 0, .int .i64 1, .int .i64 2, .int .i64 2, .slice a1 2 c1] 31))
  generalize w1.alloc (.cells #[.string kPb, .string vId, .int .i64 0, .int .i64 1, .int .i64 2, .int .i64 2, .slice a1 2 c1] 31) = W1 at *
  clear hS1 hE1 hx1 hf1 hF1
  have hof2 := volume_of kPa vT2 0 W1 hE2 (by decide)
  go_wp2_with fail
  refine hof2.mono ?_
  rintro e w2 ⟨hr, hf2⟩
  obtain ⟨a2, c2, rfl, hS2, hF2⟩ := of_known4 (i := vId) (sl := 2) (t := 2) hr vP2 rfl rfl rfl rfl vX2
  clear hof2 hr
  have hE3 := hE2.no hf2
  go_upto_region 3 with (fail)
  have hx2 : Fr No w2 (w2.alloc (.cells #[.string kPa, .string vId, .int .i64 0, .int .i64 2, .int .i64 2, .int .i64 2, .slice a2 1 c2] 31)) := (Fr.refl _ _).alloc _
  have q2 := block_alloc w2 (.cells #[.string kPa, .string vId, .int .i64 0, .int .i64 2, .int .i64 2, .int .i64 2, .slice a2 1 c2] 31)
  have hE4 := hE3.no hx2
  have hS2x := hS2.no hx2 (fun _ => id)
  have hf12 := hf2.step hx2 (fun _ _ h => h)
  have q1' := hf12.heap q1 id
  have hS1y := hS1x.no hf12 (fun _ => id)
  have hfw2 := hfw.step hf12 (fun _ _ h => h)
  change Code.wp _ _ _ _ (w2.alloc (.cells #[.string kPa, .string vId, .int .i64 0, .int .i64 2, .int .i64 2, .int .i64 2, .slice a2 1 c2] 31))
  generalize w2.alloc (.cells #[.string kPa, .string vId, .int .i64 0, .int .i64 2, .int .i64 2, .int .i64 2, .slice a2 1 c2] 31) = W2 at *
  clear hS2 hE3 hx2 hf2 hF2 hE2 q1 hS1x hf12 hfw
  have y10 : W2.cell? ⟨w1.heap.size, 0, none⟩ = some (.string kPb) := cell_of_block q1' 0
  have y11 : W2.cell? ⟨w1.heap.size, 1, none⟩ = some (.string vId) := cell_of_block q1' 1
  have y12 : W2.cell? ⟨w1.heap.size, 2, none⟩ = some (.int .i64 0) := cell_of_block q1' 2
  have y13 : W2.cell? ⟨w1.heap.size, 3, none⟩ = some (.int .i64 1) := cell_of_block q1' 3
  have y14 : W2.cell? ⟨w1.heap.size, 4, none⟩ = some (.int .i64 2) := cell_of_block q1' 4
  have y15 : W2.cell? ⟨w1.heap.size, 5, none⟩ = some (.int .i64 2) := cell_of_block q1' 5
  have y16 : W2.cell? ⟨w1.heap.size, 6, none⟩ = some (.slice a1 2 c1) := cell_of_block q1' 6
  have y20 : W2.cell? ⟨w2.heap.size, 0, none⟩ = some (.string kPa) := cell_of_block q2 0
  have y21 : W2.cell? ⟨w2.heap.size, 1, none⟩ = some (.string vId) := cell_of_block q2 1
  have y22 : W2.cell? ⟨w2.heap.size, 2, none⟩ = some (.int .i64 0) := cell_of_block q2 2
  have y23 : W2.cell? ⟨w2.heap.size, 3, none⟩ = some (.int .i64 2) := cell_of_block q2 3
  have y24 : W2.cell? ⟨w2.heap.size, 4, none⟩ = some (.int .i64 2) := cell_of_block q2 4
  have y25 : W2.cell? ⟨w2.heap.size, 5, none⟩ = some (.int .i64 2) := cell_of_block q2 5
  have y26 : W2.cell? ⟨w2.heap.size, 6, none⟩ = some (.slice a2 1 c2) := cell_of_block q2 6
  have Hq2 := Lib.hid q2
  clear q1' q2
  have hx4 : Fr No W2 (W2.alloc (.cells (mflat [vMb a2 c2, vMa a1 c1]).toArray 31)) := (Fr.refl _ _).alloc _
  have hM : Mems (W2.alloc (.cells (mflat [vMb a2 c2, vMa a1 c1]).toArray 31)) (some ⟨W2.heap.size, 0, none⟩) 2 [vMb a2 c2, vMa a1 c1] := Mems.of_block (block_alloc _ _) (by unfold maxLen; simp) (fun m hm => by
    simp only [List.mem_cons, List.not_mem_nil, or_false] at hm
    rcases hm with rfl | rfl
    · exact hS2x.no hx4 (fun _ => id)
    · exact hS1y.no hx4 (fun _ => id))
  have hE7 := hE4.no hx4
  obtain ⟨m0, hm0⟩ := hE7.len
  have hsz := hE7.sz
  have hfw4 := hfw2.step hx4 (fun _ _ h => h)
  have hS2z := hS2x.no hx4 (fun _ => id)
  have hg := v_group (some ⟨W2.heap.size, 0, none⟩) 2 [vMb a2 c2, vMa a1 c1] m0 _ hM (v_small2 _ _ _ _) hm0 (by omega)
  have q24 := hx4.heap Hq2.out id
  go_wp2_with fail
  refine hg.mono ?_
  rintro e w5 ⟨⟨ga, gc, O, ids, rfl, hO, _, _, hids, hOe, _⟩, hf5⟩
  rw [v_b2] at hids hOe
  obtain ⟨pa, pc, la, lc, rfl⟩ := one_arr hOe hids (v_ids2 a1 a2 c1 c2) (v_arr2 a1 a2 c1 c2)
  have hfw5 := hfw4.step hf5 (fun _ _ h => h)
  have q25 := hf5.heap q24 id
  have hE8 := hE7.no hf5
  have hS25 := hS2z.no hf5 (fun _ => id)
  have hm5 := hf5.cell hm0 id
  have hsz5 := hf5.size
  clear hg hids hOe hf5 hM hE7 hS2z q24 hm0 hfw4 hx4 hE4 hS1y hS2x hfw2 y10 y11 y12 y13 y14 y15 y16 y20 y21 y22 y23 y24 y25 y26 Hq2
  have y20 : w5.cell? ⟨w2.heap.size, 0, none⟩ = some (.string kPa) := cell_of_block q25 0
  have y21 : w5.cell? ⟨w2.heap.size, 1, none⟩ = some (.string vId) := cell_of_block q25 1
  have y22 : w5.cell? ⟨w2.heap.size, 2, none⟩ = some (.int .i64 0) := cell_of_block q25 2
  have y23 : w5.cell? ⟨w2.heap.size, 3, none⟩ = some (.int .i64 2) := cell_of_block q25 3
  have y24 : w5.cell? ⟨w2.heap.size, 4, none⟩ = some (.int .i64 2) := cell_of_block q25 4
  have y25 : w5.cell? ⟨w2.heap.size, 5, none⟩ = some (.int .i64 2) := cell_of_block q25 5
  have y26 : w5.cell? ⟨w2.heap.size, 6, none⟩ = some (.slice a2 1 c2) := cell_of_block q25 6
  have hx6 : Fr No w5 (w5.alloc (.cells (mflat [vMb a2 c2]).toArray 31)) := (Fr.refl _ _).alloc _
  have hM6 : Mems (w5.alloc (.cells (mflat [vMb a2 c2]).toArray 31)) (some ⟨w5.heap.size, 0, none⟩) 1 [vMb a2 c2] := Mems.of_block (block_alloc _ _) (by unfold maxLen; simp) (fun m hm => by
    simp only [List.mem_cons, List.not_mem_nil, or_false] at hm
    subst hm
    exact hS25.no hx6 (fun _ => id))
  have hg := v_group (some ⟨w5.heap.size, 0, none⟩) 1 [vMb a2 c2] m0 _ hM6 (v_small1 _ _) (hx6.cell hm5 id) (by have := hx6.size; omega)
  go_wp2_with fail
  refine hg.mono ?_
  rintro e w7 ⟨⟨ha, hc, O2, ids, rfl, hO2, _, _, hids, hOe, _⟩, hf7⟩
  rw [v_b1] at hids hOe
  obtain ⟨pa2, pc2, la2, lc2, rfl⟩ := one_arr hOe hids (v_ids1 a2 c2) (v_arr1 a2 c2)
  have hf57 := hx6.step hf7 (fun _ _ h => h)
  have hfw7 := hfw5.step hf57 (fun _ _ h => h)
  have hE9 := hE8.no hf57
  have hO7 := hO.no hf57 (fun _ => id)
  clear hg hids hOe hf7 hM6 hx6 hE8 hS25 q25 hm5 hfw5 hf57 hO y20 y21 y22 y23 y24 y25 y26
  obtain ⟨gb, go, m, rfl, hme, ⟨hP1, hL1⟩, hA1, _⟩ := hO7.elem (k := 0) (by simp)
  obtain ⟨hb, ho, m', rfl, hme2, ⟨hP2, hL2⟩, hA2, _⟩ := hO2.elem (k := 0) (by simp)
  obtain rfl : (⟨⟨vId, [kPb, kPa], 2, 2, 2, [kFx, vCc]⟩, pa, pc, la, lc⟩ : ArrM) = m := by simpa using hme
  obtain rfl : (⟨⟨vId, [⟨#[]⟩, kPa], 2, 2, 1, [⟨#[]⟩]⟩, pa2, pc2, la2, lc2⟩ : ArrM) = m' := by simpa using hme2
  obtain ⟨u0, u1, u2, u3, u4, u5⟩ := hA1
  obtain ⟨t0, t1, t2, t3, t4, t5⟩ := hA2
  simp only [Nat.zero_mul, Nat.add_zero, List.length_cons, List.length_nil, Nat.zero_add, Nat.reduceAdd] at u0 u1 u2 u3 u4 u5 t0 t1 t2 t3 t4 t5 hP1 hL1 hP2 hL2
  have hwa := v_want vId 2 2 2 1 pa 2 pc la lc [kFx, vCc] w7 hE9 (by decide) hL1 (by simp)
  clear hme hme2
  go_wp2_with fail
  refine hwa.mono ?_
  rintro e w8 ⟨⟨va, vc, V, rfl, hV, hVe⟩, hf8⟩
  rw [v_want2] at hVe
  subst hVe
  obtain ⟨vb, vo, v, rfl, hv, hvA, _⟩ := hV.elem (k := 1) (by simp)
  obtain rfl : v = ⟨⟨#[]⟩, vO2, vCc, 1⟩ := by simpa using hv.symm
  obtain ⟨v0, v1, v2, v3⟩ := hvA
  simp only [Nat.one_mul, Nat.add_assoc, Nat.reduceAdd] at v0 v1 v2 v3
  have hE10 := hE9.no hf8
  have hfw8 := hfw7.step hf8 (fun _ _ h => h)
  have t0' := hf8.cell t0 id
  have t1' := hf8.cell t1 id
  have t2' := hf8.cell t2 id
  have t3' := hf8.cell t3 id
  have t4' := hf8.cell t4 id
  have t5' := hf8.cell t5 id
  have hP2' := hP2.no hf8 (fun _ => id)
  have hwb := v_want vId 2 2 1 1 pa2 2 pc2 la2 lc2 [⟨#[]⟩] w8 hE10 (by decide) (hL2.no hf8 (fun _ => id)) (by simp)
  clear hwa hv hV hE9 hfw7 u0 u1 u2 u3 u4 u5 t0 t1 t2 t3 t4 t5 hP1 hL1 hP2 hL2 hO2 hO7 hf8
  have ho1 : vO2.toList = [108, 118, 45, 118, 45, 50] := by rw [ByteArray.toList_eq]; rfl
  have ho2 : vCc.toList = [99, 114, 121, 112, 116, 58, 99, 40, 41] := by rw [ByteArray.toList_eq]; rfl
  go_wp2_with fail
  refine hwb.mono ?_
  rintro e w9 ⟨⟨xa, xc, X, rfl, _, hXe⟩, hf9⟩
  rw [v_want1] at hXe
  subst hXe
  have hfw9 := hfw8.step hf9 (fun _ _ h => h)
  have t0 := hf9.cell t0' id
  have t1 := hf9.cell t1' id
  have t2 := hf9.cell t2' id
  have t3 := hf9.cell t3' id
  have t4 := hf9.cell t4' id
  have t5 := hf9.cell t5' id
  have hla := v_lacks vId 2 2 1 (.slice la2 1 lc2) pa2 pc2 [⟨#[]⟩, kPa] w9 (hP2'.no hf9 (fun _ => id)) (by simp)
  rw [show lacksF [⟨#[]⟩, kPa] [⟨#[]⟩, kPa].length = [1] from v_lack1] at hla
  clear hwb hf9 hfw8 hE10 t0' t1' t2' t3' t4' t5' v0 v1 v2 v3
  go_wp2_with fail
  refine hla.mono ?_
  rintro e w10 ⟨⟨ya, yc, rfl, hY⟩, hf10⟩
  have hx11 : Fr No w10 (w10.alloc (.cells #[.int .i64 1] 3)) := (Fr.refl _ _).alloc _
  have hfw11 := (hfw9.step hf10 (fun _ _ h => h)).step hx11 (fun _ _ h => h)
  have hone : Ints (w10.alloc (.cells #[.int .i64 1] 3)) (some ⟨w10.heap.size, 0, none⟩) 1 [1] := one_int _ _ (WalkArith.wf_i64 (by omega))
  have hsi := ints_same ya (some ⟨w10.heap.size, 0, none⟩) yc 1 [1] [1] _ (hY.no hx11 (fun _ => id)) hone
  rw [show decide (([1] : List Int) = [1]) = true from rfl] at hsi
  clear hla hY hf10 hx11 hone hfw9 t0 t1 t2 t3 t4 t5
  go_wp2_with fail
  refine hsi.mono ?_
  rintro e w12 ⟨rfl, hf12⟩
  have hfin := hfw11.step hf12 (fun _ _ h => h)
  clear hsi hf12 hfw11
  go_wp2_with fail
  go_ret
  exact ⟨rfl, hfin⟩
end Go.Proofs.YtcibciippghooaaGreatDoor
