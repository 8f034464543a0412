/- tree.Ancestors. -/
import Derived.Test.YtanaompgapiikaaGreatDoorR1
import Derived.Test.YtanaompgapiikaaGreatDoorG3
import Derived.Test.YtanaompgapiikaaGreatDoorTB
import Derived.Test.YtanaompgapiikaaGreatDoorTr
import Derived.Test.YtanaompgapiikaaGreatDoorRI
namespace Go.Proofs.YtanaompgapiikaaGreatDoor
open Go.RowKit Go.Maps Go.Shelf
set_option linter.unusedVariables false
attribute [local go_sem] Oper.semAt_some

theorem ownsRow_at {w w1 : World} {base : Nat} {e : TypeId} {size : Nat} {v : Value} {n : Nat} {xs : List Value} (h : w.ownsRow base e size v n xs) {S : Nat → Prop} (hf : Fr S w w1) (hS : ∀ b, v.ownBlock = some b → ¬ S b) : w1.ownsRow base e size v n xs := by
  obtain ⟨h0, ⟨rfl, h2⟩ | ⟨g, cap, cur, rfl, hg, hb, h1, h2, h3, h4⟩⟩ := h
  · exact ⟨h0, .inl ⟨rfl, h2⟩⟩
  · exact ⟨h0, .inr ⟨g, cap, cur, rfl, hg, hf.heap hb (hS g rfl), h1, h2, h3, h4⟩⟩

/-- What the loop of Ancestors owns. -/
structure AncI (w0 : World) (n : Int) (N t3 t5 : Nat) (pre : List Dev) (V : Nat → Prop) (W : World) : Prop where
  row : ∃ av cv l, W.heap[t5]? = some (.cells #[.slice av l.length cv] 23) ∧ W.ownsRow N 36 10 (.slice av l.length cv) l.length (flat l) ∧ l.map Dev.index = (pre.filter fun d => d.index != n).map Dev.index ∧ (∀ b, V b ↔ b = t5 ∨ (Value.slice av l.length cv).ownBlock = some b)
  idx : W.heap[t3]? = some (.cells #[.int .i64 n] 3)
  fr : Fr (From w0.heap.size) w0 W
theorem AncI.lt {w0 : World} {n : Int} {N t3 t5 : Nat} {pre : List Dev} {V : Nat → Prop} {W : World} (h : AncI w0 n N t3 t5 pre V W) : ∀ b, V b → b < W.heap.size := by
  obtain ⟨av, cv, l, h1, h2, h3, h4⟩ := h.row
  intro b hb
  rcases (h4 b).1 hb with rfl | hb
  · exact lt_of_block h1
  · exact ownsRow_lt h2 hb
theorem AncI.keep {w0 : World} {n : Int} {N t3 t5 : Nat} {pre : List Dev} {V S : Nat → Prop} {A B : World} (h : AncI w0 n N t3 t5 pre V A) (hf : Fr S A B) (hS : ∀ b, S b → ¬ V b ∧ b ≠ t3 ∧ w0.heap.size ≤ b) : AncI w0 n N t3 t5 pre V B := by
  obtain ⟨av, cv, l, h1, h2, h3, h4⟩ := h.row
  exact ⟨⟨av, cv, l, hf.heap h1 (fun h => (hS _ h).1 ((h4 _).2 (.inl rfl))), ownsRow_at h2 hf (fun b hb h => (hS _ h).1 ((h4 _).2 (.inr hb))), h3, h4⟩, hf.heap h.idx (fun h => (hS _ h).2.1 rfl), h.fr.step hf (fun b hb h => (hS _ h).2.2)⟩

theorem AncI.push {w0 : World} {n : Int} {N t3 t5 : Nat} {pre : List Dev} {V : Nat → Prop} {W w4 : World} {av av' : Option Addr} {cv cv' : Nat} {q : List Dev} {x d' : Dev} (h : AncI w0 n N t3 t5 pre V W)
    (h3 : q.map Dev.index = (pre.filter fun d => d.index != n).map Dev.index) (h4 : ∀ b, V b ↔ b = t5 ∨ (Value.slice av q.length cv).ownBlock = some b) (hf : Fr V W w4) (k5 : w4.heap[t5]? = some (.cells #[.slice av q.length cv] 23))
    (ho : w4.ownsRow N 36 10 (.slice av' (q.length + 1) cv') (q.length + 1) (flat q ++ d'.vals.toList)) (hne : (x.index != n) = true) (hd : d'.index = x.index) (ht : t5 < N ∧ t3 < N ∧ t3 ≠ t5 ∧ w0.heap.size ≤ t5) (ho' : ∀ b, (Value.slice av q.length cv).ownBlock = some b → N ≤ b) :
    roundOk N (AncI w0 n N t3 t5) (pre ++ [x]) V W .normal { tmps := #[], defers := [] } (w4.setCell ⟨t5, 0, none⟩ (.slice av' (q.length + 1) cv')) := by
  have hs : Fr (Is t5) w4 (w4.setCell ⟨t5, 0, none⟩ (.slice av' (q.length + 1) cv')) := Fr.setAt (Fr.refl _ _) _
  have hV5 : V t5 := (h4 _).2 (.inl rfl)
  have hV3 : ¬ V t3 := fun h => ((h4 _).1 h).elim (fun e => ht.2.2.1 e) (fun e => by have := ho' _ e; omega)
  have hfs := hf.step hs (fun b _ e => by unfold Is at e; subst e; exact hV5)
  have hVw : ∀ b, V b → w0.heap.size ≤ b := fun b hb => ((h4 b).1 hb).elim (fun e => by omega) (fun e => by have := ho' _ e; omega)
  refine ⟨fun b => b = t5 ∨ (Value.slice av' (q.length + 1) cv').ownBlock = some b, fun b hb => hb.elim (fun e => .inl (e ▸ hV5)) (fun e => .inr (ownsRow_blk ho e)), ⟨⟨av', cv', q ++ [d'], ?_, ?_, ?_, ?_⟩, hfs.heap h.idx hV3, h.fr.step hfs (fun b _ hb => hVw b hb)⟩, hfs⟩
  · have := block_setCell k5 0 (.slice av' (q.length + 1) cv')
    simpa using this
  · rw [List.length_append, flat_snoc]
    exact ownsRow_at ho hs (fun b hb e => by have := ownsRow_blk ho hb; unfold Is at e; unfold From at this; omega)
  · rw [List.map_append, List.filter_append, List.map_append, h3]
    simp [hne, hd]
  · intro b; rw [List.length_append]; rfl

set_option maxRecDepth 100000 in
set_option maxHeartbeats 1000000 in
theorem tree_ancestors (a : Option Addr) (cap base : Nat) (ds : List Dev) (n : Int) (w : World) (hl : Tr w base a cap ds) (hn : ds.length ≤ 1000) (hx : (Lit.int .i64 n).wf = true) :
    Calls Tryz.prog 66 #[.agg #[.slice a ds.length cap], .int .i64 n] w fun e w' => (∃ a' c' l, e = .returned (.slice a' l.length c') ∧ Devs w' a' c' l ∧ l.map Dev.index = (chain ds n).tail.map Dev.index ∧ ∀ ad, a' = some ad → w.heap.size ≤ ad.block) ∧ Fr No w w' := by
  have hT := hl.wf.1
  refine (callsIn_wide (n := 12)).1 (callsIn_of_wp_marks Tryz.func66 rfl trivial (wpIn_wide.2 ?_))
  simp only [Tryz.ntmps66, List.size_toArray, List.length_cons, List.length_nil, Nat.reduceAdd, Nat.reduceSub, Array.replicate_succ, Array.replicate_zero, List.push_toArray, List.append_toArray, List.nil_append, List.cons_append]
  have hW : Fr No w (((w.alloc (.cells #[.slice a ds.length cap] 25)).alloc (.cells #[.int .i64 n] 3)).alloc (.cells #[.slice none 0 0] 23)) := (((Fr.refl _ _).alloc _).alloc _).alloc _
  have b2 := (((Fr.refl No _).alloc (.cells #[.int .i64 n] 3)).alloc (.cells #[.slice none 0 0] 23)).heap (block_alloc w (.cells #[.slice a ds.length cap] 25)) id
  have b3 := ((Fr.refl No _).alloc (.cells #[.slice none 0 0] 23)).heap (block_alloc2 w (.cells #[.slice a ds.length cap] 25) (.cells #[.int .i64 n] 3)) id
  have b5 := block_alloc2 (w.alloc (.cells #[.slice a ds.length cap] 25)) (.cells #[.int .i64 n] 3) (.cells #[.slice none 0 0] 23)
  rw [World.size_alloc] at b5
  have hs5 : (((w.alloc (.cells #[.slice a ds.length cap] 25)).alloc (.cells #[.int .i64 n] 3)).alloc (.cells #[.slice none 0 0] 23)).heap.size = w.heap.size + 3 := by simp
  go_wp2_with fail
  generalize ((w.alloc (.cells #[.slice a ds.length cap] 25)).alloc (.cells #[.int .i64 n] 3)).alloc (.cells #[.slice none 0 0] 23) = W0 at *
  refine region_sig No [(0, false), (2, false), (1, true), (3, true)] (by kernel_rfl) (by kernel_rfl) (fun w0 hf0 => ?_)
  have hfr0 := hW.step hf0 (fun _ _ h => h)
  have c2 := hf0.heap b2 id
  have c3 := hf0.heap b3 id
  have c5 := hf0.heap b5 id
  have hs0 := hf0.size
  clear b2 b3 b5 hf0 hW
  have g0 : ∀ g : Gr No w0, g.W.cell? ⟨w.heap.size, 0, none⟩ = some (.slice a ds.length cap) := fun g => g.fr.cell (cell_of_block c2 0) id
  have g1 : ∀ g : Gr No w0, g.W.cell? ⟨w.heap.size + 1, 0, none⟩ = some (.int .i64 n) := fun g => g.fr.cell (cell_of_block c3 0) id
  repeat (apply sig_q; exact rfl; exact rfl; exact rfl; intro K hK; go_big_quiet_op; go_big_quiet_on)
  apply sig_m
  exact rfl
  go_wp2_with fail
  refine (tree_look a cap ds _ (hl.dv.no hfr0 (fun _ => id)) hT hn).mono ?_
  rintro e w1 ⟨⟨m1, m2, rfl, hm1, hm2, hm12, hI, hS⟩, hf1⟩
  go_wp2_with fail
  refine OnlyN.mk ⟨hf1, ?_⟩
  apply sig_m
  exact rfl
  go_wp2_with fail
  refine (view_up _ _ _ _ _).mono ?_
  rintro e w2 ⟨rfl, rfl⟩
  go_wp2_with fail
  refine OnlyN.mk ⟨((Fr.refl _ _).alloc _).alloc _, ?_⟩
  refine sig_end ?_
  clear g0 g1
  have hs1 := hf1.size
  have hf2 : Fr No w1 ((w1.alloc (.cells #[.slice a ds.length cap, .map (some m1), .map (some m2)] 160)).alloc (.cells #[.int .i64 n] 3)) := ((Fr.refl _ _).alloc _).alloc _
  have hUp : UpAt ((w1.alloc (.cells #[.slice a ds.length cap, .map (some m1), .map (some m2)] 160)).alloc (.cells #[.int .i64 n] 3)) a cap ds m1 m2 w1.heap.size (w1.heap.size + 1) :=
    ⟨((hl.dv.no hfr0 (fun _ => id)).no hf1 (fun _ => id)).no hf2 (fun _ => id), VAt.fr ⟨hI, hS⟩ hf2 id id, block_alloc1 _ _ _⟩
  have hbn := block_alloc2 w1 (.cells #[.slice a ds.length cap, .map (some m1), .map (some m2)] 160) (.cells #[.int .i64 n] 3)
  have hsz : ((w1.alloc (.cells #[.slice a ds.length cap, .map (some m1), .map (some m2)] 160)).alloc (.cells #[.int .i64 n] 3)).heap.size = w1.heap.size + 2 := by simp
  have d3 := hf2.heap (hf1.heap c3 id) id
  have d5 := hf2.heap (hf1.heap c5 id) id
  have hfw := (hfr0.step hf1 (fun _ _ h => h)).step hf2 (fun _ _ h => h)
  have hm1l : m1 < w1.heap.size := hI.lt
  have hm2l : m2 < w1.heap.size := hS.lt
  have hal : ∀ ad, a = some ad → ds ≠ [] → ad.block < w.heap.size := fun ad e hne => (hl.dv.cell ad e hne).2.1
  clear hI hS c2 c3 c5 hf2 hf1 hfr0
  go_wp2_with fail
  generalize (w1.alloc (.cells #[.slice a ds.length cap, .map (some m1), .map (some m2)] 160)).alloc (.cells #[.int .i64 n] 3) = W2 at *
  refine (wpIn_wide (n := 12)).1 (wpIn_range_fr (α := Dev) (T := Is (w1.heap.size + 1)) (V0 := Is (w.heap.size + 1 + 1)) rfl (by omega) (gf := 158) (lb := #[.pointer (some ⟨w1.heap.size, 0, none⟩), .pointer (some ⟨w1.heap.size + 1, 0, none⟩)]) rfl trivial (enters_of Tryz.func158 (by kernel_rfl) rfl) (encs := fun d : Dev => #[.agg d.vals]) (fun _ => rfl) (fun b h => by unfold Is at h; omega) (fun b h => by unfold Is at h; omega)
    (up_gives 11 (by omega) a cap ds m1 m2 w1.heap.size (w1.heap.size + 1) n W2 (Is (w.heap.size + 1 + 1)) hUp hT hbn hx ⟨by omega, by omega, by omega, fun ad e hne h => by have := hal ad e hne; omega⟩ ⟨by omega, by omega⟩ ⟨fun h => by unfold Is at h; omega, fun h => by unfold Is at h; omega, fun h => by unfold Is at h; omega, fun h => by unfold Is at h; omega, fun ad e hne h => by have := hal ad e hne; unfold Is at h; omega⟩)
    (AncI w n (W2.heap.size + 2) (w.heap.size + 1) (w.heap.size + 1 + 1)) (fun _ _ _ h => h.lt) (fun s V A B S h hf hS => h.keep hf (fun b hb => ⟨(hS b hb).1, (hS b hb).2.elim (fun h => by unfold Is at h; omega) (fun h => by omega), (hS b hb).2.elim (fun h => by unfold Is at h; omega) (fun h => by omega)⟩))
    ⟨⟨none, 0, [], d5, World.ownsRow_nil _ _ _ _, rfl, fun b => by simp [Is, Value.ownBlock]⟩, d3, hfw.mono (fun _ _ h => h.elim)⟩
    (fun x V a' W => ∃ Bx, W2.heap.size + 2 ≤ Bx ∧ W.heap[Bx]? = some (.cells x.vals 36) ∧ ¬ V Bx ∧ a' = { tmps := #[.agg #[.slice a ds.length cap], .int .i64 n, .pointer (some ⟨w.heap.size, 0, none⟩), .pointer (some ⟨w.heap.size + 1, 0, none⟩), .slice none 0 0, .pointer (some ⟨w.heap.size + 1 + 1, 0, none⟩), .pointer (some ⟨Bx, 0, none⟩), .agg #[.slice a ds.length cap], .agg #[.slice a ds.length cap, .map (some m1), .map (some m2)], .int .i64 n, .func (.func 158) #[] #[.pointer (some ⟨w1.heap.size, 0, none⟩), .pointer (some ⟨w1.heap.size + 1, 0, none⟩)], .agg x.vals, undef, undef, undef, undef, undef, undef, undef, undef, undef, undef], defers := [] })
    (fun x V a' A B h hf => by obtain ⟨Bx, h1, h2, h3, h4⟩ := h; exact ⟨Bx, h1, hf.heap h2 (fun e => by unfold Is at e; omega), h3, h4⟩)
    ?assign ?body ?done)
  case assign =>
    intro l pre V x W K hi hsz2 hK
    have hlt := hi.lt
    have hK' := fun a' W' (h1 : Fr No W W') h2 => hK a' W' h1 h2
    unfold Dev.vals
    gi_wp2
    exact hK _ _ ((Fr.refl _ _).alloc _) ⟨W.heap.size, hsz2, block_alloc _ _, fun h => by have := hlt _ h; omega, rfl⟩
  case done =>
    rintro V W hi hK hnV
    obtain ⟨av, cv, l, h1, h2, h3, h4⟩ := hi.row
    have c5 : W.cell? ⟨w.heap.size + 1 + 1, 0, none⟩ = some (.slice av l.length cv) := cell_of_block h1 0
    rw [hT.anc n] at h3
    have hput : Fr (Is W2.heap.size) W (W.putObj W2.heap.size (.deferred none)) := Fr.putObj _ _ _ rfl
    have h2' := ownsRow_at h2 hput (fun b hb e => by unfold Is at e; subst e; exact hnV ((h4 _).2 (.inr hb)))
    obtain ⟨a', c', hv, hD, hfresh⟩ := Devs.of_own (ownsRow_base h2' (show w.heap.size ≤ W2.heap.size + 2 by have := hfw.size; omega))
    have hfin : Fr No w (W.putObj W2.heap.size (.deferred none)) := (hi.fr.step hput (fun b hb e => by unfold Is at e; have := hfw.size; omega)).mono (fun b hb h => by unfold From at h; omega)
    cases hv
    have H := Lib.hid (And.intro hD (And.intro h3 (And.intro hfresh hfin)))
    clear hD h3 hfresh hfin h2 h2' hput h4 hfw
    go_wp2
    refine ⟨by simp, .inl ⟨_, _, rfl, run_takeDeferred hK, ?_⟩⟩
    exact ⟨_, results_tmp rfl _ _ _, ⟨_, _, l, rfl, H.out.1, H.out.2.1, H.out.2.2.1⟩, H.out.2.2.2⟩
  case body =>
    rintro l pre V x a' W hi ⟨Bx, hBx, hbx, hVx, rfl⟩ hpre hsz2
    obtain ⟨av, cv, q, h1, h2, h3, h4⟩ := hi.row
    have x0 : W.cell? ⟨Bx, 0, none⟩ = some (.int .i64 x.index) := cell_of_block hbx 0
    have x3 : W.cell? ⟨w.heap.size + 1, 0, none⟩ = some (.int .i64 n) := cell_of_block hi.idx 0
    rcases hxn : (x.index == n) with _ | _
    · obtain ⟨i0, hi0, hz0, hz1, hz2⟩ := info_parts infoD
      have hxd : x ∈ chain ds n := List.IsPrefix.subset hpre (by simp)
      obtain ⟨la, hA, han, hla⟩ := ((hl.keep hi.fr (fun b h1 _ h2 => by unfold From at h2; omega)).el x (chain_mem hxd)).att
      have hql : q.length ≤ 1000 := by
        have h5 := congrArg List.length h3
        simp only [List.length_map] at h5
        have h6 := List.length_filter_le (fun d => d.index != n) pre
        have h7 := hpre.length_le
        have h8 := chain_len ds n
        simp at h7
        omega
      have hVl := hi.lt
      have hne : (x.index != n) = true := by simpa using hxn
      have Hne := Lib.hid hne
      have H3 := Lib.hid h3
      have H4 : Hid (∀ b, V b ↔ b = w.heap.size + 1 + 1 ∨ (Value.slice av q.length cv).ownBlock = some b) := h4
      have Hi := Lib.hid hi
      have Hl := Lib.hid (And.intro hql hla)
      have Han := Lib.hid han
      have Hsz2 := Lib.hid hsz2
      have Htt : Hid (w.heap.size + 1 + 1 < W2.heap.size + 2 ∧ w.heap.size + 1 < W2.heap.size + 2 ∧ w.heap.size + 1 ≠ w.heap.size + 1 + 1 ∧ w.heap.size ≤ w.heap.size + 1 + 1) := ⟨by omega, by omega, by omega, by omega⟩
      have Hst : Hid (∀ b, (Value.slice av q.length cv).ownBlock = some b → b ≠ w.heap.size + 1 + 1) := fun b e => by have := ownsRow_blk h2 e; unfold From at this; omega
      clear hne h3 h4 hi hpre hxd hql hla han hsz2 hsz
      gi_wp2
      refine region_tree_in V (.q 1 (.m2 0 (.m1 2 (.m1 3 (.m1 4 (.m1 5 .fin)))) 2 (.m2 0 (.m1 3 (.m1 4 (.m1 5 .fin))) 3 (.m1 0 (.m1 4 (.m1 5 .fin)))))) _ (by kernel_rfl) (by kernel_rfl) (fun W0 hf0 => ?_) (fun _ _ h => h)
      have k0 := hf0.heap hbx id
      have k1 := hf0.heap h1 id
      have k2 := ownsRow_at h2 hf0 (fun _ _ => id)
      have k3 := hA.no hf0 (fun _ => id)
      have k4 := hf0.size
      have e0 : ∀ g : Gr V W0, g.W.cell? ⟨Bx, 0, none⟩ = some (.int .i64 x.index) := fun g => g.fr.cell (cell_of_block k0 0) hVx
      have e1 : ∀ g : Gr V W0, g.W.cell? ⟨Bx, 1, none⟩ = some (.int .i64 x.parent) := fun g => g.fr.cell (cell_of_block k0 1) hVx
      have e2 : ∀ g : Gr V W0, g.W.cell? ⟨Bx, 2, none⟩ = some (.string x.name) := fun g => g.fr.cell (cell_of_block k0 2) hVx
      have e3 : ∀ g : Gr V W0, g.W.cell? ⟨Bx, 3, none⟩ = some (.string x.orig) := fun g => g.fr.cell (cell_of_block k0 3) hVx
      have e4 : ∀ g : Gr V W0, g.W.cell? ⟨Bx, 4, none⟩ = some (.string x.sub) := fun g => g.fr.cell (cell_of_block k0 4) hVx
      have e5 : ∀ g : Gr V W0, g.W.cell? ⟨Bx, 5, none⟩ = some (.string x.drv) := fun g => g.fr.cell (cell_of_block k0 5) hVx
      have e6 : ∀ g : Gr V W0, g.W.cell? ⟨Bx, 6, none⟩ = some (.string x.ali) := fun g => g.fr.cell (cell_of_block k0 6) hVx
      have e7 : ∀ g : Gr V W0, g.W.cell? ⟨Bx, 7, none⟩ = some (.int .i64 x.kind) := fun g => g.fr.cell (cell_of_block k0 7) hVx
      have e8 : ∀ g : Gr V W0, g.W.cell? ⟨Bx, 8, none⟩ = some (.int .i64 x.num) := fun g => g.fr.cell (cell_of_block k0 8) hVx
      have e9 : ∀ g : Gr V W0, g.W.cell? ⟨Bx, 9, none⟩ = some (.slice x.aa x.an x.ac) := fun g => g.fr.cell (cell_of_block k0 9) hVx
      apply tree_q
      exact rfl
      exact rfl
      exact rfl
      intro K hK
      go_big_quiet_op
      go_big_quiet_on
      have c5 : W0.cell? ⟨w.heap.size + 1 + 1, 0, none⟩ = some (.slice av q.length cv) := cell_of_block k1 0
      clear e0 e1 e2 e3 e4 e5 e6 e7 e8 e9
      refine tree_m2 rfl rfl ?_ ?_
      · skip
        go_wp2_with fail
        refine OnlyN.mk ⟨Fr.refl _ _, ?_⟩
        apply tree_m1
        exact rfl
        go_wp2_with fail
        refine (dev_copied x la _ k3 Han.out (by have := Hl.out.2; omega)).mono ?_
        rintro e w3 ⟨⟨aa', ac', rfl, hA', hf'⟩, hf3⟩
        unfold Dev.vals
        have k6 := hf3.heap k1 id
        have k7 := ownsRow_at k2 hf3 (fun _ _ => id)
        have k8 := hf3.size
        have c6 : w3.cell? ⟨w.heap.size + 1 + 1, 0, none⟩ = some (.slice av q.length cv) := cell_of_block k6 0
        go_wp2_with fail
        refine OnlyN.mk ⟨hf3.mono (fun _ _ h => h.elim), ?_⟩
        apply tree_m1
        exact rfl
        go_wp2_with fail
        refine OnlyN.mk ⟨(Fr.refl _ _).alloc _, ?_⟩
        apply tree_m1
        exact rfl
        go_wp2_with (at_builtin; refine wpList_append_own _ rfl _ _ 23 rfl (W2.heap.size + 2) 36 i0 (.agg #[.int .i64 0, .int .i64 0, .string ByteArray.empty, .string ByteArray.empty, .string ByteArray.empty, .string ByteArray.empty, .string ByteArray.empty, .int .i64 0, .int .i64 0, .slice none 0 0]) 10 136 Tryz.underlying23 hi0 hz0 hz1 hz2 rfl (by decide) _ _ _ rfl (k7.alloc _) ⟨w3.heap.size, 0, none⟩ 1 1 ({ x with aa := aa', ac := ac' } : Dev).vals.toList rfl rfl (cells_new _ ({ x with aa := aa', ac := ac' } : Dev).vals _ rfl) (vals_one _) (by have := Hl.out.1; unfold maxLen; omega) (by have := Hl.out.1; omega) (by have := Hsz2.out; simp; omega) ?_; intro v' w4 hown4 hgrow4 _; obtain ⟨av', cv', rfl⟩ := ownsRow_slice hown4)
        have hg4 : Fr V _ w4 := (Fr.of_grown hgrow4).mono (fun b _ e => (H4.out b).2 (.inr e))
        have k10 := (Fr.of_grown hgrow4).heap (((Fr.refl No w3).alloc _).heap k6 id) (fun e => Hst.out _ e rfl)
        have x5 : w4.cell? ⟨w.heap.size + 1 + 1, 0, none⟩ = some (.slice av q.length cv) := cell_of_block k10 0
        have y5 : w4.frozen? ⟨w.heap.size + 1 + 1, 0, none⟩ = false := free_of_block k10 0
        refine OnlyN.mk ⟨hg4, ?_⟩
        apply tree_m1
        exact rfl
        have HF := Lib.hid (AncI.push (x := x) (d' := { x with aa := aa', ac := ac' }) Hi.out H3.out H4.out (((hf0.mono (fun _ _ h => h.elim)).step (hf3.alloc _) (fun _ _ h => h.elim)).step hg4 (fun _ _ h => h)) k10 hown4 Hne.out rfl Htt.out (fun b e => ownsRow_blk h2 e))
        have HV5 : Hid (V (w.heap.size + 1 + 1)) := (H4.out _).2 (.inl rfl)
        clear hown4 hgrow4 hg4 k10 k6 k7
        go_wp2_with fail
        refine OnlyN.mk ⟨Fr.setCell (Fr.refl _ _) (fun _ => HV5.out) _, ?_⟩
        refine tree_end ?_
        exact HF.out
      · skip
        go_wp2_with fail
        refine (dev_copied x la _ k3 Han.out (by have := Hl.out.2; omega)).mono ?_
        rintro e w3 ⟨⟨aa', ac', rfl, hA', hf'⟩, hf3⟩
        unfold Dev.vals
        have k6 := hf3.heap k1 id
        have k7 := ownsRow_at k2 hf3 (fun _ _ => id)
        have k8 := hf3.size
        have c6 : w3.cell? ⟨w.heap.size + 1 + 1, 0, none⟩ = some (.slice av q.length cv) := cell_of_block k6 0
        go_wp2_with fail
        refine OnlyN.mk ⟨hf3.mono (fun _ _ h => h.elim), ?_⟩
        refine tree_m2 rfl rfl ?_ ?_
        · skip
          go_wp2_with fail
          refine OnlyN.mk ⟨Fr.refl _ _, ?_⟩
          apply tree_m1
          exact rfl
          go_wp2_with fail
          refine OnlyN.mk ⟨(Fr.refl _ _).alloc _, ?_⟩
          apply tree_m1
          exact rfl
          go_wp2_with (at_builtin; refine wpList_append_own _ rfl _ _ 23 rfl (W2.heap.size + 2) 36 i0 (.agg #[.int .i64 0, .int .i64 0, .string ByteArray.empty, .string ByteArray.empty, .string ByteArray.empty, .string ByteArray.empty, .string ByteArray.empty, .int .i64 0, .int .i64 0, .slice none 0 0]) 10 136 Tryz.underlying23 hi0 hz0 hz1 hz2 rfl (by decide) _ _ _ rfl (k7.alloc _) ⟨w3.heap.size, 0, none⟩ 1 1 ({ x with aa := aa', ac := ac' } : Dev).vals.toList rfl rfl (cells_new _ ({ x with aa := aa', ac := ac' } : Dev).vals _ rfl) (vals_one _) (by have := Hl.out.1; unfold maxLen; omega) (by have := Hl.out.1; omega) (by have := Hsz2.out; simp; omega) ?_; intro v' w4 hown4 hgrow4 _; obtain ⟨av', cv', rfl⟩ := ownsRow_slice hown4)
          have hg4 : Fr V _ w4 := (Fr.of_grown hgrow4).mono (fun b _ e => (H4.out b).2 (.inr e))
          have k10 := (Fr.of_grown hgrow4).heap (((Fr.refl No w3).alloc _).heap k6 id) (fun e => Hst.out _ e rfl)
          have x5 : w4.cell? ⟨w.heap.size + 1 + 1, 0, none⟩ = some (.slice av q.length cv) := cell_of_block k10 0
          have y5 : w4.frozen? ⟨w.heap.size + 1 + 1, 0, none⟩ = false := free_of_block k10 0
          refine OnlyN.mk ⟨hg4, ?_⟩
          apply tree_m1
          exact rfl
          have HF := Lib.hid (AncI.push (x := x) (d' := { x with aa := aa', ac := ac' }) Hi.out H3.out H4.out (((hf0.mono (fun _ _ h => h.elim)).step (hf3.alloc _) (fun _ _ h => h.elim)).step hg4 (fun _ _ h => h)) k10 hown4 Hne.out rfl Htt.out (fun b e => ownsRow_blk h2 e))
          have HV5 : Hid (V (w.heap.size + 1 + 1)) := (H4.out _).2 (.inl rfl)
          clear hown4 hgrow4 hg4 k10 k6 k7
          go_wp2_with fail
          refine OnlyN.mk ⟨Fr.setCell (Fr.refl _ _) (fun _ => HV5.out) _, ?_⟩
          refine tree_end ?_
          exact HF.out
        · skip
          go_wp2_with fail
          refine OnlyN.mk ⟨(Fr.refl _ _).alloc _, ?_⟩
          apply tree_m1
          exact rfl
          have c7 : ∀ o, (w3.alloc o).cell? ⟨w.heap.size + 1 + 1, 0, none⟩ = some (.slice av q.length cv) := fun o => ((Fr.refl No w3).alloc o).cell c6 id
          go_wp2_with fail
          refine OnlyN.mk ⟨Fr.refl _ _, ?_⟩
          clear c7
          apply tree_m1
          exact rfl
          go_wp2_with (at_builtin; refine wpList_append_own _ rfl _ _ 23 rfl (W2.heap.size + 2) 36 i0 (.agg #[.int .i64 0, .int .i64 0, .string ByteArray.empty, .string ByteArray.empty, .string ByteArray.empty, .string ByteArray.empty, .string ByteArray.empty, .int .i64 0, .int .i64 0, .slice none 0 0]) 10 136 Tryz.underlying23 hi0 hz0 hz1 hz2 rfl (by decide) _ _ _ rfl (k7.alloc _) ⟨w3.heap.size, 0, none⟩ 1 1 ({ x with aa := aa', ac := ac' } : Dev).vals.toList rfl rfl (cells_new _ ({ x with aa := aa', ac := ac' } : Dev).vals _ rfl) (vals_one _) (by have := Hl.out.1; unfold maxLen; omega) (by have := Hl.out.1; omega) (by have := Hsz2.out; simp; omega) ?_; intro v' w4 hown4 hgrow4 _; obtain ⟨av', cv', rfl⟩ := ownsRow_slice hown4)
          have hg4 : Fr V _ w4 := (Fr.of_grown hgrow4).mono (fun b _ e => (H4.out b).2 (.inr e))
          have k10 := (Fr.of_grown hgrow4).heap (((Fr.refl No w3).alloc _).heap k6 id) (fun e => Hst.out _ e rfl)
          have x5 : w4.cell? ⟨w.heap.size + 1 + 1, 0, none⟩ = some (.slice av q.length cv) := cell_of_block k10 0
          have y5 : w4.frozen? ⟨w.heap.size + 1 + 1, 0, none⟩ = false := free_of_block k10 0
          refine OnlyN.mk ⟨hg4, ?_⟩
          apply tree_m1
          exact rfl
          have HF := Lib.hid (AncI.push (x := x) (d' := { x with aa := aa', ac := ac' }) Hi.out H3.out H4.out (((hf0.mono (fun _ _ h => h.elim)).step (hf3.alloc _) (fun _ _ h => h.elim)).step hg4 (fun _ _ h => h)) k10 hown4 Hne.out rfl Htt.out (fun b e => ownsRow_blk h2 e))
          have HV5 : Hid (V (w.heap.size + 1 + 1)) := (H4.out _).2 (.inl rfl)
          clear hown4 hgrow4 hg4 k10 k6 k7
          go_wp2_with fail
          refine OnlyN.mk ⟨Fr.setCell (Fr.refl _ _) (fun _ => HV5.out) _, ?_⟩
          refine tree_end ?_
          exact HF.out
    · have hne : (x.index != n) = false := by simpa using hxn
      have Hne := Lib.hid hne
      have H3 := Lib.hid h3
      clear hne h3
      gi_wp2
      exact ⟨V, fun b h => .inl h, ⟨⟨av, cv, q, h1, h2, by rw [List.filter_append, H3.out]; simp [Hne.out], h4⟩, hi.idx, hi.fr⟩, Fr.refl _ _⟩
end Go.Proofs.YtanaompgapiikaaGreatDoor
