/- relate.Batch. -/
import Derived.Test.YtanaompgapiikaaGreatDoorP4
import Derived.Test.YtanaompgapiikaaGreatDoorR3
namespace Go.Proofs.YtanaompgapiikaaGreatDoor
open Go.RowKit Go.Maps Go.Shelf
set_option linter.unusedVariables false
attribute [local go_sem] Oper.semAt_some

theorem Ints.src {W : World} {a : Option Addr} {cap : Nat} {l : List Int} (h : Ints W a cap l) : ∀ ad, a = some ad → ∀ j u, (l.map (Value.int .i64))[j]? = some u → W.cell? (ad.add j) = some u := by
  intro ad e j u hu
  rw [List.getElem?_map] at hu
  obtain ⟨x, hx, rfl⟩ := Option.map_eq_some_iff.1 hu
  have hlt : j < l.length := (List.getElem?_eq_some_iff.1 hx).1
  obtain ⟨b, off, y, e2, hy, hc⟩ := h.at hlt
  rw [e] at e2
  cases e2
  rw [hx] at hy
  cases hy
  rw [Addr.add_lit]
  exact hc
theorem Ints.isNil' {W : World} {a : Option Addr} {cap : Nat} {l : List Int} (h : Ints W a cap l) (e : a = none) : l.length = 0 ∧ cap = 0 := by
  obtain ⟨h1, h2⟩ := h.isNil e
  exact ⟨by rw [h1]; rfl, h2⟩

/-- A parent one of whose partitions is worked on. -/
def parF (ds : List Dev) (g : Int → Bool) (pre : List Dev) (y : Int) : Bool := pre.any fun d => (partOf ds d.index).isSome && g d.index && decide (d.parent = y)
/-- What Batch takes of some Indexes. -/
def batchL (ds : List Dev) (g wt : Int → Bool) : List Int → (Int → Bool) → List Int
  | [], _ => []
  | i :: t, par => if (g i || wt (devOf ds i).parent || ((partOf ds i).isSome && par (devOf ds i).parent)) = true then batchL ds g wt t par else i :: batchL ds g wt t (if (partOf ds i).isSome = true then upd par (devOf ds i).parent true else par)
theorem batchL_cons (ds : List Dev) (g wt : Int → Bool) (i : Int) (t : List Int) (par : Int → Bool) : batchL ds g wt (i :: t) par = if (g i || wt (devOf ds i).parent || ((partOf ds i).isSome && par (devOf ds i).parent)) = true then batchL ds g wt t par else i :: batchL ds g wt t (if (partOf ds i).isSome = true then upd par (devOf ds i).parent true else par) := rfl
/-- What waits: what is dirty or busy, and what lies below. -/
def waitD (ds : List Dev) (dl bl : List Int) : List Dev := belowL (fun x => decide (x ∈ dl ++ bl)) ds (fun _ => false)
def batchR (ds : List Dev) (dl bl : List Int) : List Int := batchL ds (fun x => decide (x ∈ bl)) (fun x => decide (x ∈ (waitD ds dl bl).map Dev.index)) (orderL dl ds) (parF ds (fun x => decide (x ∈ bl)) (waitD ds dl bl))
/-- What the range of Batch keeps. -/
structure BI (W2 : World) (mW mP : Nat) (ds : List Dev) (g : Int → Bool) (pre : List Dev) (W : World) : Prop where
  wait : ISet W mW (fun x => decide (x ∈ pre.map Dev.index)) pre.length
  par : ISet W mP (parF ds g pre) pre.length
  fr : Fr (fun b => b = mW ∨ b = mP ∨ W2.heap.size ≤ b) W2 W

theorem belowL_sub (f : Int → Bool) : ∀ (q : List Dev) (R : Int → Bool), ∀ d ∈ belowL f q R, d ∈ q
  | [], R, d, h => by simp [belowL] at h
  | x :: t, R, d, h => by
    rw [belowL_cons] at h
    split at h
    · rcases List.mem_cons.1 h with h | h
      · simp [h]
      · exact List.mem_cons_of_mem _ (belowL_sub f t _ d h)
    · exact List.mem_cons_of_mem _ (belowL_sub f t _ d h)
theorem belowL_len (f : Int → Bool) : ∀ (q : List Dev) (R : Int → Bool), (belowL f q R).length ≤ q.length
  | [], R => by simp [belowL]
  | x :: t, R => by
    rw [belowL_cons]
    split
    · have := belowL_len f t (upd R x.index true); simp; omega
    · have := belowL_len f t R; simp; omega
theorem wait_snoc (pre : List Dev) (x : Dev) : upd (fun y => decide (y ∈ pre.map Dev.index)) x.index true = fun y => decide (y ∈ (pre ++ [x]).map Dev.index) := by
  funext y
  unfold upd
  rw [List.map_append]
  by_cases e : y = x.index
  · subst e; simp
  · simp [e]
theorem parF_snoc (ds : List Dev) (g : Int → Bool) (pre : List Dev) (x : Dev) (y : Int) : parF ds g (pre ++ [x]) y = (parF ds g pre y || ((partOf ds x.index).isSome && g x.index && decide (x.parent = y))) := by
  unfold parF; rw [List.any_append]; simp
theorem parF_no {ds : List Dev} {g : Int → Bool} {pre : List Dev} {x : Dev} (h : ((partOf ds x.index).isSome && g x.index) = false) : parF ds g (pre ++ [x]) = parF ds g pre := by
  funext y; rw [parF_snoc, h]; simp
theorem parF_yes {ds : List Dev} {g : Int → Bool} {pre : List Dev} {x : Dev} (h : ((partOf ds x.index).isSome && g x.index) = true) : upd (parF ds g pre) x.parent true = parF ds g (pre ++ [x]) := by
  funext y
  rw [parF_snoc, h]
  unfold upd
  by_cases e : y = x.parent
  · subst e; simp
  · have : ¬ x.parent = y := fun h => e h.symm
    simp [e, this]
theorem ISet.eqf {w : World} {mb : Nat} {f f' : Int → Bool} {N : Nat} (h : ISet w mb f N) (e : f = f') : ISet w mb f' N := e ▸ h

set_option maxRecDepth 100000 in
set_option maxHeartbeats 4000000 in
theorem r_batch (a da ba : Option Addr) (cap dc bc base : Nat) (ds : List Dev) (dl bl : List Int) (w : World) (hl : Tr w base a cap ds) (hE : ErrV w) (h5 : 3 < w.heap.size) (hn : ds.length ≤ 1000) (hd : Ints w da dc dl) (hbz : Ints w ba bc bl) (hdl : dl.length ≤ 100000) (hbl : bl.length ≤ 100000) :
    Calls Tryz.prog 63 #[.agg #[.slice a ds.length cap], .slice da dl.length dc, .slice ba bl.length bc] w fun e w' => (∃ v, e = .returned v ∧ w'.ownsRow w.heap.size 3 1 v (batchR ds dl bl).length ((batchR ds dl bl).map (Value.int .i64)) ∧ ∀ y ∈ batchR ds dl bl, ∃ d ∈ ds, d.index = y) ∧ Fr No w w' := by
  have hT := hl.wf.1
  obtain ⟨i0, hi0, hz0, hz1, hz2⟩ := info_parts infoI2
  refine (callsIn_wide (n := 12)).1 (callsIn_of_wp_marks Tryz.func63 rfl trivial (wpIn_wide.2 ?_))
  simp only [Tryz.ntmps63, List.size_toArray, List.length_cons, List.length_nil, Nat.reduceAdd, Nat.reduceSub, Array.replicate_succ, Array.replicate_zero, List.push_toArray, List.append_toArray, List.nil_append, List.cons_append]
  have h0 : Fr No w (w.alloc (.cells #[.slice a ds.length cap] 25)) := (Fr.refl _ _).alloc _
  have q3 := block_alloc w (.cells #[.slice a ds.length cap] 25)
  have hs0 : (w.alloc (.cells #[.slice a ds.length cap] 25)).heap.size = w.heap.size + 1 := by simp
  have hbz0 := hbz.no h0 (fun _ => id)
  have hd0 := hd.no h0 (fun _ => id)
  go_wp2_with fail
  generalize w.alloc (.cells #[.slice a ds.length cap] 25) = W0 at *
  refine (rset_of ba bc bl _ hbz0 (by omega)).mono ?_
  rintro e w1 ⟨⟨mB, rfl, hB, hmB⟩, hf1⟩
  have ltB0 := hB.lt
  have hs1 := hf1.size
  have hx : Fr No w1 (w1.alloc (.cells #[.map (some mB)] 163)) := (Fr.refl _ _).alloc _
  have q7 := block_alloc w1 (.cells #[.map (some mB)] 163)
  have hs7 : (w1.alloc (.cells #[.map (some mB)] 163)).heap.size = w1.heap.size + 1 := by simp
  have q31 := hx.heap (hf1.heap q3 id) id
  have hB1 := hB.fr hx id
  have hd1 := (hd0.no hf1 (fun _ => id)).no hx (fun _ => id)
  have hbz1 := (hbz0.no hf1 (fun _ => id)).no hx (fun _ => id)
  have Hf1 := Lib.hid ((h0.step hf1 (fun _ _ h => h)).step hx (fun _ _ h => h))
  have hmm := @run_makeMap Tryz.prog
  clear h0 q3 hbz0 hd0 hf1 hx hB hbz
  go_upto_region 2 with (fail)
  generalize w1.alloc (.cells #[.map (some mB)] 163) = W1 at *
  have hy : Fr No W1 ((((W1.alloc (.map #[] 0)).alloc (.map #[] 0)).alloc (.cells #[.map (some (w1.heap.size + 1))] 163)).alloc (.cells #[.map (some (w1.heap.size + 1 + 1))] 163)) := ((((Fr.refl _ _).alloc _).alloc _).alloc _).alloc _
  have hIW : ISet ((((W1.alloc (.map #[] 0)).alloc (.map #[] 0)).alloc (.cells #[.map (some (w1.heap.size + 1))] 163)).alloc (.cells #[.map (some (w1.heap.size + 1 + 1))] 163)) (w1.heap.size + 1) (fun _ => false) 0 := by
    have h := rset_made W1
    rw [hs7] at h
    exact ((h.fr ((Fr.refl No _).alloc _) id).fr ((Fr.refl No _).alloc _) id).fr ((Fr.refl No _).alloc _) id
  have hIP : ISet ((((W1.alloc (.map #[] 0)).alloc (.map #[] 0)).alloc (.cells #[.map (some (w1.heap.size + 1))] 163)).alloc (.cells #[.map (some (w1.heap.size + 1 + 1))] 163)) (w1.heap.size + 1 + 1) (fun _ => false) 0 := by
    have h := rset_made (W1.alloc (.map #[] 0))
    rw [World.size_alloc, hs7] at h
    exact (h.fr ((Fr.refl No _).alloc _) id).fr ((Fr.refl No _).alloc _) id
  have q8 : ((((W1.alloc (.map #[] 0)).alloc (.map #[] 0)).alloc (.cells #[.map (some (w1.heap.size + 1))] 163)).alloc (.cells #[.map (some (w1.heap.size + 1 + 1))] 163)).heap[w1.heap.size + 1 + 1 + 1]? = some (.cells #[.map (some (w1.heap.size + 1))] 163) := by
    have h := block_alloc ((W1.alloc (.map #[] 0)).alloc (.map #[] 0)) (.cells #[.map (some (w1.heap.size + 1))] 163)
    rw [World.size_alloc, World.size_alloc, hs7] at h
    exact ((Fr.refl No _).alloc _).heap h id
  have q9 : ((((W1.alloc (.map #[] 0)).alloc (.map #[] 0)).alloc (.cells #[.map (some (w1.heap.size + 1))] 163)).alloc (.cells #[.map (some (w1.heap.size + 1 + 1))] 163)).heap[w1.heap.size + 1 + 1 + 1 + 1]? = some (.cells #[.map (some (w1.heap.size + 1 + 1))] 163) := by
    have h := block_alloc (((W1.alloc (.map #[] 0)).alloc (.map #[] 0)).alloc (.cells #[.map (some (w1.heap.size + 1))] 163)) (.cells #[.map (some (w1.heap.size + 1 + 1))] 163)
    rw [World.size_alloc, World.size_alloc, World.size_alloc, hs7] at h
    exact h
  go_upto_region 3 with (fail)
  clear hmm
  generalize (((W1.alloc (.map #[] 0)).alloc (.map #[] 0)).alloc (.cells #[.map (some (w1.heap.size + 1))] 163)).alloc (.cells #[.map (some (w1.heap.size + 1 + 1))] 163) = W2 at *
  have q32 := hy.heap q31 id
  have q72 := hy.heap q7 id
  have hB2 := hB1.fr hy id
  have hd2 := hd1.no hy (fun _ => id)
  have hbz2 := hbz1.no hy (fun _ => id)
  have Hf2 := Lib.hid (Hf1.out.step hy (fun _ _ h => h))
  have lt9 := lt_of_block q9
  have ltB := hB2.lt
  clear q31 q7 hB1 hd1 hbz1 hy
  refine region_sig (From W2.heap.size) [(0, false), (1, false), (3, false), (2, true), (4, true), (5, true), (6, true)] (by kernel_rfl) (by kernel_rfl) (fun w0 hf0 => ?_)
  have hs20 := hf0.size
  have g3 : ∀ g : Gr (From W2.heap.size) w0, g.W.cell? ⟨w.heap.size, 0, none⟩ = some (.slice a ds.length cap) := fun g => g.fr.cell (cell_of_block (hf0.heap q32 id) 0) (by unfold From; simp; omega)
  have hd3 := hd2.no hf0 (fun _ => id)
  have hbz3 := hbz2.no hf0 (fun _ => id)
  repeat (apply sig_q; exact rfl; exact rfl; exact rfl; intro K hK; go_big_quiet_op; go_big_quiet_on)
  clear g3
  apply sig_m
  exact rfl
  go_wp2_with (at_builtin; refine wpList_append_src rfl _ _ 22 rfl w0.heap.size 3 i0 (.int .i64 0) 1 8 Tryz.underlying22 hi0 hz0 hz1 hz2 rfl (by decide) _ 0 [] rfl (World.ownsRow_nil _ _ _ _) da dl.length dc (dl.map (Value.int .i64)) rfl (fun e => hd3.isNil' e) (by simp) (fun ad e => hd3.src ad e) (ints_one2 dl) (by unfold maxLen; omega) (by omega) (by simp) ?_; intro v' w2 own2 gr2; obtain ⟨av, cv, rfl⟩ := ownsRow_slice own2)
  rw [Nat.zero_add, List.nil_append] at own2
  have hf2 : Fr No w0 w2 := Fr.of_grown_none gr2
  refine OnlyN.mk ⟨hf2.mono (fun _ _ h => h.elim), ?_⟩
  have hbz4 := hbz3.no hf2 (fun _ => id)
  have hs22 := hf2.size
  apply sig_m
  exact rfl
  go_wp2_with (at_builtin; refine wpList_append_src rfl _ _ 22 rfl w0.heap.size 3 i0 (.int .i64 0) 1 8 Tryz.underlying22 hi0 hz0 hz1 hz2 rfl (by decide) _ dl.length (dl.map (Value.int .i64)) rfl own2 ba bl.length bc (bl.map (Value.int .i64)) rfl (fun e => hbz4.isNil' e) (by simp) (fun ad e => hbz4.src ad e) (ints_one2 bl) (by unfold maxLen; omega) (by omega) (by omega) ?_; intro v' w3 own3 gr3; obtain ⟨av3, cv3, rfl⟩ := ownsRow_slice own3)
  have hf3 : Fr (From W2.heap.size) w2 w3 := (Fr.of_grown gr3).mono (fun b _ e => by have := ownsRow_blk own2 e; unfold From at *; omega)
  refine OnlyN.mk ⟨hf3, ?_⟩
  have hlen : dl.length + bl.length = (dl ++ bl).length := by simp
  have own4 : w3.ownsRow w0.heap.size 3 1 (.slice av3 (dl ++ bl).length cv3) (dl ++ bl).length ((dl ++ bl).map (Value.int .i64)) := by
    rw [← hlen, List.map_append]; exact own3
  rw [hlen]
  obtain ⟨av4, cv4, hv4, hI4, _⟩ := Ints.of_own own4 (fun x hx => by
    rcases List.mem_append.1 hx with h | h
    · exact hd2.wf x h
    · exact hbz2.wf x h)
  cases hv4
  have hdb : (dl ++ bl).length ≤ 1000000 := by simp; omega
  have hf03 : Fr (From W2.heap.size) W2 w3 := ((hf0.mono (T := From W2.heap.size) (fun _ _ h => h.elim)).step hf2 (fun _ _ h => h.elim)).step hf3 (fun _ _ h => h)
  have hs3 := hf03.size
  clear hlen own2 own3 own4 gr2 gr3 hf2 hf3 hd3 hbz3 hbz4 hf0 hs20 hs22
  obtain ⟨al, hal⟩ : ∃ al, al = dl ++ bl := ⟨_, rfl⟩
  rw [← hal] at hI4 hdb ⊢
  have Hal := Lib.hid hal
  clear hal
  apply sig_m
  exact rfl
  go_wp2_with fail
  refine (rset_of av3 cv3 al _ hI4 (by omega)).mono ?_
  rintro e w4 ⟨⟨mA, rfl, hA, hmA⟩, hf4⟩
  have hf04 := hf03.step hf4 (fun _ _ h => h.elim)
  have hs4 := hf4.size
  clear hf03 hI4
  go_wp2_with fail
  refine OnlyN.mk ⟨hf4.mono (fun _ _ h => h.elim), ?_⟩
  clear hf4
  apply sig_m
  exact rfl
  go_wp2_with fail
  refine (r_below _ mA _).mono ?_
  rintro e w5 ⟨rfl, rfl⟩
  have hz : Fr No w4 ((w4.alloc (.cells #[.slice a ds.length cap] 25)).alloc (.cells #[.map (some mA)] 163)) := ((Fr.refl _ _).alloc _).alloc _
  have qt := block_alloc1 w4 (.cells #[.slice a ds.length cap] 25) (.cells #[.map (some mA)] 163)
  have qs := block_alloc2 w4 (.cells #[.slice a ds.length cap] 25) (.cells #[.map (some mA)] 163)
  go_wp2_with fail
  refine OnlyN.mk ⟨((Fr.refl _ _).alloc _).alloc _, ?_⟩
  refine sig_end ?_
  generalize (w4.alloc (.cells #[.slice a ds.length cap] 25)).alloc (.cells #[.map (some mA)] 163) = W5 at *
  have hf5 : Fr (From W2.heap.size) W2 W5 := hf04.step hz (fun _ _ h => h.elim)
  have nF : ∀ b, b < W2.heap.size → ¬ From W2.heap.size b := fun b h1 h2 => by unfold From at h2; omega
  have Hf5 : Hid (Fr (From W2.heap.size) w W5) := (Hf2.out.mono (T := From W2.heap.size) (fun _ _ h => h.elim)).step hf5 (fun _ _ h => h)
  have hsw := Hf2.out.size
  have hTr5 := hl.keep Hf5.out (fun b h1 _ h => by unfold From at h; omega)
  have hE5 := hE.fr Hf5.out (nF 2 (by omega)) (nF 3 (by omega))
  have q35 := hf5.heap q32 (nF _ (by omega))
  have q75 := hf5.heap q72 (nF _ (by omega))
  have q85 := hf5.heap q8 (nF _ (by omega))
  have q95 := hf5.heap q9 (nF _ (by omega))
  have hB5 := hB2.fr hf5 (nF _ ltB)
  have hIW5 := hIW.fr hf5 (nF _ (by omega))
  have hIP5 := hIP.fr hf5 (nF _ (by omega))
  have hd5 := hd2.from hf5
  have hA5 := hA.fr hz id
  have hltA := hA.lt
  have hs5 := hf5.size
  have hlt5 := lt_of_block qs
  have hBel : BelAt W5 a cap ds (fun x => decide (x ∈ al)) al.length mA w4.heap.size (w4.heap.size + 1) := ⟨hTr5.dv, qt, qs, hA5⟩
  have hal5 : ∀ ad, a = some ad → ds ≠ [] → ad.block < w.heap.size := fun ad e hne => (hl.dv.cell ad e hne).2.1
  clear q32 q72 q8 q9 hB2 hIW hIP hd2 hbz2 hf04 hz qt qs hA hA5 hf5
  go_wp2_with fail
  have hV5 : ∀ b, (b = w1.heap.size + 1 ∨ b = w1.heap.size + 1 + 1) → b < W5.heap.size := fun b h => by omega
  have hBI0 : BI W5 (w1.heap.size + 1) (w1.heap.size + 1 + 1) ds (fun x => decide (x ∈ bl)) [] W5 := ⟨hIW5.eqf (by funext y; simp), hIP5.eqf (by funext y; simp [parF]), Fr.refl _ _⟩
  refine (wpIn_wide (n := 12)).1 (wpIn_range_fix (α := Dev) (V := fun b => b = w1.heap.size + 1 ∨ b = w1.heap.size + 1 + 1) rfl (by omega) (gf := 156) (lb := #[.pointer (some ⟨w4.heap.size, 0, none⟩), .pointer (some ⟨w4.heap.size + 1, 0, none⟩)]) rfl trivial (enters_of Tryz.func156 (by kernel_rfl) rfl) (encs := fun d : Dev => #[.agg d.vals]) (fun _ => rfl) hV5
    (below_gives 11 (by omega) a cap ds (fun x => decide (x ∈ al)) al.length mA w4.heap.size (w4.heap.size + 1) _ W5 hT hBel (by omega) hV5 ⟨by omega, by omega, by omega, fun ad e hne h => by have := hal5 ad e hne; omega⟩)
    (BI W5 (w1.heap.size + 1) (w1.heap.size + 1 + 1) ds (fun x => decide (x ∈ bl)))
    (fun s A B S h hf hS => ⟨h.wait.fr hf (fun e => (hS _ e).1 (.inl rfl)), h.par.fr hf (fun e => (hS _ e).1 (.inr rfl)), h.fr.step hf (fun b _ e => .inr (.inr (hS b e).2))⟩)
    hBI0
    (fun x a' W => ∃ Bx, W5.heap.size + 2 ≤ Bx ∧ W.heap[Bx]? = some (.cells x.vals 36) ∧ a' = { tmps := #[.agg #[.slice a ds.length cap], .slice da dl.length dc, .slice ba bl.length bc, .pointer (some ⟨w.heap.size, 0, none⟩), undef, undef, .slice none 0 0, .pointer (some ⟨w1.heap.size, 0, none⟩), .pointer (some ⟨w1.heap.size + 1 + 1 + 1, 0, none⟩), .pointer (some ⟨w1.heap.size + 1 + 1 + 1 + 1, 0, none⟩), .pointer (some ⟨Bx, 0, none⟩), undef, undef, undef, undef, undef, undef, undef, undef, undef, .slice ba bl.length bc, .map (some mB), .map (some (w1.heap.size + 1)), .map (some (w1.heap.size + 1 + 1)), .agg #[.slice a ds.length cap], .slice da dl.length dc, .slice av dl.length cv, .slice ba bl.length bc, .slice av3 al.length cv3, .map (some mA), .func (.func 156) #[] #[.pointer (some ⟨w4.heap.size, 0, none⟩), .pointer (some ⟨w4.heap.size + 1, 0, none⟩)], .agg #[.int .i64 x.index, .int .i64 x.parent, .string x.name, .string x.orig, .string x.sub, .string x.drv, .string x.ali, .int .i64 x.kind, .int .i64 x.num, .slice x.aa x.an x.ac], undef, undef, undef, undef, undef, undef, undef, undef, undef, undef, undef, undef, undef, undef, undef, undef, undef, undef, undef, undef, undef, undef, undef, undef, undef, undef, undef, undef, undef, undef, undef, undef, undef, undef, undef, undef, undef, undef, undef, undef, undef, undef, undef, undef, undef, undef, undef, undef, undef, undef, undef, undef, undef, undef, undef, undef, undef, undef, undef, undef, undef, undef, undef, undef, undef, undef, undef, undef, undef, undef, undef], defers := [] })
    (fun x a' A B h hf => by obtain ⟨Bx, h1, h2, h3⟩ := h; exact ⟨Bx, h1, hf.heap h2 (fun e => by unfold Is at e; omega), h3⟩)
    ?assign ?body ?done)
  case assign =>
    intro l pre x W K hi hsz2 hK
    unfold Dev.vals
    gi_wp2
    exact hK _ _ ((Fr.refl _ _).alloc _) ⟨W.heap.size, hsz2, block_alloc _ _, rfl⟩
  case done =>
    rintro W hi hK
    have nB : ∀ b, b < W5.heap.size → b ≠ w1.heap.size + 1 → b ≠ w1.heap.size + 1 + 1 → ¬ (b = w1.heap.size + 1 ∨ b = w1.heap.size + 1 + 1 ∨ W5.heap.size ≤ b) := fun b h1 h2 h3 h => by omega
    have k3 := hi.fr.heap q35 (nB _ (by omega) (by omega) (by omega))
    have k7 := hi.fr.heap q75 (nB _ (by omega) (by omega) (by omega))
    have k8 := hi.fr.heap q85 (nB _ (by omega) (by omega) (by omega))
    have k9 := hi.fr.heap q95 (nB _ (by omega) (by omega) (by omega))
    have hfw : Fr (From w.heap.size) w W := (Hf5.out.mono (T := From w.heap.size) (fun b _ h => by unfold From at *; omega)).step hi.fr (fun b hb h => by omega)
    have hTrW := hl.keep hfw (fun b h1 _ h => by unfold From at h; omega)
    have hEW := hE.fr hfw (by unfold From; omega) (by unfold From; omega)
    have hBW := hB5.fr hi.fr (nB _ (by omega) (by omega) (by omega))
    have hdW : Ints W da dc dl := hd.fr hfw (fun ad e hne h => by have := (hd.cell ad e hne).2.1; unfold From at h; omega)
    have hWW := hi.wait
    have hPW := hi.par
    have hsW := hi.fr.size
    have hxl := belowL_len (fun x => decide (x ∈ al)) ds (fun _ => false)
    have Hbr : Hid (batchR ds dl bl = batchL ds (fun x => decide (x ∈ bl)) (fun x => decide (x ∈ (belowL (fun x => decide (x ∈ al)) ds (fun _ => false)).map Dev.index)) (orderL dl ds) (parF ds (fun x => decide (x ∈ bl)) (belowL (fun x => decide (x ∈ al)) ds (fun _ => false)))) := by
      unfold Hid batchR waitD; rw [Hal.out]
    have Hfw := Lib.hid hfw
    have c3W : W.cell? ⟨w.heap.size, 0, none⟩ = some (.slice a ds.length cap) := cell_of_block k3 0
    generalize belowL (fun x => decide (x ∈ al)) ds (fun _ => false) = xs at *
    clear hi hfw q35 q75 q85 q95 hB5 hBel hBI0 hIW5 hIP5
    go_wp2_with fail
    refine (r_order a da cap dc ds dl _ hTrW.dv hT hdW hn (by omega)).mono ?_
    rintro e wO ⟨⟨oa, oc, rfl, hO, hOf⟩, hfO⟩
    have hOl := orderL_len dl ds
    have hOm : ∀ y ∈ orderL dl ds, ∃ d ∈ ds, d.index = y := fun y hy => by
      obtain ⟨d, h1, h2⟩ := List.mem_map.1 (List.mem_filter.1 hy).1
      exact ⟨d, h1, h2⟩
    have hTrO := hTrW.no hfO
    have hEO := hEW.no hfO
    have hBO := hBW.fr hfO id
    have hWO := hWW.fr hfO id
    have hPO := hPW.fr hfO id
    have k3O := hfO.heap k3 id
    have k7O := hfO.heap k7 id
    have k8O := hfO.heap k8 id
    have k9O := hfO.heap k9 id
    have hKO := hfO.heap hK id
    have hsO := hfO.size
    have HfwO := Lib.hid (Hfw.out.step hfO (fun _ _ h => h.elim))
    have hOlm := hO.lenmax
    generalize orderL dl ds = ol at *
    clear hTrW hEW hBW hWW hPW k3 k7 k8 k9 hfO c3W hdW
    go_wp2_with fail
    go_loopw [13, 58] (fun v i wr => ∃ (k : Nat) (q : List Int) (par : Int → Bool) (av : Option Addr) (cv : Nat), k ≤ ol.length ∧ q.length ≤ k ∧ v = .slice av q.length cv ∧ i = .int .i64 (k : Int) ∧ Hid (batchR ds dl bl = q ++ batchL ds (fun x => decide (x ∈ bl)) (fun x => decide (x ∈ xs.map Dev.index)) (ol.drop k) par) ∧ Hid (∀ y ∈ q, y ∈ ol) ∧ ISet wr (w1.heap.size + 1 + 1) par (xs.length + k) ∧ wr.ownsRow wO.heap.size 3 1 (.slice av q.length cv) q.length (q.map (Value.int .i64)) ∧ Fr (fun b => b = w1.heap.size + 1 + 1 ∨ wO.heap.size ≤ b) wO wr) (fun _ i _ => ol.length - (intOf i).toNat)
    case atStart => exact ⟨0, [], _, none, 0, by omega, by simp, rfl, rfl, by unfold Hid; rw [Hbr.out]; simp, by unfold Hid; simp, hPO, World.ownsRow_nil _ _ _ _, Fr.refl _ _⟩
    case round =>
      obtain ⟨k, q, par, av2, cv2, hk, hqk, rfl, rfl, HB, Hqm, hPr, hown, hfr⟩ := hrel
      have nO : ∀ b, b < wO.heap.size → b ≠ w1.heap.size + 1 + 1 → ¬ (b = w1.heap.size + 1 + 1 ∨ wO.heap.size ≤ b) := fun b h1 h2 h => by omega
      by_cases hlt : k < ol.length
      · have hlt' : (k : Int) < ol.length := by omega
        have hfw2 : Fr (From w.heap.size) w wr := HfwO.out.step hfr (fun b hb h => by omega)
        have hTrr := hl.keep hfw2 (fun b h1 _ h => by unfold From at h; omega)
        have hEr := hE.fr hfw2 (by unfold From; omega) (by unfold From; omega)
        have hBr := hBO.fr hfr (nO _ (by omega) (by omega))
        have hWr := hWO.fr hfr (nO _ (by omega) (by omega))
        have r3 := hfr.heap k3O (nO _ (by omega) (by omega))
        have r7 := hfr.heap k7O (nO _ (by omega) (by omega))
        have r8 := hfr.heap k8O (nO _ (by omega) (by omega))
        have r9 := hfr.heap k9O (nO _ (by omega) (by omega))
        obtain ⟨ib, io, i, hia, hik, z0⟩ := (hO.fr hfr (fun ad e hne h => by have h1 := (hO.cell ad e hne).2.1; have h2 := hOf ad e; omega)).at hlt
        subst hia
        obtain ⟨d, hdm, hdi⟩ := hOm i (List.mem_of_getElem? hik)
        have hlk : look ds i = some d := by rw [← hdi]; exact hT.lk hdm
        have hiw : (Lit.int .i64 i).wf = true := by rw [← hdi]; exact hT.iwf hdm
        have hpw := hT.pwf hdm
        have hkp := keyOf_int_mk Tryz.underlying3 hpw
        have hdrop : ol.drop k = i :: ol.drop (k + 1) := by
          have e : ol[k] = i := by rw [List.getElem?_eq_getElem hlt] at hik; exact Option.some.inj hik
          rw [List.drop_eq_getElem_cons hlt, e]
        have hB2 := HB.out
        rw [hdrop, batchL_cons, devOf_look hlk] at hB2
        have HB2 := Lib.hid hB2
        have Him := Lib.hid (List.mem_of_getElem? hik)
        have Hlk := Lib.hid hlk
        clear hik hdrop hB2 hlk hdi hdm
        have c3 : wr.cell? ⟨w.heap.size, 0, none⟩ = some (.slice a ds.length cap) := cell_of_block r3 0
        go_wp2_with fail
        refine (tree_find a cap ds base i _ hTrr).mono ?_
        rintro e w6 ⟨hF, hf6⟩
        have hs6 := hf6.size
        have hlo : ∀ b, (Value.slice av2 q.length cv2).ownBlock = some b → b < wr.heap.size := fun b e => ownsRow_lt hown e
        rcases hF with ⟨h1, -⟩ | ⟨d', aa', ac', la', h1, rfl, -⟩
        · rw [Hlk.out] at h1; cases h1
        obtain rfl : d = d' := by rw [Hlk.out] at h1; exact Option.some.inj h1
        have hx6 : Fr No w6 (w6.alloc (.cells ({ d with aa := aa', ac := ac' } : Dev).vals 36)) := (Fr.refl _ _).alloc _
        have b16 := block_alloc w6 (.cells ({ d with aa := aa', ac := ac' } : Dev).vals 36)
        have hf6x := hf6.step hx6 (fun _ _ h => h)
        have hTr6 := hTrr.no hf6x
        have hE6 := hEr.no hf6x
        have c36 : (w6.alloc (.cells ({ d with aa := aa', ac := ac' } : Dev).vals 36)).cell? ⟨w.heap.size, 0, none⟩ = some (.slice a ds.length cap) := cell_of_block (hf6x.heap r3 id) 0
        unfold Dev.vals at *
        clear h1 c3 z0 hTrr hEr hf6 hx6
        go_wp2_with fail
        refine (r_part a cap ds base i _ hTr6 hE6).mono ?_
        rintro e w7 ⟨he, hf7⟩
        unfold PartRes at he
        subst he
        have b17 := hf7.heap b16 id
        have hf7w := hf6x.step hf7 (fun _ _ h => h)
        generalize (partOf ds i).isSome = ps at *
        generalize (partOf ds i).getD 0 = pn at *
        have c77 : w7.cell? ⟨w1.heap.size, 0, none⟩ = some (.map (some mB)) := cell_of_block (hf7w.heap r7 id) 0
        clear c36 b16 hTr6 hE6 hf6x hf7
        go_wp2_with fail
        refine (rset_has mB (fun x => decide (x ∈ bl)) bl.length i _ (hBr.fr hf7w id) hiw).mono ?_
        rintro e w8 ⟨rfl, hf8⟩
        have b18 := hf8.heap b17 id
        have hf8w := hf7w.step hf8 (fun _ _ h => h)
        generalize decide (i ∈ bl) = gi at *
        clear c77 b17 hf7w hf8
        cases gi with
        | true =>
          have HN : Hid (batchR ds dl bl = q ++ batchL ds (fun x => decide (x ∈ bl)) (fun x => decide (x ∈ xs.map Dev.index)) (ol.drop (k + 1)) par) := by unfold Hid; rw [HB2.out, if_pos (by simp)]
          have hPn := (hPr.fr hf8w id).mono (Nat.add_le_add_left (Nat.le_succ k) xs.length)
          have hon := ownsRow_fr hown hf8w (fun _ _ => id)
          have HF := Lib.hid (And.intro hPn (And.intro hon (hfr.step hf8w (fun _ _ h => h.elim))))
          clear hPn hon hfr hown hPr b18
          go_wp2_with fail
          go_roundw
          case rel => exact ⟨k + 1, q, par, av2, cv2, by omega, by omega, rfl, by go_num, HN, Hqm, HF.out.1, HF.out.2.1, HF.out.2.2⟩
          case measure => simp [intOf]; omega
        | false =>
          have c88 : w8.cell? ⟨w1.heap.size + 1 + 1 + 1, 0, none⟩ = some (.map (some (w1.heap.size + 1))) := cell_of_block (hf8w.heap r8 id) 0
          have d81 : w8.cell? ⟨w6.heap.size, 1, none⟩ = some (.int .i64 d.parent) := cell_of_block b18 1
          go_wp2_with fail
          refine (rset_has (w1.heap.size + 1) (fun x => decide (x ∈ xs.map Dev.index)) xs.length d.parent _ (hWr.fr hf8w id) hpw).mono ?_
          rintro e w9 ⟨rfl, hf9⟩
          have b19 := hf9.heap b18 id
          have hf9w := hf8w.step hf9 (fun _ _ h => h)
          generalize decide (d.parent ∈ xs.map Dev.index) = wi at *
          clear c88 d81 b18 hf8w hf9
          cases wi with
          | true =>
            have HN : Hid (batchR ds dl bl = q ++ batchL ds (fun x => decide (x ∈ bl)) (fun x => decide (x ∈ xs.map Dev.index)) (ol.drop (k + 1)) par) := by unfold Hid; rw [HB2.out, if_pos (by simp)]
            have hPn := (hPr.fr hf9w id).mono (Nat.add_le_add_left (Nat.le_succ k) xs.length)
            have hon := ownsRow_fr hown hf9w (fun _ _ => id)
            have HF := Lib.hid (And.intro hPn (And.intro hon (hfr.step hf9w (fun _ _ h => h.elim))))
            clear hPn hon hfr hown hPr b19
            go_wp2_with fail
            go_roundw
            case rel => exact ⟨k + 1, q, par, av2, cv2, by omega, by omega, rfl, by go_num, HN, Hqm, HF.out.1, HF.out.2.1, HF.out.2.2⟩
            case measure => simp [intOf]; omega
          | false =>
            have hq10 : q.length ≤ 1000 := by omega
            have hsr := hfr.size
            cases ps with
            | false =>
              have HN : Hid (batchR ds dl bl = (q ++ [i]) ++ batchL ds (fun x => decide (x ∈ bl)) (fun x => decide (x ∈ xs.map Dev.index)) (ol.drop (k + 1)) par) := by unfold Hid; rw [HB2.out, if_neg (by simp), List.append_assoc]; rfl
              have hPn := (hPr.fr hf9w id).mono (Nat.add_le_add_left (Nat.le_succ k) xs.length)
              have hon := ownsRow_fr hown hf9w (fun _ _ => id)
              have hs9 := hf9w.size
              have Hfr9 := Lib.hid (hfr.step hf9w (fun _ _ h => h.elim))
              clear hfr hown hPr b19
              go_wp2_with (at_builtin; refine wpList_append_own _ rfl _ _ 22 rfl wO.heap.size 3 i0 (.int .i64 0) 1 8 Tryz.underlying22 hi0 hz0 hz1 hz2 rfl (by decide) _ _ _ rfl (hon.alloc _) ⟨w9.heap.size, 0, none⟩ 1 1 [.int .i64 i] rfl rfl (cell_one_new _ _ _) (ints_one2 [i]) (by unfold maxLen; omega) (by omega) (by simp; omega) ?_; intro v' wa owna growa _; obtain ⟨av', cv', rfl⟩ := ownsRow_slice owna)
              have hga : Fr (From wO.heap.size) w9 wa := grown_fr hon growa
              have HF := Lib.hid (And.intro (hPn.fr hga (fun h => by unfold From at h; omega)) (And.intro owna (Hfr9.out.step hga (fun b _ h => .inr h))))
              have Hq2 : Hid (∀ y ∈ q ++ [i], y ∈ ol) := fun y hy => (List.mem_append.1 hy).elim (Hqm.out y) (fun h => by simp at h; subst h; exact Him.out)
              clear hPn hon hga owna growa
              go_wp2_with fail
              go_roundw
              case rel => exact ⟨k + 1, q ++ [i], par, av', cv', by omega, by simp; omega, by simp, by go_num, HN, Hq2, HF.out.1, by rw [List.length_append, List.map_append]; exact HF.out.2.1, HF.out.2.2⟩
              case measure => simp [intOf]; omega
            | true =>
              have c99 : w9.cell? ⟨w1.heap.size + 1 + 1 + 1 + 1, 0, none⟩ = some (.map (some (w1.heap.size + 1 + 1))) := cell_of_block (hf9w.heap r9 id) 0
              have d91 : w9.cell? ⟨w6.heap.size, 1, none⟩ = some (.int .i64 d.parent) := cell_of_block b19 1
              go_wp2_with fail
              refine (rset_has (w1.heap.size + 1 + 1) par (xs.length + k) d.parent _ (hPr.fr hf9w id) hpw).mono ?_
              rintro e w10 ⟨rfl, hf10⟩
              have b110 := hf10.heap b19 id
              have hf10w := hf9w.step hf10 (fun _ _ h => h)
              clear c99 d91 b19 hf9w hf10
              rcases hpar : par d.parent with _ | _
              · have HN : Hid (batchR ds dl bl = (q ++ [i]) ++ batchL ds (fun x => decide (x ∈ bl)) (fun x => decide (x ∈ xs.map Dev.index)) (ol.drop (k + 1)) (upd par d.parent true)) := by unfold Hid; rw [HB2.out, if_neg (by rw [hpar]; simp), List.append_assoc]; simp
                have hPn := hPr.fr hf10w id
                have hon := ownsRow_fr hown hf10w (fun _ _ => id)
                have hs10 := hf10w.size
                have lt6 := lt_of_block b110
                have c910 := hf10w.heap r9 id
                have Hfr10 := Lib.hid (hfr.step hf10w (fun _ _ h => h.elim))
                clear hfr hown hPr
                go_wp2_with (first
                  | (at_builtin; refine wpList_append_own _ rfl _ _ 22 rfl wO.heap.size 3 i0 (.int .i64 0) 1 8 Tryz.underlying22 hi0 hz0 hz1 hz2 rfl (by decide) _ _ _ rfl (hon.alloc _) ⟨w10.heap.size, 0, none⟩ 1 1 [.int .i64 i] rfl rfl (cell_one_new _ _ _) (ints_one2 [i]) (by unfold maxLen; omega) (by omega) (by simp; omega) ?_; intro v' wa owna growa _; obtain ⟨av', cv', rfl⟩ := ownsRow_slice owna; have hga : Fr (From wO.heap.size) w10 wa := grown_fr hon growa; obtain ⟨D, nn, hnn, ho, hh⟩ := hPn.fr hga (fun h => by unfold From at h; omega); have Hh := Lib.hid hh; clear hh; have c9a : wa.cell? ⟨w1.heap.size + 1 + 1 + 1 + 1, 0, none⟩ = some (.map (some (w1.heap.size + 1 + 1))) := cell_of_block (hga.heap c910 (fun h => by unfold From at h; omega)) 0; have d1a : wa.cell? ⟨w6.heap.size, 1, none⟩ = some (.int .i64 d.parent) := cell_of_block ((((Fr.refl (fun b => (Value.slice av2 q.length cv2).ownBlock = some b) w10).alloc _).step (Fr.of_grown growa) (fun _ _ h => h)).heap b110 (fun e => by have := hlo _ e; omega)) 1)
                  | (at_mapUpdate; refine wpList_mapUpdate_own _ rfl _ _ _ 163 rfl 3 121 lawI Tryz.underlying163 _ (w1.heap.size + 1 + 1) nn D rfl ho (by unfold maxLen; omega) _ _ _ rfl rfl hkp _ [] unitElem_mk ?_; intro wb hownb hgrowb))
                have hPb := ISet.put hnn ho Hh.out d.parent hownb
                have hfb : Fr (Is (w1.heap.size + 1 + 1)) wa wb := Fr.of_grown_some hgrowb
                have HF := Lib.hid (And.intro (hPb.mono (show xs.length + k + 1 ≤ xs.length + (k + 1) by omega)) (And.intro (ownsRow_at owna hfb (fun b hb e => by have := ownsRow_blk owna hb; unfold Is at e; unfold From at this; omega)) ((Hfr10.out.step hga (fun b _ h => .inr h)).step hfb (fun b _ h => .inl h))))
                have Hq2 : Hid (∀ y ∈ q ++ [i], y ∈ ol) := fun y hy => (List.mem_append.1 hy).elim (Hqm.out y) (fun h => by simp at h; subst h; exact Him.out)
                clear hPn hon hga owna growa hPb hfb hownb hgrowb ho
                go_roundw
                case rel => exact ⟨k + 1, q ++ [i], _, av', cv', by omega, by simp; omega, by simp, by go_num, HN, Hq2, HF.out.1, by rw [List.length_append, List.map_append]; exact HF.out.2.1, HF.out.2.2⟩
                case measure => simp [intOf]; omega
              · have HN : Hid (batchR ds dl bl = q ++ batchL ds (fun x => decide (x ∈ bl)) (fun x => decide (x ∈ xs.map Dev.index)) (ol.drop (k + 1)) par) := by unfold Hid; rw [HB2.out, if_pos (by rw [hpar]; simp)]
                have hPn := (hPr.fr hf10w id).mono (Nat.add_le_add_left (Nat.le_succ k) xs.length)
                have hon := ownsRow_fr hown hf10w (fun _ _ => id)
                have HF := Lib.hid (And.intro hPn (And.intro hon (hfr.step hf10w (fun _ _ h => h.elim))))
                clear hPn hon hfr hown hPr b110
                go_wp2_with fail
                go_roundw
                case rel => exact ⟨k + 1, q, par, av2, cv2, by omega, by omega, rfl, by go_num, HN, Hqm, HF.out.1, HF.out.2.1, HF.out.2.2⟩
                case measure => simp [intOf]; omega
      · obtain rfl : k = ol.length := by omega
        have hB := HB.out
        rw [List.drop_length] at hB
        have hbq : batchR ds dl bl = q := by rw [hB]; simp [batchL]
        have hput : Fr (Is W5.heap.size) wr (wr.putObj W5.heap.size (.deferred none)) := Fr.putObj _ _ _ rfl
        have hKr := hfr.heap hKO (nO _ (by have := lt_of_block hKO; omega) (by omega))
        have hown2 := ownsRow_at hown hput (fun b hb e => by have := ownsRow_blk hown hb; have := lt_of_block hKO; unfold Is at e; unfold From at *; omega)
        have hmem : ∀ y ∈ q, ∃ d ∈ ds, d.index = y := fun y hy => hOm y (Hqm.out y hy)
        have hfin : Fr No w (wr.putObj W5.heap.size (.deferred none)) := ((HfwO.out.step hfr (fun b hb h => by omega)).step hput (fun b hb e => by unfold Is at e; omega)).mono (fun b hb h => by unfold From at h; omega)
        have hown3 := ownsRow_base hown2 (show w.heap.size ≤ wO.heap.size by omega)
        have H := Lib.hid (And.intro hown3 (And.intro hmem hfin))
        have Hbq := Lib.hid hbq
        clear hmem hfin hown hown2 hown3 hput hB hbq hfr
        go_wp2
        refine ⟨by simp, .inl ⟨_, _, rfl, run_takeDeferred hKr, ?_⟩⟩
        rw [Hbq.out]
        exact ⟨_, results_tmp rfl _ _ _, ⟨Value.slice av2 q.length cv2, rfl, H.out.1, H.out.2.1⟩, H.out.2.2⟩
  case body =>
    rintro l pre x a' W hi ⟨Bx, hBx, hbx, rfl⟩ hpre hsz2
    have hxm : x ∈ ds := belowL_sub _ ds _ x (List.IsPrefix.subset hpre (by simp))
    have hpl : pre.length ≤ 1000 := by
      have h1 := hpre.length_le
      have h2 := belowL_len (fun x => decide (x ∈ al)) ds (fun _ => false)
      simp only [List.length_append, List.length_cons, List.length_nil] at h1
      omega
    have hxw := hT.iwf hxm
    have hpw := hT.pwf hxm
    have hkx := keyOf_int_mk Tryz.underlying3 hxw
    have hkp := keyOf_int_mk Tryz.underlying3 hpw
    have nB : ∀ b, b < W5.heap.size → b ≠ w1.heap.size + 1 → b ≠ w1.heap.size + 1 + 1 → ¬ (b = w1.heap.size + 1 ∨ b = w1.heap.size + 1 + 1 ∨ W5.heap.size ≤ b) := fun b h1 h2 h3 h => by omega
    have k3 := hi.fr.heap q35 (nB _ (by omega) (by omega) (by omega))
    have k7 := hi.fr.heap q75 (nB _ (by omega) (by omega) (by omega))
    have k8 := hi.fr.heap q85 (nB _ (by omega) (by omega) (by omega))
    have k9 := hi.fr.heap q95 (nB _ (by omega) (by omega) (by omega))
    have kB := hi.fr
    have x0 : W.cell? ⟨Bx, 0, none⟩ = some (.int .i64 x.index) := cell_of_block hbx 0
    have c8 : W.cell? ⟨w1.heap.size + 1 + 1 + 1, 0, none⟩ = some (.map (some (w1.heap.size + 1))) := cell_of_block k8 0
    have hfw : Fr (From w.heap.size) w W := (Hf5.out.mono (T := From w.heap.size) (fun b _ h => by unfold From at *; omega)).step hi.fr (fun b hb h => by omega)
    have HT : Hid (∀ X, Fr (Is (w1.heap.size + 1)) W X → Tr X base a cap ds ∧ ErrV X) := fun X hX =>
      ⟨hl.keep (hfw.step hX (fun b hb h => by unfold Is at h; unfold From; omega)) (fun b h1 _ h => by unfold From at h; omega), hE.fr (hfw.step hX (fun b hb h => by unfold Is at h; unfold From; omega)) (by unfold From; omega) (by unfold From; omega)⟩
    have hBne : mB ≠ w1.heap.size + 1 ∧ mB ≠ w1.heap.size + 1 + 1 := ⟨by omega, by omega⟩
    have HS : Hid (∀ X Y, Fr (Is (w1.heap.size + 1)) W X → Fr No X Y → ISet Y mB (fun x => decide (x ∈ bl)) bl.length) := fun X Y hX hY =>
      ((hB5.fr hi.fr (nB _ (by omega) hBne.1 hBne.2)).fr hX (fun e => by unfold Is at e; omega)).fr hY id
    have HP : Hid (∀ X Y, Fr (Is (w1.heap.size + 1)) W X → Fr No X Y → ISet Y (w1.heap.size + 1 + 1) (parF ds (fun x => decide (x ∈ bl)) pre) pre.length) := fun X Y hX hY =>
      (hi.par.fr hX (fun e => by unfold Is at e; omega)).fr hY id
    have Hi := Lib.hid hi
    obtain ⟨D, nn, hnn, ho, hh⟩ := hi.wait
    have Hh := Lib.hid hh
    clear hh hi hpre k8 kB hfw
    have hfP : (Fence.wide.inRound l).fn 111 := trivial
    have hfH : (Fence.wide.inRound l).fn 112 := trivial
    have h1n : 1 ≤ 10 := by omega
    have hplen : (pre ++ [x]).length = pre.length + 1 := by simp
    rcases hpo : (partOf ds x.index).isSome with _ | _
    · gi_wp2_with (first
        | (gi_at_mapUpdate; refine wpListIn_mapUpdate_own _ rfl _ _ _ 163 rfl 3 121 lawI Tryz.underlying163 _ (w1.heap.size + 1) nn D rfl ho (by unfold maxLen; omega) _ _ _ rfl rfl hkx _ [] unitElem_mk ?_; intro w3 hown3 hgrow3; have HW := Lib.hid (And.intro (Fr.of_grown_some hgrow3) (ISet.put hnn ho Hh.out x.index hown3)); have c33 : w3.cell? ⟨w.heap.size, 0, none⟩ = some (.slice a ds.length cap) := cell_of_block (HW.out.1.heap k3 (fun e => by unfold Is at e; omega)) 0; have x03 : w3.cell? ⟨Bx, 0, none⟩ = some (.int .i64 x.index) := cell_of_block (HW.out.1.heap hbx (fun e => by unfold Is at e; omega)) 0; clear hown3 hgrow3 ho)
        | (refine ⟨(trivial : Fence.wide.fn 111), ?_⟩; refine (show CallsIn (Fence.wide.inRound l) 9 _ 111 _ _ _ from ((callsIn_wide.2 (Calls.mono (r_part a cap ds base x.index _ (HT.out _ HW.out.1).1 (HT.out _ HW.out.1).2) ?_)) : CallsIn Fence.wide 9 _ 111 _ _ _)); rintro e w5 ⟨he, hf5⟩; unfold PartRes at he; subst he; rw [hpo]; have HF := Lib.hid hf5; have x05 : w5.cell? ⟨Bx, 0, none⟩ = some (.int .i64 x.index) := HF.out.cell x03 id; have c75 : w5.cell? ⟨w1.heap.size, 0, none⟩ = some (.map (some mB)) := cell_of_block (HF.out.heap (HW.out.1.heap k7 (fun e => by unfold Is at e; omega)) id) 0; clear hf5))
      refine ⟨trivial, ?_⟩
      gi_wp2
      have hfx : Fr (fun b => b = w1.heap.size + 1 ∨ b = w1.heap.size + 1 + 1) W w5 := (HW.out.1.mono (T := fun b => b = w1.heap.size + 1 ∨ b = w1.heap.size + 1 + 1) (fun b _ h => .inl h)).step HF.out (fun _ _ h => h.elim)
      refine ⟨⟨by rw [hplen]; exact (HW.out.2.fr HF.out id).eqf (wait_snoc pre x), by rw [hplen]; exact ((HP.out _ _ HW.out.1 HF.out).eqf (parF_no (by rw [hpo]; rfl)).symm).mono (by omega), Hi.out.fr.step hfx (fun b _ h => h.elim .inl (fun h => .inr (.inl h)))⟩, hfx⟩
    · rcases hg : decide (x.index ∈ bl) with _ | _
      · gi_wp2_with (first
          | (gi_at_mapUpdate; refine wpListIn_mapUpdate_own _ rfl _ _ _ 163 rfl 3 121 lawI Tryz.underlying163 _ (w1.heap.size + 1) nn D rfl ho (by unfold maxLen; omega) _ _ _ rfl rfl hkx _ [] unitElem_mk ?_; intro w3 hown3 hgrow3; have HW := Lib.hid (And.intro (Fr.of_grown_some hgrow3) (ISet.put hnn ho Hh.out x.index hown3)); have c33 : w3.cell? ⟨w.heap.size, 0, none⟩ = some (.slice a ds.length cap) := cell_of_block (HW.out.1.heap k3 (fun e => by unfold Is at e; omega)) 0; have x03 : w3.cell? ⟨Bx, 0, none⟩ = some (.int .i64 x.index) := cell_of_block (HW.out.1.heap hbx (fun e => by unfold Is at e; omega)) 0; clear hown3 hgrow3 ho)
          | (refine ⟨(trivial : Fence.wide.fn 111), ?_⟩; refine (show CallsIn (Fence.wide.inRound l) 9 _ 111 _ _ _ from ((callsIn_wide.2 (Calls.mono (r_part a cap ds base x.index _ (HT.out _ HW.out.1).1 (HT.out _ HW.out.1).2) ?_)) : CallsIn Fence.wide 9 _ 111 _ _ _)); rintro e w5 ⟨he, hf5⟩; unfold PartRes at he; subst he; rw [hpo]; have HF := Lib.hid hf5; have x05 : w5.cell? ⟨Bx, 0, none⟩ = some (.int .i64 x.index) := HF.out.cell x03 id; have c75 : w5.cell? ⟨w1.heap.size, 0, none⟩ = some (.map (some mB)) := cell_of_block (HF.out.heap (HW.out.1.heap k7 (fun e => by unfold Is at e; omega)) id) 0; clear hf5)
          | (refine ⟨(trivial : Fence.wide.fn 112), ?_⟩; refine (show CallsIn (Fence.wide.inRound l) 9 _ 112 _ _ _ from ((callsIn_wide.2 (Calls.mono (rset_has mB (fun x => decide (x ∈ bl)) bl.length x.index _ (HS.out _ _ HW.out.1 HF.out) hxw) ?_)) : CallsIn Fence.wide 9 _ 112 _ _ _)); rintro e w6 ⟨rfl, hf6⟩; rw [hg]; have HF6 := Lib.hid (HF.out.step hf6 (fun _ _ h => h)); have x16 : w6.cell? ⟨Bx, 1, none⟩ = some (.int .i64 x.parent) := cell_of_block (HF6.out.heap (HW.out.1.heap hbx (fun e => by unfold Is at e; omega)) id) 1; have c96 : w6.cell? ⟨w1.heap.size + 1 + 1 + 1 + 1, 0, none⟩ = some (.map (some (w1.heap.size + 1 + 1))) := cell_of_block (HF6.out.heap (HW.out.1.heap k9 (fun e => by unfold Is at e; omega)) id) 0; clear hf6; obtain ⟨D2, n2, hn2, ho2, hh2⟩ := HP.out _ _ HW.out.1 HF6.out; have Hh2 := Lib.hid hh2; clear hh2))
        have hfx : Fr (fun b => b = w1.heap.size + 1 ∨ b = w1.heap.size + 1 + 1) W w6 := (HW.out.1.mono (T := fun b => b = w1.heap.size + 1 ∨ b = w1.heap.size + 1 + 1) (fun b _ h => .inl h)).step HF6.out (fun _ _ h => h.elim)
        refine ⟨⟨by rw [hplen]; exact (HW.out.2.fr HF6.out id).eqf (wait_snoc pre x), by rw [hplen]; exact ((HP.out _ _ HW.out.1 HF6.out).eqf (parF_no (by rw [hpo, hg]; rfl)).symm).mono (by omega), Hi.out.fr.step hfx (fun b _ h => h.elim .inl (fun h => .inr (.inl h)))⟩, hfx⟩
      · gi_wp2_with (first
          | (gi_at_mapUpdate; refine wpListIn_mapUpdate_own _ rfl _ _ _ 163 rfl 3 121 lawI Tryz.underlying163 _ (w1.heap.size + 1 + 1) n2 D2 rfl ho2 (by unfold maxLen; omega) _ _ _ rfl rfl hkp _ [] unitElem_mk ?_; intro w7 hown7 hgrow7; have HG := Lib.hid (And.intro (Fr.of_grown_some hgrow7) (ISet.put hn2 ho2 Hh2.out x.parent hown7)); clear hown7 hgrow7 ho2)
          | (gi_at_mapUpdate; refine wpListIn_mapUpdate_own _ rfl _ _ _ 163 rfl 3 121 lawI Tryz.underlying163 _ (w1.heap.size + 1) nn D rfl ho (by unfold maxLen; omega) _ _ _ rfl rfl hkx _ [] unitElem_mk ?_; intro w3 hown3 hgrow3; have HW := Lib.hid (And.intro (Fr.of_grown_some hgrow3) (ISet.put hnn ho Hh.out x.index hown3)); have c33 : w3.cell? ⟨w.heap.size, 0, none⟩ = some (.slice a ds.length cap) := cell_of_block (HW.out.1.heap k3 (fun e => by unfold Is at e; omega)) 0; have x03 : w3.cell? ⟨Bx, 0, none⟩ = some (.int .i64 x.index) := cell_of_block (HW.out.1.heap hbx (fun e => by unfold Is at e; omega)) 0; clear hown3 hgrow3 ho)
          | (refine ⟨(trivial : Fence.wide.fn 111), ?_⟩; refine (show CallsIn (Fence.wide.inRound l) 9 _ 111 _ _ _ from ((callsIn_wide.2 (Calls.mono (r_part a cap ds base x.index _ (HT.out _ HW.out.1).1 (HT.out _ HW.out.1).2) ?_)) : CallsIn Fence.wide 9 _ 111 _ _ _)); rintro e w5 ⟨he, hf5⟩; unfold PartRes at he; subst he; rw [hpo]; have HF := Lib.hid hf5; have x05 : w5.cell? ⟨Bx, 0, none⟩ = some (.int .i64 x.index) := HF.out.cell x03 id; have c75 : w5.cell? ⟨w1.heap.size, 0, none⟩ = some (.map (some mB)) := cell_of_block (HF.out.heap (HW.out.1.heap k7 (fun e => by unfold Is at e; omega)) id) 0; clear hf5)
          | (refine ⟨(trivial : Fence.wide.fn 112), ?_⟩; refine (show CallsIn (Fence.wide.inRound l) 9 _ 112 _ _ _ from ((callsIn_wide.2 (Calls.mono (rset_has mB (fun x => decide (x ∈ bl)) bl.length x.index _ (HS.out _ _ HW.out.1 HF.out) hxw) ?_)) : CallsIn Fence.wide 9 _ 112 _ _ _)); rintro e w6 ⟨rfl, hf6⟩; rw [hg]; have HF6 := Lib.hid (HF.out.step hf6 (fun _ _ h => h)); have x16 : w6.cell? ⟨Bx, 1, none⟩ = some (.int .i64 x.parent) := cell_of_block (HF6.out.heap (HW.out.1.heap hbx (fun e => by unfold Is at e; omega)) id) 1; have c96 : w6.cell? ⟨w1.heap.size + 1 + 1 + 1 + 1, 0, none⟩ = some (.map (some (w1.heap.size + 1 + 1))) := cell_of_block (HF6.out.heap (HW.out.1.heap k9 (fun e => by unfold Is at e; omega)) id) 0; clear hf6; obtain ⟨D2, n2, hn2, ho2, hh2⟩ := HP.out _ _ HW.out.1 HF6.out; have Hh2 := Lib.hid hh2; clear hh2))
        have hfx : Fr (fun b => b = w1.heap.size + 1 ∨ b = w1.heap.size + 1 + 1) W w7 := ((HW.out.1.mono (T := fun b => b = w1.heap.size + 1 ∨ b = w1.heap.size + 1 + 1) (fun b _ h => .inl h)).step HF6.out (fun _ _ h => h.elim)).step HG.out.1 (fun b _ h => .inr h)
        refine ⟨⟨by rw [hplen]; exact ((HW.out.2.fr HF6.out id).fr HG.out.1 (fun e => by unfold Is at e; omega)).eqf (wait_snoc pre x), by rw [hplen]; exact HG.out.2.eqf (parF_yes (by rw [hpo, hg]; rfl)), Hi.out.fr.step hfx (fun b _ h => h.elim .inl (fun h => .inr (.inl h)))⟩, hfx⟩
end Go.Proofs.YtanaompgapiikaaGreatDoor
