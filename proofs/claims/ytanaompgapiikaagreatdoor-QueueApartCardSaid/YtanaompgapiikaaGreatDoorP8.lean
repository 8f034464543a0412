/- (*Queue).Free. -/
import Derived.Test.YtanaompgapiikaaGreatDoorP7
import Derived.Laws.EntriesVeiled
namespace Go.Proofs.YtanaompgapiikaaGreatDoor
open Go.RowKit Go.Maps
set_option linter.unusedVariables false

theorem path_size2 {ds : List Dev} (hT : TreeOk ds) (n : Int) : (pathOf (origin ds n)).size ≤ 33 * ds.length := by
  have h1 : (pathOf (origin ds n)).size = (pathOf (origin ds n)).data.toList.length := by simp
  have h2 := tail_le (origin ds n) (origin_sz hT n)
  have h3 : (origin ds n).length ≤ ds.length := by unfold origin; simp; exact chain_len ds n
  rw [h1, path_bytes]
  omega
/-- A record is that of a device of its Index. -/
def recHit2 (ds : List Dev) (r : Rec) : Bool := (look ds r.index).isSome && ((pathOf (origin ds r.index)).toList == r.path.toList)
/-- What Free's table holds after some records. -/
def recG (ds : List Dev) (l : List Rec) (i : Int) : Option ByteArray := if (l.any fun r => recHit2 ds r && decide (r.index = i)) = true then some (pathOf (origin ds i)) else none
theorem recG_no {ds : List Dev} {l : List Rec} {r : Rec} (h : recHit2 ds r = false) : recG ds (l ++ [r]) = recG ds l := by
  funext i
  unfold recG
  rw [List.any_append]
  simp [h]
theorem recG_yes {ds : List Dev} {l : List Rec} {r : Rec} (h : recHit2 ds r = true) : updO (recG ds l) r.index (pathOf (origin ds r.index)) = recG ds (l ++ [r]) := by
  funext i
  unfold recG updO
  rw [List.any_append]
  by_cases e : i = r.index
  · subst e; simp [h]
  · have e2 : ¬ r.index = i := fun h => e h.symm
    simp [h, e, e2]
theorem SMap.eqf {w : World} {mb : Nat} {g g' : Int → Option ByteArray} {N : Nat} (h : SMap w mb g N) (e : g = g') : SMap w mb g' N := e ▸ h
theorem SMap.mono {w : World} {mb : Nat} {g : Int → Option ByteArray} {N M : Nat} (h : SMap w mb g N) (hN : N ≤ M) : SMap w mb g M := by
  obtain ⟨D, n, hn, r⟩ := h; exact ⟨D, n, by omega, r⟩
theorem batchL_len (ds : List Dev) (g wt : Int → Bool) : ∀ (q : List Int) (par : Int → Bool), (batchL ds g wt q par).length ≤ q.length
  | [], par => by simp [batchL]
  | i :: t, par => by
    rw [batchL_cons]
    split
    · have := batchL_len ds g wt t par; simp; omega
    · have := batchL_len ds g wt t (if (partOf ds i).isSome = true then upd par (devOf ds i).parent true else par); simp; omega
theorem batchR_len (ds : List Dev) (dl bl : List Int) : (batchR ds dl bl).length ≤ ds.length := Nat.le_trans (batchL_len _ _ _ _ _) (orderL_len dl ds)
/-- What Free answers. -/
def freeL (ds : List Dev) (l : List Rec) (dl bl : List Int) : List Int := keepP (upLack ds (recG ds l)) (batchR ds dl bl)

set_option maxRecDepth 100000 in
set_option maxHeartbeats 4000000 in
theorem q_free (qb b1 b2 : Nat) (f g : Int → Bool) (N : Nat) (a ra : Option Addr) (cap rc base : Nat) (ds : List Dev) (l : List Rec) (w : World) (hq : Que w qb b1 b2 f g N) (hN : N ≤ 100000) (hl : Tr w base a cap ds) (hn : ds.length ≤ 1000) (hr : Recs w ra rc l) (hrl : l.length ≤ 100000) (hrw : ∀ r ∈ l, (Lit.int .i64 r.index).wf = true) (hE : ErrV w) (h6 : 3 < w.heap.size)
    (hfb : ∀ L, Asc L → (∀ x, x ∈ L ↔ f x = true) → L.length ≤ 100000) (hgb : ∀ L, Asc L → (∀ x, x ∈ L ↔ g x = true) → L.length ≤ 100000) :
    Calls Tryz.prog 17 #[.pointer (some ⟨qb, 0, none⟩), .agg #[.slice a ds.length cap], .slice ra l.length rc] w fun e w' =>
      (∃ dl bl a' c', Asc dl ∧ (∀ x, x ∈ dl ↔ f x = true) ∧ Asc bl ∧ (∀ x, x ∈ bl ↔ g x = true) ∧ e = .returned (.slice a' (freeL ds l dl bl).length c') ∧ Ints w' a' c' (freeL ds l dl bl) ∧ ∀ ad, a' = some ad → w.heap.size ≤ ad.block) ∧ Fr No w w' := by
  have hT := hl.wf.1
  have hmm := @run_makeMap Tryz.prog
  have hrm := hr.lenmax
  have h0 : Fr No w (((w.alloc (.cells #[.slice a ds.length cap] 25)).alloc (.map #[] 0)).alloc (.cells #[.map (some (w.heap.size + 1))] 105)) := (((Fr.refl _ _).alloc _).alloc _).alloc _
  have q4 : (((w.alloc (.cells #[.slice a ds.length cap] 25)).alloc (.map #[] 0)).alloc (.cells #[.map (some (w.heap.size + 1))] 105)).heap[w.heap.size]? = some (.cells #[.slice a ds.length cap] 25) :=
    (((Fr.refl No _).alloc _).alloc _).heap (block_alloc w (.cells #[.slice a ds.length cap] 25)) id
  have hK : SMap (((w.alloc (.cells #[.slice a ds.length cap] 25)).alloc (.map #[] 0)).alloc (.cells #[.map (some (w.heap.size + 1))] 105)) (w.heap.size + 1) (fun _ => none) 0 := by
    have h := SMap.made (w.alloc (.cells #[.slice a ds.length cap] 25))
    rw [World.size_alloc] at h
    exact h.fr ((Fr.refl No _).alloc _) id
  have q7 : (((w.alloc (.cells #[.slice a ds.length cap] 25)).alloc (.map #[] 0)).alloc (.cells #[.map (some (w.heap.size + 1))] 105)).heap[w.heap.size + 1 + 1]? = some (.cells #[.map (some (w.heap.size + 1))] 105) := by
    have h := block_alloc ((w.alloc (.cells #[.slice a ds.length cap] 25)).alloc (.map #[] 0)) (.cells #[.map (some (w.heap.size + 1))] 105)
    rw [World.size_alloc, World.size_alloc] at h
    exact h
  go_enter Tryz.func17, Tryz.ntmps17
  go_wp2_with fail
  clear hmm
  generalize ((w.alloc (.cells #[.slice a ds.length cap] 25)).alloc (.map #[] 0)).alloc (.cells #[.map (some (w.heap.size + 1))] 105) = W0 at *
  have lt7 := lt_of_block q7
  go_loopw [16] (fun i wr => ∃ k : Nat, k ≤ l.length ∧ i = .int .i64 (k : Int) ∧ SMap wr (w.heap.size + 1) (recG ds (l.take k)) k ∧ Fr (Is (w.heap.size + 1)) W0 wr) (fun i _ => l.length - (intOf i).toNat)
  case atStart => exact ⟨0, by omega, rfl, hK.eqf (by funext i; simp [recG]), Fr.refl _ _⟩
  case round =>
    obtain ⟨k, hk, rfl, hKr, hfr⟩ := hrel
    have nK : ∀ b, b < w.heap.size → ¬ Is (w.heap.size + 1) b := fun b h1 h2 => by unfold Is at h2; omega
    have hfw : Fr No w wr := (h0.step (hfr.mono (T := Is (w.heap.size + 1)) (fun _ _ h => h)) (fun b hb h => nK b hb h))
    have k4 := hfr.heap q4 (fun e => by unfold Is at e; omega)
    have k7 := hfr.heap q7 (fun e => by unfold Is at e; omega)
    have c4 : wr.cell? ⟨w.heap.size, 0, none⟩ = some (.slice a ds.length cap) := cell_of_block k4 0
    by_cases hlt : k < l.length
    · have hlt' : (k : Int) < l.length := by omega
      obtain ⟨rb, ro, r, hra, hrk, hok, x0, x1, x2, x3, x4, x5, x6, x7, x8, x9, x10, x11⟩ := (hr.no hfw (fun _ => id)).elem hlt
      subst hra
      have hrw1 := hrw r (List.mem_of_getElem? hrk)
      have hkey := keyOf_int_mk Tryz.underlying3 hrw1
      have Htk : Hid (l.take (k + 1) = l.take k ++ [r]) := by unfold Hid; rw [List.take_add_one, hrk]; rfl
      have hxx : Fr No wr (wr.alloc (.cells r.vals 46)) := (Fr.refl _ _).alloc _
      have bx := block_alloc wr (.cells r.vals 46)
      have hps := path_size2 hT r.index
      have c4o : ∀ o, (wr.alloc o).cell? ⟨w.heap.size, 0, none⟩ = some (.slice a ds.length cap) := fun o => ((Fr.refl No wr).alloc o).cell c4 id
      have hch : recHit2 ds r = ((look ds r.index).isSome && ((pathOf (origin ds r.index)).toList == r.path.toList)) := rfl
      have Hch := Lib.hid hch
      have Hxx := Lib.hid (And.intro hxx bx)
      clear hrk hch hxx bx hok
      go_wp2_with fail
      refine (tree_origin _ cap ds r.index _ ((hl.no hfw).no Hxx.out.1).dv hT hn hrw1).mono ?_
      rintro e w1 ⟨rfl, hf1⟩
      have bx1 := hf1.heap Hxx.out.2 id
      have z0 : w1.cell? ⟨wr.heap.size, 0, none⟩ = some (.string r.path) := cell_of_block bx1 0
      have z1 : w1.cell? ⟨wr.heap.size, 1, none⟩ = some (.int .i64 r.index) := cell_of_block bx1 1
      have Hf1 := Lib.hid (Hxx.out.1.step hf1 (fun _ _ h => h))
      have c7 : w1.cell? ⟨w.heap.size + 1 + 1, 0, none⟩ = some (.map (some (w.heap.size + 1))) := cell_of_block (Hf1.out.heap k7 id) 0
      have hK1 := hKr.fr Hf1.out id
      clear x0 x1 x2 x3 x4 x5 x6 x7 x8 x9 x10 x11 hf1 bx1 c4 c4o
      cases hlk : look ds r.index with
      | none =>
        have Hno : Hid (recHit2 ds r = false) := by unfold Hid; rw [Hch.out, hlk]; rfl
        have HF := Lib.hid (And.intro (((hK1.eqf (recG_no Hno.out).symm).mono (Nat.le_succ k))) (hfr.step Hf1.out (fun _ _ h => h.elim)))
        clear hlk hK1 hKr hfr
        go_wp2_with fail
        go_roundw
        case rel => exact ⟨k + 1, by omega, by go_num, by rw [Htk.out]; exact HF.out.1, HF.out.2⟩
        case measure => simp [intOf]; omega
      | some d =>
        obtain ⟨pp, hpp⟩ : ∃ pp, pp = pathOf (origin ds r.index) := ⟨_, rfl⟩
        have Hpp := Lib.hid hpp
        rw [← hpp] at hps
        have e1 : ((some d : Option Dev).map fun _ => pathOf (origin ds r.index)).getD ⟨#[]⟩ = pp := by rw [hpp]; rfl
        rw [e1]
        rcases hpe : (pp.toList == r.path.toList) with _ | _
        · have Hno : Hid (recHit2 ds r = false) := by unfold Hid; rw [Hch.out, hlk, ← Hpp.out, hpe]; rfl
          have HF := Lib.hid (And.intro (((hK1.eqf (recG_no Hno.out).symm).mono (Nat.le_succ k))) (hfr.step Hf1.out (fun _ _ h => h.elim)))
          clear hlk hK1 hKr hfr hpp e1
          go_wp2_with fail
          go_roundw
          case rel => exact ⟨k + 1, by omega, by go_num, by rw [Htk.out]; exact HF.out.1, HF.out.2⟩
          case measure => simp [intOf]; omega
        · have Hyes : Hid (recHit2 ds r = true) := by unfold Hid; rw [Hch.out, hlk, ← Hpp.out, hpe]; rfl
          obtain ⟨DS, nS, hnS, hoS, hS1, hS2⟩ := hK1
          have HS1 := Lib.hid hS1
          have HS2 := Lib.hid hS2
          clear hlk hKr hpp e1 hS1 hS2
          go_wp2_with (at_mapUpdate; refine wpList_mapUpdate_own _ rfl _ _ _ 105 rfl 3 9 lawI Tryz.underlying105 _ (w.heap.size + 1) nS DS rfl hoS (by unfold maxLen; omega) _ _ _ rfl rfl hkey _ [] (plainElem_string Tryz.underlying9 (by unfold maxLen; omega)) ?_; intro w2 ho2 hg2)
          have hSn := SMap.put hnS hoS HS1.out HS2.out r.index pp ho2
          have hf2 : Fr (Is (w.heap.size + 1)) w1 w2 := Fr.of_grown_some hg2
          have HF := Lib.hid (And.intro (show SMap w2 (w.heap.size + 1) (recG ds (l.take k ++ [r])) (k + 1) from hSn.eqf (by rw [Hpp.out]; exact recG_yes Hyes.out)) ((hfr.step Hf1.out (fun _ _ h => h.elim)).step hf2 (fun _ _ h => h)))
          clear hSn hf2 ho2 hg2 hoS hfr
          go_roundw
          case rel => exact ⟨k + 1, by omega, by go_num, by rw [Htk.out]; exact HF.out.1, HF.out.2⟩
          case measure => simp [intOf]; omega
    · obtain rfl : k = l.length := by omega
      rw [List.take_length] at hKr
      have hx : Fr No wr (wr.alloc (.cells #[.func (.func 61) #[] #[.pointer (some ⟨w.heap.size + 1 + 1, 0, none⟩)]] 108)) := (Fr.refl _ _).alloc _
      have qf := block_alloc wr (.cells #[.func (.func 61) #[] #[.pointer (some ⟨w.heap.size + 1 + 1, 0, none⟩)]] 108)
      have hsx : (wr.alloc (.cells #[.func (.func 61) #[] #[.pointer (some ⟨w.heap.size + 1 + 1, 0, none⟩)]] 108)).heap.size = wr.heap.size + 1 := by simp
      have k49 := hx.heap k4 id
      have k79 := hx.heap k7 id
      have hK9 := hKr.fr hx id
      have hsr := hfr.size
      have Hfw := Lib.hid (hfw.step hx (fun _ _ h => h))
      clear c4 k4 k7 hKr hfr hfw q4 q7 hx
      go_upto_region 10 with (fail)
      generalize wr.alloc (.cells #[.func (.func 61) #[] #[.pointer (some ⟨w.heap.size + 1 + 1, 0, none⟩)]] 108) = W9 at *
      refine region_sig (From W9.heap.size) [(0, false), (1, false), (3, false), (6, false), (2, true), (4, true), (5, true), (7, true), (8, false)] (by kernel_rfl) (by kernel_rfl) (fun w0 hf0 => ?_)
      have hs0 := hf0.size
      have g3 : ∀ g : Gr (From W9.heap.size) w0, g.W.cell? ⟨w.heap.size, 0, none⟩ = some (.slice a ds.length cap) := fun g => g.fr.cell (cell_of_block (hf0.heap k49 id) 0) (by unfold From; simp; omega)
      repeat (apply sig_q; exact rfl; exact rfl; exact rfl; intro K hK; go_big_quiet_op; go_big_quiet_on)
      clear g3
      have hfw0 := Hfw.out.step hf0 (fun _ _ h => h)
      apply sig_m
      exact rfl
      go_wp2_with fail
      refine (q_dirty qb b1 b2 f g N _ (hq.fr hfw0 id id id) (by omega)).mono ?_
      rintro e w1 ⟨da, dc, dl, rfl, hD, hDa, hDm, _, hf1⟩
      have hfw1 := hfw0.step hf1 (fun _ _ h => h)
      have hs1 := hf1.size
      go_wp2_with fail
      refine OnlyN.mk ⟨hf1.mono (fun _ _ h => h.elim), ?_⟩
      apply sig_m
      exact rfl
      go_wp2_with fail
      refine (q_busy qb b1 b2 f g N _ (hq.fr hfw1 id id id) (by omega)).mono ?_
      rintro e w2 ⟨ba, bc, bl, rfl, hB, hBa, hBm, _, hf2⟩
      have hfw2 := hfw1.step hf2 (fun _ _ h => h)
      have hs2 := hf2.size
      have hD2 := hD.no hf2 (fun _ => id)
      go_wp2_with fail
      refine OnlyN.mk ⟨hf2.mono (fun _ _ h => h.elim), ?_⟩
      apply sig_m
      exact rfl
      go_wp2_with fail
      refine (r_batch a da ba cap dc bc base ds dl bl _ (hl.no hfw2) (hE.no hfw2) (by have := hfw2.size; omega) hn hD2 hB (hfb dl hDa hDm) (hgb bl hBa hBm)).mono ?_
      rintro e w3 ⟨⟨v, rfl, hown, hmem⟩, hf3⟩
      have hfw3 := hfw2.step hf3 (fun _ _ h => h)
      have hs3 := hf3.size
      have hbl := batchR_len ds dl bl
      go_wp2_with fail
      refine OnlyN.mk ⟨hf3.mono (fun _ _ h => h.elim), ?_⟩
      have k493 := hf3.heap (hf2.heap (hf1.heap (hf0.heap k49 id) id) id) id
      have k793 := hf3.heap (hf2.heap (hf1.heap (hf0.heap k79 id) id) id) id
      have qf3 := hf3.heap (hf2.heap (hf1.heap (hf0.heap qf id) id) id) id
      have hK3 := (((hK9.fr hf0 id).fr hf1 id).fr hf2 id).fr hf3 id
      have hsw := Hfw.out.size
      have hff : ∀ (x : Int) (W : World), x ∈ batchR ds dl bl → Fr (From w2.heap.size) w3 W → Calls Tryz.prog 64 #[.int .i64 x, .pointer (some ⟨w.heap.size, 0, none⟩), .pointer (some ⟨wr.heap.size, 0, none⟩)] W fun e w' => e = .returned (.bool (upLack ds (recG ds l) x)) ∧ Fr No W w' := by
        intro x W hx hW
        obtain ⟨d, hd, e⟩ := hmem x hx
        have nF : ∀ b, b < w2.heap.size → ¬ From w2.heap.size b := fun b h1 h2 => by unfold From at h2; omega
        have hwW : Fr (From w2.heap.size) w W := (hfw3.mono (T := From w2.heap.size) (fun _ _ h => h.elim)).step hW (fun _ _ h => h)
        exact free_has a cap ds w.heap.size wr.heap.size (w.heap.size + 1 + 1) (w.heap.size + 1) base (recG ds l) l.length x W (hl.keep hwW (fun b h1 _ => nF b (by omega))) hn (cell_of_block (hW.heap k493 (nF _ (by omega))) 0) (cell_of_block (hW.heap qf3 (nF _ (by omega))) 0) (cell_of_block (hW.heap k793 (nF _ (by omega))) 0) (hK3.fr hW (nF _ (by omega))) (by rw [← e]; exact hT.iwf hd)
      have hbw : ∀ y ∈ batchR ds dl bl, (Lit.int .i64 y).wf = true := fun y hy => by
        obtain ⟨d, hd, e⟩ := hmem y hy
        rw [← e]; exact hT.iwf hd
      have Hfd := Lib.hid (free_delete (upLack ds (recG ds l)) w.heap.size wr.heap.size w2.heap.size v (batchR ds dl bl) w3 hff hown hbw (by omega))
      have H := Lib.hid (And.intro hDa (And.intro hDm (And.intro hBa (And.intro hBm hfw3))))
      clear hD hD2 hB hDa hDm hBa hBm hown hmem hff hbw hf1 hf2 hf3 hfw1 hfw2 hfw3 hfw0 k49 k79 k493 k793 qf qf3 hK9 hK3 hf0
      apply sig_m
      exact rfl
      go_wp2_with fail
      refine Hfd.out.mono ?_
      rintro e w4 ⟨⟨a', c', rfl, hI, hfb'⟩, hf4⟩
      have hsz2 : w.heap.size ≤ w2.heap.size := by omega
      have HF := Lib.hid (And.intro (And.intro hI (show ∀ ad, a' = some ad → w.heap.size ≤ ad.block from fun ad e => Nat.le_trans hsz2 (hfb' ad e))) (H.out.2.2.2.2.step (hf4.mono (T := From w2.heap.size) (fun _ _ h => h)) (fun b hb h => by unfold From at h; omega)))
      have hf4' : Fr (From W9.heap.size) w3 w4 := hf4.mono (fun b _ h => by unfold From at *; omega)
      go_wp2_with fail
      refine OnlyN.mk ⟨hf4', ?_⟩
      clear hf4 hf4' hI hfb'
      repeat (apply sig_q; exact rfl; exact rfl; exact rfl; intro K hK; go_big_quiet_op; go_big_quiet_on)
      refine sig_end ?_
      go_wp2_with fail
      go_ret
      exact ⟨⟨dl, bl, a', c', H.out.1, H.out.2.1, H.out.2.2.1, H.out.2.2.2.1, rfl, HF.out.1.1, HF.out.1.2⟩, HF.out.2⟩
end Go.Proofs.YtanaompgapiikaaGreatDoor
