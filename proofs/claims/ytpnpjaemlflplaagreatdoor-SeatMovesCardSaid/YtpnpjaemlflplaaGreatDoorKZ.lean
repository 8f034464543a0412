/- SeatMoves: the walk. -/
import Derived.Test.YtpnpjaemlflplaaGreatDoorKR
import Derived.Test.YtpnpjaemlflplaaGreatDoorKY
namespace Go.Proofs.YtpnpjaemlflplaaGreatDoor
open Go.RowKit Go.Maps
set_option linter.unusedVariables false

/-- The record that SeatMoves makes: its one property lies in a block. -/
def movRec (p : ByteArray) (i : Int) (ab : Nat) : Rec := ⟨p, i, [(keySeat, seat9)], [], some ⟨ab, 0, none⟩, 1, none, 0, none, 0, 0, none, 0, 0, none, 0, 0, ⟨#[]⟩, 0, ⟨#[]⟩, ⟨#[]⟩, 0⟩
theorem rflat_one (l : List Rec) : ∀ u ∈ rflat l, u.oneCell' = true := by
  intro u hu
  obtain ⟨r, _, h⟩ := List.mem_flatMap.1 hu
  exact rvals_one r u h
theorem Recs.src {W : World} {a : Option Addr} {cap : Nat} {l : List Rec} (h : Recs W a cap l) : ∀ ad, a = some ad → ∀ j u, (rflat l)[j]? = some u → W.cell? (ad.add j) = some u := by
  intro ad e j u hu
  have hlt : j < (rflat l).length := (List.getElem?_eq_some_iff.1 hu).1
  rw [rflat_len] at hlt
  have hi : j / 12 < l.length := by omega
  obtain ⟨b, off, sp⟩ := ad
  obtain ⟨h1, h2, h3⟩ := h.cell _ e (by intro e2; rw [e2] at hi; simp at hi)
  simp only at h1; subst h1
  have h4 := h3 (j / 12) l[j / 12] (List.getElem?_eq_getElem hi) (j % 12) (by omega)
  have h5 := rflat_at l (j / 12) l[j / 12] (List.getElem?_eq_getElem hi) (j % 12) (by omega)
  have hj : j / 12 * 12 + j % 12 = j := by omega
  rw [hj] at h4 h5
  rw [h5] at hu
  cases hu
  rw [Addr.add_lit]
  exact h4

set_option maxRecDepth 100000 in
set_option maxHeartbeats 8000000 in
theorem moves_walk (la : Option Addr) (lc : Nat) (l : List Int) (at_ : Int) (m : Int) (w : World) (hl : Ints w la lc l) (hat : (Lit.int .i64 at_).wf = true) (hm : w.cell? ⟨0, 0, none⟩ = some (.int .i64 m)) (hw0 : 0 < w.heap.size) :
    Calls Tryz.prog 9 #[.slice la l.length lc, .int .i64 at_] w fun e w' => e = .returned (.bool true) ∧ Fr No w w' := by
  go_enter Tryz.func9, Tryz.ntmps9
  go_wp2_with fail
  refine (site_walk la lc l m w hl hm hw0).mono ?_
  rintro e w1 ⟨⟨base, a, cap, ds, ra, rc, out, rfl, hS⟩, hf1⟩
  have hT := hS.tr.wf.1
  have hx : Fr No w1 (w1.alloc (.cells #[.slice a ds.length cap] 25)) := (Fr.refl _ _).alloc _
  have b3 := block_alloc w1 (.cells #[.slice a ds.length cap] 25)
  have hfx := hf1.step hx (fun _ _ h => h)
  have hTr := hS.tr.no hx
  have hRc := hS.recs.no hx (fun _ => id)
  have hm1 := hS.tr.dv.lenmax
  have hm2 := hS.recs.lenmax
  have hdl := hS.len
  have hrl : out.length ≤ 10 := by have := hS.good.len; omega
  clear hf1 hl hm hS hx
  by_cases hd0 : ds.length = 0
  · obtain rfl : ds = [] := List.eq_nil_of_length_eq_zero hd0
    simp only [List.length_nil] at hfx
    go_wp2_with fail
    refine (known_walk _).mono ?_
    rintro e w5 ⟨rfl, hf5⟩
    have hfe := hfx.step hf5 (fun _ _ h => h)
    go_wp2_with fail
    go_ret
    exact ⟨rfl, hfe⟩
  have hd0' : ((ds.length : Int) == 0) = false := by have h : (ds.length : Int) ≠ 0 := by omega
                                                     simpa using h
  go_upto_region 4 with (fail)
  generalize w1.alloc (.cells #[.slice a ds.length cap] 25) = W1 at *
  go_cut [7] (fun v wx => ∃ (b9 k : Nat) (x : Dev), v = .pointer (some ⟨b9, 0, none⟩) ∧ ds[k]? = some x ∧ wx.heap[b9]? = some (.cells x.vals 32) ∧ W1.heap.size ≤ b9 ∧ Fr No W1 wx)
  case first =>
    refine region_tree (From W1.heap.size) (.q 0 (.q 1 (.q 2 (.q 3 (.q 4 (.q 5 (.m2 6 (.q 7 (.q 8 (.m1 9 (.m1 10 .fin)))) 9 (.m1 6 (.q 7 (.q 8 (.m1 10 .fin))))))))))) _ (by kernel_rfl) (by kernel_rfl) (fun w0 hf0 => ?_) (fun _ _ h => h)
    have b30 := hf0.heap b3 id
    have lt3 := lt_of_block b3
    have hs0 := hf0.size
    have g0 : ∀ g : Gr (From W1.heap.size) w0, g.W.cell? ⟨w1.heap.size, 0, none⟩ = some (.slice a ds.length cap) := fun g => g.fr.cell (cell_of_block b30 0) (by unfold From; simp; omega)
    repeat (apply tree_q; exact rfl; exact rfl; exact rfl; intro K hK; go_big_quiet_op; go_big_quiet_on)
    clear g0
    have hTd := hTr.dv
    have hpt : ∀ (X : World), Fr No W1 X → ∀ r : Nat, r < ds.length → Hid (∃ b off p, a = some ⟨b, off, none⟩ ∧ ds[r]? = some p ∧ ∀ g : Gr (From W1.heap.size) X, g.W.cell? ⟨b, off + r * 10, none⟩ = some (.int .i64 p.index) ∧ g.W.cell? ⟨b, off + r * 10 + 1, none⟩ = some (.int .i64 p.parent) ∧ g.W.cell? ⟨b, off + r * 10 + 2, none⟩ = some (.string p.name) ∧ g.W.cell? ⟨b, off + r * 10 + 3, none⟩ = some (.string p.orig) ∧ g.W.cell? ⟨b, off + r * 10 + 4, none⟩ = some (.string p.sub) ∧ g.W.cell? ⟨b, off + r * 10 + 5, none⟩ = some (.string p.drv) ∧ g.W.cell? ⟨b, off + r * 10 + 6, none⟩ = some (.string p.ali) ∧ g.W.cell? ⟨b, off + r * 10 + 7, none⟩ = some (.int .i64 p.kind) ∧ g.W.cell? ⟨b, off + r * 10 + 8, none⟩ = some (.int .i64 p.num) ∧ g.W.cell? ⟨b, off + r * 10 + 9, none⟩ = some (.slice p.aa p.an p.ac)) := by
      intro X hX r hr
      obtain ⟨b, off, p, hax, hp, c0, c1, c2, c3, c4, c5, c6, c7, c8, c9⟩ := (hTd.no hX (fun _ => id)).dev hr
      have hbl := (hTd.cell _ hax (by intro e; rw [e] at hr; simp at hr)).2.1
      have nb : ¬ From W1.heap.size b := by unfold From; simp only at hbl; omega
      exact ⟨b, off, p, hax, hp, fun g => ⟨g.fr.cell c0 nb, g.fr.cell c1 nb, g.fr.cell c2 nb, g.fr.cell c3 nb, g.fr.cell c4 nb, g.fr.cell c5 nb, g.fr.cell c6 nb, g.fr.cell c7 nb, g.fr.cell c8 nb, g.fr.cell c9 nb⟩⟩
    refine tree_m2 rfl rfl ?_ ?_
    · go_wp2_with fail
      refine (fold_any at_ ds.length _ (by omega) (by omega) hat).mono ?_
      rintro e w5 ⟨r, rfl, hr1, hr2, rfl⟩
      obtain ⟨r, rfl⟩ := Int.eq_ofNat_of_zero_le hr1
      have hlt : r < ds.length := by omega
      have hlt' : (r : Int) < ds.length := by omega
      go_wp2_with fail
      refine OnlyN.mk ⟨Fr.refl _ _, ?_⟩
      obtain ⟨b, off, p, hax, hp, hg⟩ := (hpt w0 hf0 r hlt).out
      subst hax
      have e0 := fun g => (hg g).1
      have e1 := fun g => (hg g).2.1
      have e2 := fun g => (hg g).2.2.1
      have e3 := fun g => (hg g).2.2.2.1
      have e4 := fun g => (hg g).2.2.2.2.1
      have e5 := fun g => (hg g).2.2.2.2.2.1
      have e6 := fun g => (hg g).2.2.2.2.2.2.1
      have e7 := fun g => (hg g).2.2.2.2.2.2.2.1
      have e8 := fun g => (hg g).2.2.2.2.2.2.2.2.1
      have e9 := fun g => (hg g).2.2.2.2.2.2.2.2.2
      have Hp := Lib.hid hp
      clear hp hg hpt
      repeat (apply tree_q; exact rfl; exact rfl; exact rfl; intro K hK; go_big_quiet_op; go_big_quiet_on)
      clear e0 e1 e2 e3 e4 e5 e6 e7 e8 e9
      refine tree_m1 rfl ?_
      go_wp2_with fail
      refine OnlyN.mk ⟨(Fr.refl _ _).alloc _, ?_⟩
      refine tree_m1 rfl ?_
      go_wp2_with fail
      refine OnlyN.mk ⟨Fr.swap _ _ _ (by unfold From; omega), ?_⟩
      refine tree_end ?_
      go_wp2_with fail
      go_meet
      exact ⟨w0.heap.size, r, p, rfl, Hp.out, block_alloc _ _, by omega, hf0.step ((Fr.refl _ _).alloc _) (fun _ _ h => h)⟩
    · go_wp2_with fail
      refine OnlyN.mk ⟨(Fr.refl _ _).alloc _, ?_⟩
      generalize hX : w0.alloc (.cells #[.int .i64 0, .int .i64 0, .string ⟨#[]⟩, .string ⟨#[]⟩, .string ⟨#[]⟩, .string ⟨#[]⟩, .string ⟨#[]⟩, .int .i64 0, .int .i64 0, .slice none 0 0] 32) = X
      have hXb : X.heap[w0.heap.size]? = some (.cells #[.int .i64 0, .int .i64 0, .string ⟨#[]⟩, .string ⟨#[]⟩, .string ⟨#[]⟩, .string ⟨#[]⟩, .string ⟨#[]⟩, .int .i64 0, .int .i64 0, .slice none 0 0] 32) := by rw [← hX]; exact block_alloc _ _
      have hXf : Fr No w0 X := by rw [← hX]; exact (Fr.refl _ _).alloc _
      clear hX
      refine tree_m1 rfl ?_
      go_wp2_with fail
      refine (fold_any at_ ds.length _ (by omega) (by omega) hat).mono ?_
      rintro e w5 ⟨r, rfl, hr1, hr2, rfl⟩
      obtain ⟨r, rfl⟩ := Int.eq_ofNat_of_zero_le hr1
      have hlt : r < ds.length := by omega
      have hlt' : (r : Int) < ds.length := by omega
      go_wp2_with fail
      refine OnlyN.mk ⟨Fr.refl _ _, ?_⟩
      obtain ⟨b, off, p, hax, hp, hg⟩ := (hpt X (hf0.step hXf (fun _ _ h => h)) r hlt).out
      subst hax
      have e0 := fun g => (hg g).1
      have e1 := fun g => (hg g).2.1
      have e2 := fun g => (hg g).2.2.1
      have e3 := fun g => (hg g).2.2.2.1
      have e4 := fun g => (hg g).2.2.2.2.1
      have e5 := fun g => (hg g).2.2.2.2.2.1
      have e6 := fun g => (hg g).2.2.2.2.2.2.1
      have e7 := fun g => (hg g).2.2.2.2.2.2.2.1
      have e8 := fun g => (hg g).2.2.2.2.2.2.2.2.1
      have e9 := fun g => (hg g).2.2.2.2.2.2.2.2.2
      have Hp := Lib.hid hp
      clear hp hg hpt
      repeat (apply tree_q; exact rfl; exact rfl; exact rfl; intro K hK; go_big_quiet_op; go_big_quiet_on)
      clear e0 e1 e2 e3 e4 e5 e6 e7 e8 e9
      refine tree_m1 rfl ?_
      have z0 : X.cell? ⟨w0.heap.size, 0, none⟩ = some (.int .i64 0) := cell_of_block hXb 0
      have z1 : X.cell? ⟨w0.heap.size, 1, none⟩ = some (.int .i64 0) := cell_of_block hXb 1
      have z2 : X.cell? ⟨w0.heap.size, 2, none⟩ = some (.string ⟨#[]⟩) := cell_of_block hXb 2
      have z3 : X.cell? ⟨w0.heap.size, 3, none⟩ = some (.string ⟨#[]⟩) := cell_of_block hXb 3
      have z4 : X.cell? ⟨w0.heap.size, 4, none⟩ = some (.string ⟨#[]⟩) := cell_of_block hXb 4
      have z5 : X.cell? ⟨w0.heap.size, 5, none⟩ = some (.string ⟨#[]⟩) := cell_of_block hXb 5
      have z6 : X.cell? ⟨w0.heap.size, 6, none⟩ = some (.string ⟨#[]⟩) := cell_of_block hXb 6
      have z7 : X.cell? ⟨w0.heap.size, 7, none⟩ = some (.int .i64 0) := cell_of_block hXb 7
      have z8 : X.cell? ⟨w0.heap.size, 8, none⟩ = some (.int .i64 0) := cell_of_block hXb 8
      have z9 : X.cell? ⟨w0.heap.size, 9, none⟩ = some (.slice none 0 0) := cell_of_block hXb 9
      have y0 : X.frozen? ⟨w0.heap.size, 0, none⟩ = false := free_of_block hXb 0
      have y1 : X.frozen? ⟨w0.heap.size, 1, none⟩ = false := free_of_block hXb 1
      have y2 : X.frozen? ⟨w0.heap.size, 2, none⟩ = false := free_of_block hXb 2
      have y3 : X.frozen? ⟨w0.heap.size, 3, none⟩ = false := free_of_block hXb 3
      have y4 : X.frozen? ⟨w0.heap.size, 4, none⟩ = false := free_of_block hXb 4
      have y5 : X.frozen? ⟨w0.heap.size, 5, none⟩ = false := free_of_block hXb 5
      have y6 : X.frozen? ⟨w0.heap.size, 6, none⟩ = false := free_of_block hXb 6
      have y7 : X.frozen? ⟨w0.heap.size, 7, none⟩ = false := free_of_block hXb 7
      have y8 : X.frozen? ⟨w0.heap.size, 8, none⟩ = false := free_of_block hXb 8
      have y9 : X.frozen? ⟨w0.heap.size, 9, none⟩ = false := free_of_block hXb 9
      go_wp2_with fail
      have h10 := set10 hXb rfl p
      refine OnlyN.mk ⟨h10.2.mono (fun _ _ h => by unfold Is at h; unfold From; omega), ?_⟩
      refine tree_end ?_
      go_wp2_with fail
      go_meet
      exact ⟨w0.heap.size, r, p, rfl, Hp.out, h10.1, by omega, (hf0.step hXf (fun _ _ h => h)).step h10.2 (fun b hb e => by unfold Is at e; omega)⟩
  case rest =>
    obtain ⟨b9, k, x, rfl, hxk, q9, hb9, hf2⟩ := hcut
    obtain ⟨W2, rfl⟩ : ∃ W2, W2 = wc := ⟨_, rfl⟩
    have hxm := List.mem_of_getElem? hxk
    have hTr2 := hTr.no hf2
    have hRc2 := hRc.no hf2 (fun _ => id)
    have b32 := hf2.heap b3 id
    have Hfx2 := Lib.hid (hfx.step hf2 (fun _ _ h => h))
    have lt9 := lt_of_block q9
    have lt32 := lt_of_block b32
    have Hxm := Lib.hid hxm
    have hDv := Lib.hid (fun (X : World) (h : Fr No W2 X) => (hTr2.no h).dv)
    clear hxk hTr hRc b3 hfx hf2 hxm
    obtain ⟨pp, hpp⟩ : ∃ pp, pp = pathOf (origin ds x.index) := ⟨_, rfl⟩
    have HP := Lib.hid hpp
    clear hpp
    go_upto_region 5 with (fail)
    go_cut [8] (fun v wx => ∃ (b ab : Nat), v = .pointer (some ⟨b, 0, none⟩) ∧ wx.heap[b]? = some (.cells (movRec pp x.index ab).vals 42) ∧ wx.heap[ab]? = some (.cells #[.string keySeat, .string seat9] 45) ∧ W2.heap.size ≤ b ∧ W2.heap.size ≤ ab ∧ ab ≠ b ∧ Fr No W2 wx)
    case first =>
      refine region_tree (From W2.heap.size) (.q 0 (.q 1 (.q 2 (.q 4 (.q 5 (.q 6 (.m3 3 (.m2 7 (.q 8 (.m1 9 (.m1 10 .fin))) 9 (.m1 7 (.q 8 (.m1 10 .fin)))) 7 (.m2 3 (.q 8 (.m1 9 (.m1 10 .fin))) 9 (.m1 3 (.q 8 (.m1 10 .fin)))) 9 (.m2 3 (.m1 7 (.q 8 (.m1 10 .fin))) 7 (.m1 3 (.q 8 (.m1 10 .fin))))))))))) _ (by kernel_rfl) (by kernel_rfl) (fun w0 hf0 => ?_) (fun _ _ h => h)
      have q90 := hf0.heap q9 id
      have b30 := hf0.heap b32 id
      have hs0 := hf0.size
      have g3 : ∀ g : Gr (From W2.heap.size) w0, g.W.cell? ⟨w1.heap.size, 0, none⟩ = some (.slice a ds.length cap) := fun g => g.fr.cell (cell_of_block b30 0) (by unfold From; simp; omega)
      have e0 : ∀ g : Gr (From W2.heap.size) w0, g.W.cell? ⟨b9, 0, none⟩ = some (.int .i64 x.index) := fun g => g.fr.cell (cell_of_block q90 0) (by unfold From; simp; omega)
      repeat (apply tree_q; exact rfl; exact rfl; exact rfl; intro K hK; go_big_quiet_op; go_big_quiet_on)
      clear g3 e0 q90 b30
      refine tree_m3 rfl rfl rfl ?_ ?_ ?_
      · go_wp2_with fail
        refine (ref_place a cap ds x.index _ (hDv.out w0 hf0) hT (by omega)).mono ?_
        rintro e wp ⟨rfl, hfp⟩
        rw [← HP.out]
        have hFp := hf0.step hfp (fun _ _ h => h)
        have hzp := hfp.size
        go_wp2_with fail
        refine OnlyN.mk ⟨hfp.mono (fun _ _ h => h.elim), ?_⟩
        refine tree_m2 rfl rfl ?_ ?_
        · go_wp2_with fail
          refine OnlyN.mk ⟨(Fr.refl _ _).alloc _, ?_⟩
          generalize hX : wp.alloc (.cells #[.string ⟨#[73, 68, 95, 83, 69, 65, 84]⟩, .string ⟨#[115, 101, 97, 116, 57]⟩] 45) = XA
          have hAa : XA.heap[wp.heap.size]? = some (.cells #[.string ⟨#[73, 68, 95, 83, 69, 65, 84]⟩, .string ⟨#[115, 101, 97, 116, 57]⟩] 45) := by rw [← hX]; exact block_alloc _ _
          have hfa : Fr No wp XA := by rw [← hX]; exact (Fr.refl _ _).alloc _
          clear hX
          have hFa := hFp.step hfa (fun _ _ h => h)
          have hza := hfa.size
          have hla := lt_of_block hAa
          repeat (apply tree_q; exact rfl; exact rfl; exact rfl; intro K hK; go_big_quiet_op; go_big_quiet_on)
          refine tree_m1 rfl ?_
          go_wp2_with fail
          refine OnlyN.mk ⟨(Fr.refl _ _).alloc _, ?_⟩
          refine tree_m1 rfl ?_
          go_wp2_with fail
          refine OnlyN.mk ⟨Fr.swap _ _ _ (by unfold From; omega), ?_⟩
          refine tree_end ?_
          go_wp2_with fail
          go_meet
          exact ⟨XA.heap.size, wp.heap.size, rfl, block_alloc _ _, ((Fr.refl No _).alloc _).heap hAa id, by omega, by omega, by have := lt_of_block hAa; omega, hFa.step ((Fr.refl _ _).alloc _) (fun _ _ h => h)⟩
        · go_wp2_with fail
          refine OnlyN.mk ⟨(Fr.refl _ _).alloc _, ?_⟩
          generalize hX : wp.alloc (.cells #[.string ⟨#[]⟩, .int .i64 0, .slice none 0 0, .slice none 0 0, .slice none 0 0, .slice none 0 0, .slice none 0 0, .string ⟨#[]⟩, .int .i64 0, .string ⟨#[]⟩, .string ⟨#[]⟩, .int .i64 0] 42) = XR
          have hRr : XR.heap[wp.heap.size]? = some (.cells #[.string ⟨#[]⟩, .int .i64 0, .slice none 0 0, .slice none 0 0, .slice none 0 0, .slice none 0 0, .slice none 0 0, .string ⟨#[]⟩, .int .i64 0, .string ⟨#[]⟩, .string ⟨#[]⟩, .int .i64 0] 42) := by rw [← hX]; exact block_alloc _ _
          have hfr : Fr No wp XR := by rw [← hX]; exact (Fr.refl _ _).alloc _
          clear hX
          have hFr := hFp.step hfr (fun _ _ h => h)
          have hzr := hfr.size
          have hlr := lt_of_block hRr
          refine tree_m1 rfl ?_
          go_wp2_with fail
          refine OnlyN.mk ⟨(Fr.refl _ _).alloc _, ?_⟩
          generalize hX : XR.alloc (.cells #[.string ⟨#[73, 68, 95, 83, 69, 65, 84]⟩, .string ⟨#[115, 101, 97, 116, 57]⟩] 45) = XA
          have hAa : XA.heap[XR.heap.size]? = some (.cells #[.string ⟨#[73, 68, 95, 83, 69, 65, 84]⟩, .string ⟨#[115, 101, 97, 116, 57]⟩] 45) := by rw [← hX]; exact block_alloc _ _
          have hfa : Fr No XR XA := by rw [← hX]; exact (Fr.refl _ _).alloc _
          clear hX
          have hFa := hFr.step hfa (fun _ _ h => h)
          have hza := hfa.size
          have hla := lt_of_block hAa
          have hRa := hfa.heap hRr id
          have hna : XR.heap.size ≠ wp.heap.size := by have := lt_of_block hRr; omega
          repeat (apply tree_q; exact rfl; exact rfl; exact rfl; intro K hK; go_big_quiet_op; go_big_quiet_on)
          refine tree_m1 rfl ?_
          have z0 : XA.cell? ⟨wp.heap.size, 0, none⟩ = some (.string ⟨#[]⟩) := cell_of_block hRa 0
          have z1 : XA.cell? ⟨wp.heap.size, 1, none⟩ = some (.int .i64 0) := cell_of_block hRa 1
          have z2 : XA.cell? ⟨wp.heap.size, 2, none⟩ = some (.slice none 0 0) := cell_of_block hRa 2
          have z3 : XA.cell? ⟨wp.heap.size, 3, none⟩ = some (.slice none 0 0) := cell_of_block hRa 3
          have z4 : XA.cell? ⟨wp.heap.size, 4, none⟩ = some (.slice none 0 0) := cell_of_block hRa 4
          have z5 : XA.cell? ⟨wp.heap.size, 5, none⟩ = some (.slice none 0 0) := cell_of_block hRa 5
          have z6 : XA.cell? ⟨wp.heap.size, 6, none⟩ = some (.slice none 0 0) := cell_of_block hRa 6
          have z7 : XA.cell? ⟨wp.heap.size, 7, none⟩ = some (.string ⟨#[]⟩) := cell_of_block hRa 7
          have z8 : XA.cell? ⟨wp.heap.size, 8, none⟩ = some (.int .i64 0) := cell_of_block hRa 8
          have z9 : XA.cell? ⟨wp.heap.size, 9, none⟩ = some (.string ⟨#[]⟩) := cell_of_block hRa 9
          have z10 : XA.cell? ⟨wp.heap.size, 10, none⟩ = some (.string ⟨#[]⟩) := cell_of_block hRa 10
          have z11 : XA.cell? ⟨wp.heap.size, 11, none⟩ = some (.int .i64 0) := cell_of_block hRa 11
          have v0 : XA.frozen? ⟨wp.heap.size, 0, none⟩ = false := free_of_block hRa 0
          have v1 : XA.frozen? ⟨wp.heap.size, 1, none⟩ = false := free_of_block hRa 1
          have v2 : XA.frozen? ⟨wp.heap.size, 2, none⟩ = false := free_of_block hRa 2
          have v3 : XA.frozen? ⟨wp.heap.size, 3, none⟩ = false := free_of_block hRa 3
          have v4 : XA.frozen? ⟨wp.heap.size, 4, none⟩ = false := free_of_block hRa 4
          have v5 : XA.frozen? ⟨wp.heap.size, 5, none⟩ = false := free_of_block hRa 5
          have v6 : XA.frozen? ⟨wp.heap.size, 6, none⟩ = false := free_of_block hRa 6
          have v7 : XA.frozen? ⟨wp.heap.size, 7, none⟩ = false := free_of_block hRa 7
          have v8 : XA.frozen? ⟨wp.heap.size, 8, none⟩ = false := free_of_block hRa 8
          have v9 : XA.frozen? ⟨wp.heap.size, 9, none⟩ = false := free_of_block hRa 9
          have v10 : XA.frozen? ⟨wp.heap.size, 10, none⟩ = false := free_of_block hRa 10
          have v11 : XA.frozen? ⟨wp.heap.size, 11, none⟩ = false := free_of_block hRa 11
          go_wp2_with fail
          have h12 := set12 hRa rfl (movRec pp x.index XR.heap.size)
          refine OnlyN.mk ⟨h12.2.mono (fun _ _ h => by unfold Is at h; unfold From; omega), ?_⟩
          refine tree_end ?_
          go_wp2_with fail
          go_meet
          exact ⟨wp.heap.size, XR.heap.size, rfl, h12.1, h12.2.heap hAa (fun e => by unfold Is at e; omega), by omega, by omega, by omega, hFa.step h12.2 (fun b hb e => by unfold Is at e; omega)⟩
      · go_wp2_with fail
        refine OnlyN.mk ⟨(Fr.refl _ _).alloc _, ?_⟩
        generalize hX : w0.alloc (.cells #[.string ⟨#[73, 68, 95, 83, 69, 65, 84]⟩, .string ⟨#[115, 101, 97, 116, 57]⟩] 45) = XA
        have hAa : XA.heap[w0.heap.size]? = some (.cells #[.string ⟨#[73, 68, 95, 83, 69, 65, 84]⟩, .string ⟨#[115, 101, 97, 116, 57]⟩] 45) := by rw [← hX]; exact block_alloc _ _
        have hfa : Fr No w0 XA := by rw [← hX]; exact (Fr.refl _ _).alloc _
        clear hX
        have hFa := hf0.step hfa (fun _ _ h => h)
        have hza := hfa.size
        have hla := lt_of_block hAa
        refine tree_m2 rfl rfl ?_ ?_
        · go_wp2_with fail
          refine (ref_place a cap ds x.index _ (hDv.out XA hFa) hT (by omega)).mono ?_
          rintro e wp ⟨rfl, hfp⟩
          rw [← HP.out]
          have hFp := hFa.step hfp (fun _ _ h => h)
          have hzp := hfp.size
          have hAp := hfp.heap hAa id
          go_wp2_with fail
          refine OnlyN.mk ⟨hfp.mono (fun _ _ h => h.elim), ?_⟩
          repeat (apply tree_q; exact rfl; exact rfl; exact rfl; intro K hK; go_big_quiet_op; go_big_quiet_on)
          refine tree_m1 rfl ?_
          go_wp2_with fail
          refine OnlyN.mk ⟨(Fr.refl _ _).alloc _, ?_⟩
          refine tree_m1 rfl ?_
          go_wp2_with fail
          refine OnlyN.mk ⟨Fr.swap _ _ _ (by unfold From; omega), ?_⟩
          refine tree_end ?_
          go_wp2_with fail
          go_meet
          exact ⟨wp.heap.size, w0.heap.size, rfl, block_alloc _ _, ((Fr.refl No _).alloc _).heap hAp id, by omega, by omega, by have := lt_of_block hAp; omega, hFp.step ((Fr.refl _ _).alloc _) (fun _ _ h => h)⟩
        · go_wp2_with fail
          refine OnlyN.mk ⟨(Fr.refl _ _).alloc _, ?_⟩
          generalize hX : XA.alloc (.cells #[.string ⟨#[]⟩, .int .i64 0, .slice none 0 0, .slice none 0 0, .slice none 0 0, .slice none 0 0, .slice none 0 0, .string ⟨#[]⟩, .int .i64 0, .string ⟨#[]⟩, .string ⟨#[]⟩, .int .i64 0] 42) = XR
          have hRr : XR.heap[XA.heap.size]? = some (.cells #[.string ⟨#[]⟩, .int .i64 0, .slice none 0 0, .slice none 0 0, .slice none 0 0, .slice none 0 0, .slice none 0 0, .string ⟨#[]⟩, .int .i64 0, .string ⟨#[]⟩, .string ⟨#[]⟩, .int .i64 0] 42) := by rw [← hX]; exact block_alloc _ _
          have hfr : Fr No XA XR := by rw [← hX]; exact (Fr.refl _ _).alloc _
          clear hX
          have hFr := hFa.step hfr (fun _ _ h => h)
          have hzr := hfr.size
          have hlr := lt_of_block hRr
          have hAr := hfr.heap hAa id
          have hna : w0.heap.size ≠ XA.heap.size := by have := lt_of_block hAa; omega
          refine tree_m1 rfl ?_
          go_wp2_with fail
          refine (ref_place a cap ds x.index _ (hDv.out XR hFr) hT (by omega)).mono ?_
          rintro e wp ⟨rfl, hfp⟩
          rw [← HP.out]
          have hFp := hFr.step hfp (fun _ _ h => h)
          have hzp := hfp.size
          have hAp := hfp.heap hAr id
          have hRp := hfp.heap hRr id
          go_wp2_with fail
          refine OnlyN.mk ⟨hfp.mono (fun _ _ h => h.elim), ?_⟩
          repeat (apply tree_q; exact rfl; exact rfl; exact rfl; intro K hK; go_big_quiet_op; go_big_quiet_on)
          refine tree_m1 rfl ?_
          have z0 : wp.cell? ⟨XA.heap.size, 0, none⟩ = some (.string ⟨#[]⟩) := cell_of_block hRp 0
          have z1 : wp.cell? ⟨XA.heap.size, 1, none⟩ = some (.int .i64 0) := cell_of_block hRp 1
          have z2 : wp.cell? ⟨XA.heap.size, 2, none⟩ = some (.slice none 0 0) := cell_of_block hRp 2
          have z3 : wp.cell? ⟨XA.heap.size, 3, none⟩ = some (.slice none 0 0) := cell_of_block hRp 3
          have z4 : wp.cell? ⟨XA.heap.size, 4, none⟩ = some (.slice none 0 0) := cell_of_block hRp 4
          have z5 : wp.cell? ⟨XA.heap.size, 5, none⟩ = some (.slice none 0 0) := cell_of_block hRp 5
          have z6 : wp.cell? ⟨XA.heap.size, 6, none⟩ = some (.slice none 0 0) := cell_of_block hRp 6
          have z7 : wp.cell? ⟨XA.heap.size, 7, none⟩ = some (.string ⟨#[]⟩) := cell_of_block hRp 7
          have z8 : wp.cell? ⟨XA.heap.size, 8, none⟩ = some (.int .i64 0) := cell_of_block hRp 8
          have z9 : wp.cell? ⟨XA.heap.size, 9, none⟩ = some (.string ⟨#[]⟩) := cell_of_block hRp 9
          have z10 : wp.cell? ⟨XA.heap.size, 10, none⟩ = some (.string ⟨#[]⟩) := cell_of_block hRp 10
          have z11 : wp.cell? ⟨XA.heap.size, 11, none⟩ = some (.int .i64 0) := cell_of_block hRp 11
          have v0 : wp.frozen? ⟨XA.heap.size, 0, none⟩ = false := free_of_block hRp 0
          have v1 : wp.frozen? ⟨XA.heap.size, 1, none⟩ = false := free_of_block hRp 1
          have v2 : wp.frozen? ⟨XA.heap.size, 2, none⟩ = false := free_of_block hRp 2
          have v3 : wp.frozen? ⟨XA.heap.size, 3, none⟩ = false := free_of_block hRp 3
          have v4 : wp.frozen? ⟨XA.heap.size, 4, none⟩ = false := free_of_block hRp 4
          have v5 : wp.frozen? ⟨XA.heap.size, 5, none⟩ = false := free_of_block hRp 5
          have v6 : wp.frozen? ⟨XA.heap.size, 6, none⟩ = false := free_of_block hRp 6
          have v7 : wp.frozen? ⟨XA.heap.size, 7, none⟩ = false := free_of_block hRp 7
          have v8 : wp.frozen? ⟨XA.heap.size, 8, none⟩ = false := free_of_block hRp 8
          have v9 : wp.frozen? ⟨XA.heap.size, 9, none⟩ = false := free_of_block hRp 9
          have v10 : wp.frozen? ⟨XA.heap.size, 10, none⟩ = false := free_of_block hRp 10
          have v11 : wp.frozen? ⟨XA.heap.size, 11, none⟩ = false := free_of_block hRp 11
          go_wp2_with fail
          have h12 := set12 hRp rfl (movRec pp x.index w0.heap.size)
          refine OnlyN.mk ⟨h12.2.mono (fun _ _ h => by unfold Is at h; unfold From; omega), ?_⟩
          refine tree_end ?_
          go_wp2_with fail
          go_meet
          exact ⟨XA.heap.size, w0.heap.size, rfl, h12.1, h12.2.heap hAp (fun e => by unfold Is at e; omega), by omega, by omega, by omega, hFp.step h12.2 (fun b hb e => by unfold Is at e; omega)⟩
      · go_wp2_with fail
        refine OnlyN.mk ⟨(Fr.refl _ _).alloc _, ?_⟩
        generalize hX : w0.alloc (.cells #[.string ⟨#[]⟩, .int .i64 0, .slice none 0 0, .slice none 0 0, .slice none 0 0, .slice none 0 0, .slice none 0 0, .string ⟨#[]⟩, .int .i64 0, .string ⟨#[]⟩, .string ⟨#[]⟩, .int .i64 0] 42) = XR
        have hRr : XR.heap[w0.heap.size]? = some (.cells #[.string ⟨#[]⟩, .int .i64 0, .slice none 0 0, .slice none 0 0, .slice none 0 0, .slice none 0 0, .slice none 0 0, .string ⟨#[]⟩, .int .i64 0, .string ⟨#[]⟩, .string ⟨#[]⟩, .int .i64 0] 42) := by rw [← hX]; exact block_alloc _ _
        have hfr : Fr No w0 XR := by rw [← hX]; exact (Fr.refl _ _).alloc _
        clear hX
        have hFr := hf0.step hfr (fun _ _ h => h)
        have hzr := hfr.size
        have hlr := lt_of_block hRr
        refine tree_m2 rfl rfl ?_ ?_
        · go_wp2_with fail
          refine (ref_place a cap ds x.index _ (hDv.out XR hFr) hT (by omega)).mono ?_
          rintro e wp ⟨rfl, hfp⟩
          rw [← HP.out]
          have hFp := hFr.step hfp (fun _ _ h => h)
          have hzp := hfp.size
          have hRp := hfp.heap hRr id
          go_wp2_with fail
          refine OnlyN.mk ⟨hfp.mono (fun _ _ h => h.elim), ?_⟩
          refine tree_m1 rfl ?_
          go_wp2_with fail
          refine OnlyN.mk ⟨(Fr.refl _ _).alloc _, ?_⟩
          generalize hX : wp.alloc (.cells #[.string ⟨#[73, 68, 95, 83, 69, 65, 84]⟩, .string ⟨#[115, 101, 97, 116, 57]⟩] 45) = XA
          have hAa : XA.heap[wp.heap.size]? = some (.cells #[.string ⟨#[73, 68, 95, 83, 69, 65, 84]⟩, .string ⟨#[115, 101, 97, 116, 57]⟩] 45) := by rw [← hX]; exact block_alloc _ _
          have hfa : Fr No wp XA := by rw [← hX]; exact (Fr.refl _ _).alloc _
          clear hX
          have hFa := hFp.step hfa (fun _ _ h => h)
          have hza := hfa.size
          have hla := lt_of_block hAa
          have hRa := hfa.heap hRp id
          have hna : wp.heap.size ≠ w0.heap.size := by have := lt_of_block hRp; omega
          repeat (apply tree_q; exact rfl; exact rfl; exact rfl; intro K hK; go_big_quiet_op; go_big_quiet_on)
          refine tree_m1 rfl ?_
          have z0 : XA.cell? ⟨w0.heap.size, 0, none⟩ = some (.string ⟨#[]⟩) := cell_of_block hRa 0
          have z1 : XA.cell? ⟨w0.heap.size, 1, none⟩ = some (.int .i64 0) := cell_of_block hRa 1
          have z2 : XA.cell? ⟨w0.heap.size, 2, none⟩ = some (.slice none 0 0) := cell_of_block hRa 2
          have z3 : XA.cell? ⟨w0.heap.size, 3, none⟩ = some (.slice none 0 0) := cell_of_block hRa 3
          have z4 : XA.cell? ⟨w0.heap.size, 4, none⟩ = some (.slice none 0 0) := cell_of_block hRa 4
          have z5 : XA.cell? ⟨w0.heap.size, 5, none⟩ = some (.slice none 0 0) := cell_of_block hRa 5
          have z6 : XA.cell? ⟨w0.heap.size, 6, none⟩ = some (.slice none 0 0) := cell_of_block hRa 6
          have z7 : XA.cell? ⟨w0.heap.size, 7, none⟩ = some (.string ⟨#[]⟩) := cell_of_block hRa 7
          have z8 : XA.cell? ⟨w0.heap.size, 8, none⟩ = some (.int .i64 0) := cell_of_block hRa 8
          have z9 : XA.cell? ⟨w0.heap.size, 9, none⟩ = some (.string ⟨#[]⟩) := cell_of_block hRa 9
          have z10 : XA.cell? ⟨w0.heap.size, 10, none⟩ = some (.string ⟨#[]⟩) := cell_of_block hRa 10
          have z11 : XA.cell? ⟨w0.heap.size, 11, none⟩ = some (.int .i64 0) := cell_of_block hRa 11
          have v0 : XA.frozen? ⟨w0.heap.size, 0, none⟩ = false := free_of_block hRa 0
          have v1 : XA.frozen? ⟨w0.heap.size, 1, none⟩ = false := free_of_block hRa 1
          have v2 : XA.frozen? ⟨w0.heap.size, 2, none⟩ = false := free_of_block hRa 2
          have v3 : XA.frozen? ⟨w0.heap.size, 3, none⟩ = false := free_of_block hRa 3
          have v4 : XA.frozen? ⟨w0.heap.size, 4, none⟩ = false := free_of_block hRa 4
          have v5 : XA.frozen? ⟨w0.heap.size, 5, none⟩ = false := free_of_block hRa 5
          have v6 : XA.frozen? ⟨w0.heap.size, 6, none⟩ = false := free_of_block hRa 6
          have v7 : XA.frozen? ⟨w0.heap.size, 7, none⟩ = false := free_of_block hRa 7
          have v8 : XA.frozen? ⟨w0.heap.size, 8, none⟩ = false := free_of_block hRa 8
          have v9 : XA.frozen? ⟨w0.heap.size, 9, none⟩ = false := free_of_block hRa 9
          have v10 : XA.frozen? ⟨w0.heap.size, 10, none⟩ = false := free_of_block hRa 10
          have v11 : XA.frozen? ⟨w0.heap.size, 11, none⟩ = false := free_of_block hRa 11
          go_wp2_with fail
          have h12 := set12 hRa rfl (movRec pp x.index wp.heap.size)
          refine OnlyN.mk ⟨h12.2.mono (fun _ _ h => by unfold Is at h; unfold From; omega), ?_⟩
          refine tree_end ?_
          go_wp2_with fail
          go_meet
          exact ⟨w0.heap.size, wp.heap.size, rfl, h12.1, h12.2.heap hAa (fun e => by unfold Is at e; omega), by omega, by omega, by omega, hFa.step h12.2 (fun b hb e => by unfold Is at e; omega)⟩
        · go_wp2_with fail
          refine OnlyN.mk ⟨(Fr.refl _ _).alloc _, ?_⟩
          generalize hX : XR.alloc (.cells #[.string ⟨#[73, 68, 95, 83, 69, 65, 84]⟩, .string ⟨#[115, 101, 97, 116, 57]⟩] 45) = XA
          have hAa : XA.heap[XR.heap.size]? = some (.cells #[.string ⟨#[73, 68, 95, 83, 69, 65, 84]⟩, .string ⟨#[115, 101, 97, 116, 57]⟩] 45) := by rw [← hX]; exact block_alloc _ _
          have hfa : Fr No XR XA := by rw [← hX]; exact (Fr.refl _ _).alloc _
          clear hX
          have hFa := hFr.step hfa (fun _ _ h => h)
          have hza := hfa.size
          have hla := lt_of_block hAa
          have hRa := hfa.heap hRr id
          have hna : XR.heap.size ≠ w0.heap.size := by have := lt_of_block hRr; omega
          refine tree_m1 rfl ?_
          go_wp2_with fail
          refine (ref_place a cap ds x.index _ (hDv.out XA hFa) hT (by omega)).mono ?_
          rintro e wp ⟨rfl, hfp⟩
          rw [← HP.out]
          have hFp := hFa.step hfp (fun _ _ h => h)
          have hzp := hfp.size
          have hAp := hfp.heap hAa id
          have hRp := hfp.heap hRa id
          go_wp2_with fail
          refine OnlyN.mk ⟨hfp.mono (fun _ _ h => h.elim), ?_⟩
          repeat (apply tree_q; exact rfl; exact rfl; exact rfl; intro K hK; go_big_quiet_op; go_big_quiet_on)
          refine tree_m1 rfl ?_
          have z0 : wp.cell? ⟨w0.heap.size, 0, none⟩ = some (.string ⟨#[]⟩) := cell_of_block hRp 0
          have z1 : wp.cell? ⟨w0.heap.size, 1, none⟩ = some (.int .i64 0) := cell_of_block hRp 1
          have z2 : wp.cell? ⟨w0.heap.size, 2, none⟩ = some (.slice none 0 0) := cell_of_block hRp 2
          have z3 : wp.cell? ⟨w0.heap.size, 3, none⟩ = some (.slice none 0 0) := cell_of_block hRp 3
          have z4 : wp.cell? ⟨w0.heap.size, 4, none⟩ = some (.slice none 0 0) := cell_of_block hRp 4
          have z5 : wp.cell? ⟨w0.heap.size, 5, none⟩ = some (.slice none 0 0) := cell_of_block hRp 5
          have z6 : wp.cell? ⟨w0.heap.size, 6, none⟩ = some (.slice none 0 0) := cell_of_block hRp 6
          have z7 : wp.cell? ⟨w0.heap.size, 7, none⟩ = some (.string ⟨#[]⟩) := cell_of_block hRp 7
          have z8 : wp.cell? ⟨w0.heap.size, 8, none⟩ = some (.int .i64 0) := cell_of_block hRp 8
          have z9 : wp.cell? ⟨w0.heap.size, 9, none⟩ = some (.string ⟨#[]⟩) := cell_of_block hRp 9
          have z10 : wp.cell? ⟨w0.heap.size, 10, none⟩ = some (.string ⟨#[]⟩) := cell_of_block hRp 10
          have z11 : wp.cell? ⟨w0.heap.size, 11, none⟩ = some (.int .i64 0) := cell_of_block hRp 11
          have v0 : wp.frozen? ⟨w0.heap.size, 0, none⟩ = false := free_of_block hRp 0
          have v1 : wp.frozen? ⟨w0.heap.size, 1, none⟩ = false := free_of_block hRp 1
          have v2 : wp.frozen? ⟨w0.heap.size, 2, none⟩ = false := free_of_block hRp 2
          have v3 : wp.frozen? ⟨w0.heap.size, 3, none⟩ = false := free_of_block hRp 3
          have v4 : wp.frozen? ⟨w0.heap.size, 4, none⟩ = false := free_of_block hRp 4
          have v5 : wp.frozen? ⟨w0.heap.size, 5, none⟩ = false := free_of_block hRp 5
          have v6 : wp.frozen? ⟨w0.heap.size, 6, none⟩ = false := free_of_block hRp 6
          have v7 : wp.frozen? ⟨w0.heap.size, 7, none⟩ = false := free_of_block hRp 7
          have v8 : wp.frozen? ⟨w0.heap.size, 8, none⟩ = false := free_of_block hRp 8
          have v9 : wp.frozen? ⟨w0.heap.size, 9, none⟩ = false := free_of_block hRp 9
          have v10 : wp.frozen? ⟨w0.heap.size, 10, none⟩ = false := free_of_block hRp 10
          have v11 : wp.frozen? ⟨w0.heap.size, 11, none⟩ = false := free_of_block hRp 11
          go_wp2_with fail
          have h12 := set12 hRp rfl (movRec pp x.index XR.heap.size)
          refine OnlyN.mk ⟨h12.2.mono (fun _ _ h => by unfold Is at h; unfold From; omega), ?_⟩
          refine tree_end ?_
          go_wp2_with fail
          go_meet
          exact ⟨w0.heap.size, XR.heap.size, rfl, h12.1, h12.2.heap hAp (fun e => by unfold Is at e; omega), by omega, by omega, by omega, hFp.step h12.2 (fun b hb e => by unfold Is at e; omega)⟩
    case rest =>
      obtain ⟨b, ab, rfl, hrb, hatb, hb, hab, hne, hf3⟩ := hcut
      obtain ⟨W3, rfl⟩ : ∃ W3, W3 = wc := ⟨_, rfl⟩
      have hMv : MovR ds x (movRec pp x.index ab) := ⟨HP.out, rfl, rfl⟩
      have hAt : Atts W3 (some ⟨ab, 0, none⟩) 1 [(keySeat, seat9)] := atts_one hatb (by decide) (by decide)
      have hTr3 := hTr2.no hf3
      have hRc3 := hRc2.no hf3 (fun _ => id)
      have hROk : RecOk W3 (movRec pp x.index ab) := ⟨hAt, Strs.nil _⟩
      have b33 := hf3.heap b32 id
      have q93 := hf3.heap q9 id
      have Hfx3 := Lib.hid (Hfx2.out.step hf3 (fun _ _ h => h))
      have lt33 := lt_of_block b33
      have lt93 := lt_of_block q93
      have HM := Lib.hid (fun n : Int => moved (l := out) hT Hxm.out hMv n)
      have hpr : (movRec pp x.index ab).props = [(keySeat, seat9)] := rfl
      have r0 : W3.cell? ⟨b, 0, none⟩ = some (.string pp) := cell_of_block hrb 0
      have r1 : W3.cell? ⟨b, 1, none⟩ = some (.int .i64 x.index) := cell_of_block hrb 1
      have r2 : W3.cell? ⟨b, 2, none⟩ = some (.slice (some ⟨ab, 0, none⟩) 1 1) := cell_of_block hrb 2
      have r3 : W3.cell? ⟨b, 3, none⟩ = some (.slice none 0 0) := cell_of_block hrb 3
      have r4 : W3.cell? ⟨b, 4, none⟩ = some (.slice none 0 0) := cell_of_block hrb 4
      have r5 : W3.cell? ⟨b, 5, none⟩ = some (.slice none 0 0) := cell_of_block hrb 5
      have r6 : W3.cell? ⟨b, 6, none⟩ = some (.slice none 0 0) := cell_of_block hrb 6
      have r7 : W3.cell? ⟨b, 7, none⟩ = some (.string ⟨#[]⟩) := cell_of_block hrb 7
      have r8 : W3.cell? ⟨b, 8, none⟩ = some (.int .i64 0) := cell_of_block hrb 8
      have r9 : W3.cell? ⟨b, 9, none⟩ = some (.string ⟨#[]⟩) := cell_of_block hrb 9
      have r10 : W3.cell? ⟨b, 10, none⟩ = some (.string ⟨#[]⟩) := cell_of_block hrb 10
      have r11 : W3.cell? ⟨b, 11, none⟩ = some (.int .i64 0) := cell_of_block hrb 11
      obtain ⟨i0, hi0, hz0, hz1, hz2⟩ := info_parts infoR
      have hA : Fr No W3 (W3.alloc (.cells (movRec pp x.index ab).vals 42)) := (Fr.refl _ _).alloc _
      have own1 : (W3.alloc (.cells (movRec pp x.index ab).vals 42)).ownsRow W3.heap.size 42 12 (.slice (some ⟨W3.heap.size, 0, none⟩) 1 1) 1 (rflat [movRec pp x.index ab]) :=
        ⟨rfl, .inr ⟨W3.heap.size, 1, (movRec pp x.index ab).vals, rfl, Nat.le_refl _, block_alloc _ _, Nat.le_refl _, by unfold maxLen; omega, rfl, rfl⟩⟩
      have hRcA := hRc3.no hA (fun _ => id)
      clear hTr2 hRc2 b32 q9 hf3 hatb hrb hMv
      go_upto_region 7 with (at_builtin; refine wpList_append_src rfl _ _ 26 rfl W3.heap.size 42 i0 (.agg #[.string ByteArray.empty, .int .i64 0, .slice none 0 0, .slice none 0 0, .slice none 0 0, .slice none 0 0, .slice none 0 0, .string ByteArray.empty, .int .i64 0, .string ByteArray.empty, .string ByteArray.empty, .int .i64 0]) 12 208 Tryz.underlying26 hi0 hz0 hz1 hz2 rfl (by decide) _ 1 (rflat [movRec pp x.index ab]) rfl own1 ra out.length rc (rflat out) rfl (fun e => ⟨by rw [(hRcA.isNil e).1]; rfl, (hRcA.isNil e).2⟩) (rflat_len out) (fun ad e => hRcA.src ad e) (rflat_one out) (by unfold maxLen; omega) (by omega) (by simp) ?_; intro v' w4 own4 gr4; obtain ⟨nv, nc, rfl⟩ := ownsRow_slice own4)
      have hfA : Fr (From W3.heap.size) W3 w4 := ((hA.mono (T := From W3.heap.size) (fun _ _ h => h.elim))).step ((Fr.of_grown gr4).mono (T := From W3.heap.size) (fun b' _ e => ownsRow_blk own1 e)) (fun _ _ h => h)
      have hnl : ∀ b', b' < W3.heap.size → ¬ From W3.heap.size b' := fun b' h1 h2 => by unfold From at h2; omega
      have hTr4 := hTr3.keep hfA (fun b' h1 _ => hnl b' h1)
      have hRc4 := hRc3.keep hfA hnl
      have hROk4 : RecOk w4 (movRec pp x.index ab) := ⟨hAt.keep hfA hnl, Strs.nil _⟩
      have b34 := hfA.heap b33 (hnl _ lt33)
      have q94 := hfA.heap q93 (hnl _ lt93)
      have Hfx4 := Lib.hid (Hfx3.out.step hfA (fun b' hb' h => by have := Hfx3.out.size; unfold From at h; omega))
      have hcn : 1 + out.length = (movRec pp x.index ab :: out).length := by rw [List.length_cons]; omega
      have own5 : w4.ownsRow W3.heap.size 42 12 (.slice nv (movRec pp x.index ab :: out).length nc) (movRec pp x.index ab :: out).length (rflat (movRec pp x.index ab :: out)) := by
        have e : rflat (movRec pp x.index ab :: out) = rflat [movRec pp x.index ab] ++ rflat out := by simp [rflat]
        rw [e, ← hcn]; exact own4
      obtain ⟨nv', nc', hv, hN, _⟩ := Recs.of_own own5 (fun r hr => by
        rcases List.mem_cons.1 hr with h | h
        · subst h; exact hROk4
        · exact hRc4.ok r h)
      cases hv
      rw [hcn]
      have HM2 : Hid (∀ n : Int, (belowB ds n x.index = false → seatOf ds (movRec pp x.index ab :: out) n = seatOf ds out n ∧ n ≠ x.index) ∧ (n = x.index → seatOf ds (movRec pp x.index ab :: out) n = seat9) ∧ (seatOf ds (movRec pp x.index ab :: out) n = seatOf ds out n ∨ seatOf ds (movRec pp x.index ab :: out) n = seat9)) := fun n => ⟨(HM.out n).out, (HM.out n).own, (HM.out n).any⟩
      clear own4 own5 gr4 hcn hROk4 hROk hAt hTr3 hRc3 hRcA hA own1 b33 q93 hfA r0 r1 r2 r3 r4 r5 r6 r7 r8 r9 r10 r11 hpr HM
      generalize movRec pp x.index ab :: out = NOW at *
      have c34 : w4.cell? ⟨w1.heap.size, 0, none⟩ = some (.slice a ds.length cap) := cell_of_block b34 0
      have d94 : w4.cell? ⟨b9, 0, none⟩ = some (.int .i64 x.index) := cell_of_block q94 0
      go_wp2_with fail
      refine (ref_subtree a cap ds x.index _ hTr4.dv (by omega)).mono ?_
      rintro e w5 ⟨⟨a8, c8, rfl, hD8⟩, hf5⟩
      have hxs : belowB ds x.index x.index = true := by rw [belowB_iff, hT.chain_cons (hT.lk Hxm.out)]; simp
      have hsne : subL ds x.index ds ≠ [] := by
        intro e
        have h : x ∈ subL ds x.index ds := List.mem_filter.2 ⟨Hxm.out, hxs⟩
        rw [e] at h; simp at h
      have hI := IdxAt.of_devs hD8 hsne
      have HU : Hid (∀ y ∈ ds, decide (y.index ∈ (subL ds x.index ds).map Dev.index) = belowB ds y.index x.index) := fun y hy => sub_mem hT hy
      have hul : (subL ds x.index ds).length = ((subL ds x.index ds).map Dev.index).length := by simp
      rw [hul]
      generalize (subL ds x.index ds).map Dev.index = U at *
      have hUm : U.length ≤ 9223372036854775807 := by have h1 := hI.len; have h2 := hI.max; unfold maxLen at h2; omega
      have hTr5 := hTr4.no hf5
      have hRc5 := hRc4.no hf5 (fun _ => id)
      have hN5 := hN.no hf5 (fun _ => id)
      have b35 := hf5.heap b34 id
      have q95 := hf5.heap q94 id
      have Hfx5 := Lib.hid (Hfx4.out.step hf5 (fun _ _ h => h))
      clear hul hsne hD8 hTr4 hRc4 hN b34 q94 c34 d94 hf5 hxs
      go_wp2_with fail
      go_loopw [11] (fun i wr => ∃ k : Nat, k ≤ ds.length ∧ i = .int .i64 (k : Int) ∧ Fr No w5 wr) (fun i _ => ds.length - (intOf i).toNat)
      case atStart => exact ⟨0, by omega, rfl, Fr.refl _ _⟩
      case round =>
        obtain ⟨k, hk, rfl, hfr⟩ := hrel
        obtain ⟨W6, rfl⟩ : ∃ W6, W6 = wr := ⟨_, rfl⟩
        have c36 : W6.cell? ⟨w1.heap.size, 0, none⟩ = some (.slice a ds.length cap) := cell_of_block (hfr.heap b35 id) 0
        by_cases hlt : k < ds.length
        · have hlt' : (k : Int) < ds.length := by omega
          have hTr6 := hTr5.no hfr
          have hRc6 := hRc5.no hfr (fun _ => id)
          have hN6 := hN5.no hfr (fun _ => id)
          have b36 := hfr.heap b35 id
          have q96 := hfr.heap q95 id
          have hI6 := hI.keep hfr (fun _ _ => id)
          have Hfr := Lib.hid hfr
          obtain ⟨bb, off, y, hax, hyk, y0, _, _, _, _, _, _, _, _, _⟩ := hTr6.dv.dev hlt
          subst hax
          have hyw := hT.iwf (List.mem_of_getElem? hyk)
          have Hbl : Hid (decide (y.index ∈ U) = belowB ds y.index x.index) := HU.out y (List.mem_of_getElem? hyk)
          have HMy := Lib.hid (HM2.out y.index)
          clear hfr hyk
          go_wp2_with fail
          clear y0 c36
          generalize y.index = n at *
          go_loopw [13, 14] (fun v i wr => ∃ j : Nat, j ≤ U.length ∧ v = .bool (decide (n ∈ U.take j)) ∧ i = .int .i64 (j : Int) ∧ Fr No W6 wr) (fun _ i _ => U.length - (intOf i).toNat)
          case atStart => exact ⟨0, by omega, by simp, rfl, Fr.refl _ _⟩
          case round =>
            obtain ⟨j, hj, rfl, rfl, hfr⟩ := hrel
            by_cases hlj : j < U.length
            · have hlj' : (j : Int) < U.length := by omega
              obtain ⟨ub, uo, hua, _, huc⟩ := (hI6.keep hfr (fun _ _ => id)).cell
              subst hua
              obtain ⟨u, huk⟩ : ∃ u, U[j]? = some u := ⟨U[j], List.getElem?_eq_getElem hlj⟩
              have z0 := huc j u huk
              have Htk : Hid (U.take (j + 1) = U.take j ++ [u]) := by unfold Hid; rw [List.take_add_one, huk]; rfl
              clear huc huk
              cases hb : decide (n ∈ U.take j) with
              | true =>
                have Hn : Hid (decide (n ∈ U.take (j + 1)) = true) := by
                  unfold Hid
                  rw [decide_eq_true_iff, Htk.out]
                  exact List.mem_append_left _ (of_decide_eq_true hb)
                clear hb z0
                go_wp2_with fail
                go_roundw
                case rel => exact ⟨j + 1, by omega, by rw [Hn.out], by go_num, hfr⟩
                case measure => simp [intOf]; omega
              | false =>
                have Hn : Hid (decide (n ∈ U.take (j + 1)) = (u == n)) := by
                  unfold Hid
                  rw [Bool.eq_iff_iff, decide_eq_true_iff, Htk.out, List.mem_append, List.mem_singleton, beq_iff_eq]
                  have := of_decide_eq_false hb
                  exact ⟨fun h => h.elim (fun h => absurd h this) Eq.symm, fun h => .inr h.symm⟩
                clear hb
                go_wp2_with fail
                go_roundw
                case rel => exact ⟨j + 1, by omega, by rw [Hn.out], by go_num, hfr⟩
                case measure => simp [intOf]; omega
            · obtain rfl : j = U.length := by omega
              rw [List.take_length, Hbl.out]
              have hTr7 := hTr6.no hfr
              have hRc7 := hRc6.no hfr (fun _ => id)
              have hN7 := hN6.no hfr (fun _ => id)
              have c37 : wr.cell? ⟨w1.heap.size, 0, none⟩ = some (.slice (some ⟨bb, off, none⟩) ds.length cap) := cell_of_block (hfr.heap b36 id) 0
              have d97 : wr.cell? ⟨b9, 0, none⟩ = some (.int .i64 x.index) := cell_of_block (hfr.heap q96 id) 0
              have Hf7 := Lib.hid (Hfr.out.step hfr (fun _ _ h => h))
              clear hfr hTr6 hRc6 hN6
              go_wp2_with fail
              refine region_sig No [(0, false), (1, false), (2, false), (4, false), (5, false), (6, false), (3, true), (7, true), (8, false), (9, false)] (by kernel_rfl) (by kernel_rfl) (fun w0 hf0 => ?_)
              have hTr8 := hTr7.no hf0
              have hRc8 := hRc7.no hf0 (fun _ => id)
              have hN8 := hN7.no hf0 (fun _ => id)
              have g3 : ∀ g : Gr No w0, g.W.cell? ⟨w1.heap.size, 0, none⟩ = some (.slice (some ⟨bb, off, none⟩) ds.length cap) := fun g => g.fr.cell (hf0.cell c37 id) id
              have d98 := hf0.cell d97 id
              have Hf8 := Lib.hid (Hf7.out.step hf0 (fun _ _ h => h))
              clear hTr7 hRc7 hN7 c37 d97 hf0
              repeat (apply sig_q; exact rfl; exact rfl; exact rfl; intro K hK; go_big_quiet_op; go_big_quiet_on)
              clear g3
              apply sig_m
              exact rfl
              go_wp2_with fail
              refine (seat_of _ ra cap rc base ds out n _ hTr8 (by omega) hyw hRc8).mono ?_
              rintro e w9 ⟨rfl, hf9⟩
              have hTr9 := hTr8.no hf9
              have hN9 := hN8.no hf9 (fun _ => id)
              have d99 := hf9.cell d98 id
              have Hf9 := Lib.hid (Hf8.out.step hf9 (fun _ _ h => h))
              clear hTr8 hRc8 hN8 d98
              go_wp2_with fail
              refine OnlyN.mk ⟨hf9, ?_⟩
              clear hf9
              apply sig_m
              exact rfl
              go_wp2_with fail
              refine (seat_of _ nv cap nc base ds NOW n _ hTr9 (by omega) hyw hN9).mono ?_
              rintro e wa ⟨rfl, hfa⟩
              have d9a := hfa.cell d99 id
              have Hfa := Lib.hid (Hf9.out.step hfa (fun _ _ h => h))
              clear hTr9 hN9 d99
              generalize seatOf ds NOW n = si at *
              generalize seatOf ds out n = sw at *
              go_wp2_with fail
              refine OnlyN.mk ⟨hfa, ?_⟩
              clear hfa
              repeat (apply sig_q; exact rfl; exact rfl; exact rfl; intro K hK; go_big_quiet_op; go_big_quiet_on)
              refine sig_end ?_
              have hss : (sw.toList == sw.toList) = true := by simp
              have h9 : seat9.toList = [115, 101, 97, 116, 57] := by rw [ByteArray.toList_eq]; rfl
              generalize belowB ds n x.index = bl at *
              cases bl with
              | false =>
                obtain ⟨h1, h2⟩ := HMy.out.1 rfl
                subst h1
                have h3 : (n == x.index) = false := by simpa using h2
                clear h2 h9
                go_wp2_with fail
                go_roundw
                case rel => exact ⟨k + 1, by omega, by go_num, Hfa.out⟩
                case measure => simp [intOf]; omega
              | true =>
                have H9 : si = seat9 → Hid (si = seat9) := fun h => h
                by_cases hnx : n = x.index
                · have h3 : (n == x.index) = true := by simpa using hnx
                  have hsi := HMy.out.2.1 hnx
                  subst hsi
                  clear hnx H9 h9
                  unfold seat9
                  rcases e1 : ([115, 101, 97, 116, 57] == sw.toList) with _ | _
                  · go_wp2_with fail
                    go_roundw
                    case rel => exact ⟨k + 1, by omega, by go_num, Hfa.out⟩
                    case measure => simp [intOf]; omega
                  · go_wp2_with fail
                    go_roundw
                    case rel => exact ⟨k + 1, by omega, by go_num, Hfa.out⟩
                    case measure => simp [intOf]; omega
                · have h3 : (n == x.index) = false := by simpa using hnx
                  rcases HMy.out.2.2 with hsi | hsi
                  · subst hsi
                    clear hnx H9 h9
                    go_wp2_with fail
                    go_roundw
                    case rel => exact ⟨k + 1, by omega, by go_num, Hfa.out⟩
                    case measure => simp [intOf]; omega
                  · subst hsi
                    clear hnx H9 h9
                    unfold seat9
                    rcases e1 : ([115, 101, 97, 116, 57] == sw.toList) with _ | _
                    · go_wp2_with fail
                      go_roundw
                      case rel => exact ⟨k + 1, by omega, by go_num, Hfa.out⟩
                      case measure => simp [intOf]; omega
                    · go_wp2_with fail
                      go_roundw
                      case rel => exact ⟨k + 1, by omega, by go_num, Hfa.out⟩
                      case measure => simp [intOf]; omega
        · obtain rfl : k = ds.length := by omega
          have Hf6 := Lib.hid (Hfx5.out.step hfr (fun _ _ h => h))
          clear hfr
          go_wp2_with fail
          refine (known_walk _).mono ?_
          rintro e w7 ⟨rfl, hf7⟩
          have hfe := Hf6.out.step hf7 (fun _ _ h => h)
          go_wp2_with fail
          go_ret
          exact ⟨rfl, hfe⟩
end Go.Proofs.YtpnpjaemlflplaaGreatDoor
