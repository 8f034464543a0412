/- SeatOthers: the walk. -/
import Derived.Test.YtpnpjaemlflplaaGreatDoorKV
import Derived.Test.YtpnpjaemlflplaaGreatDoorKE
namespace Go.Proofs.YtpnpjaemlflplaaGreatDoor
open Go.RowKit Go.Maps
set_option linter.unusedVariables false

theorem GoodR.len {ds q : List Dev} {out : List Rec} (h : GoodR ds q out) : out.length ≤ q.length := by
  induction h with
  | nil => simp
  | skip h x ih => simp; omega
  | put h hr ih => simp; omega
theorem cells_at {w : World} {b : Nat} {xs : Array Value} {t : TypeId} (h : w.heap[b]? = some (.cells xs t)) : ∀ j u, xs.toList[j]? = some u → w.cell? ((⟨b, 0, none⟩ : Addr).add j) = some u := by
  intro j u hj
  rw [Addr.add_lit, cell_of_block h]
  simpa using hj

set_option maxRecDepth 100000 in
set_option maxHeartbeats 4000000 in
theorem others_walk (la : Option Addr) (lc : Nat) (l : List Int) (at_ : Int) (m : Int) (w : World) (hl : Ints w la lc l) (hat : (Lit.int .i64 at_).wf = true) (hm : w.cell? ⟨0, 0, none⟩ = some (.int .i64 m)) (hw0 : 0 < w.heap.size) :
    Calls Tryz.prog 8 #[.slice la l.length lc, .int .i64 at_] w fun e w' => e = .returned (.bool true) ∧ Fr No w w' := by
  go_enter Tryz.func8, Tryz.ntmps8
  go_wp2_with fail
  refine (site_walk la lc l m w hl hm hw0).mono ?_
  rintro e w1 ⟨⟨base, a, cap, ds, ra, rc, out, rfl, hS⟩, hf1⟩
  have hT := hS.tr.wf.1
  have hx : Fr No w1 (w1.alloc (.cells #[.slice a ds.length cap] 25)) := (Fr.refl _ _).alloc _
  have b3 := block_alloc w1 (.cells #[.slice a ds.length cap] 25)
  have hfx := hf1.step hx (fun _ _ h => h)
  have hTr := hS.tr.no hx
  have hRc := hS.recs.no hx (fun _ => id)
  have hm1 := hS.tr.dv.lenmax
  have hm2 := hS.recs.lenmax
  have hdl := hS.len
  have hrl : out.length ≤ 10 := by have := hS.good.len; omega
  clear hf1 hl hm hS hx
  by_cases hd0 : ds.length = 0
  · obtain rfl : ds = [] := List.eq_nil_of_length_eq_zero hd0
    simp only [List.length_nil] at hfx
    go_wp2_with fail
    refine (known_walk _).mono ?_
    rintro e w5 ⟨rfl, hf5⟩
    have hfe := hfx.step hf5 (fun _ _ h => h)
    go_wp2_with fail
    go_ret
    exact ⟨rfl, hfe⟩
  have hd0' : ((ds.length : Int) == 0) = false := by have h : (ds.length : Int) ≠ 0 := by omega
                                                     simpa using h
  go_upto_region 4 with (fail)
  generalize w1.alloc (.cells #[.slice a ds.length cap] 25) = W1 at *
  go_cut [7] (fun v wx => ∃ (b9 k : Nat) (x : Dev), v = .pointer (some ⟨b9, 0, none⟩) ∧ ds[k]? = some x ∧ wx.heap[b9]? = some (.cells x.vals 32) ∧ W1.heap.size ≤ b9 ∧ Fr No W1 wx)
  case first =>
    refine region_tree (From W1.heap.size) (.q 0 (.q 1 (.q 2 (.q 3 (.q 4 (.q 5 (.m2 6 (.q 7 (.q 8 (.m1 9 (.m1 10 .fin)))) 9 (.m1 6 (.q 7 (.q 8 (.m1 10 .fin))))))))))) _ (by kernel_rfl) (by kernel_rfl) (fun w0 hf0 => ?_) (fun _ _ h => h)
    have b30 := hf0.heap b3 id
    have lt3 := lt_of_block b3
    have hs0 := hf0.size
    have g0 : ∀ g : Gr (From W1.heap.size) w0, g.W.cell? ⟨w1.heap.size, 0, none⟩ = some (.slice a ds.length cap) := fun g => g.fr.cell (cell_of_block b30 0) (by unfold From; simp; omega)
    repeat (apply tree_q; exact rfl; exact rfl; exact rfl; intro K hK; go_big_quiet_op; go_big_quiet_on)
    clear g0
    have hTd := hTr.dv
    have hpt : ∀ (X : World), Fr No W1 X → ∀ r : Nat, r < ds.length → Hid (∃ b off p, a = some ⟨b, off, none⟩ ∧ ds[r]? = some p ∧ ∀ g : Gr (From W1.heap.size) X, g.W.cell? ⟨b, off + r * 10, none⟩ = some (.int .i64 p.index) ∧ g.W.cell? ⟨b, off + r * 10 + 1, none⟩ = some (.int .i64 p.parent) ∧ g.W.cell? ⟨b, off + r * 10 + 2, none⟩ = some (.string p.name) ∧ g.W.cell? ⟨b, off + r * 10 + 3, none⟩ = some (.string p.orig) ∧ g.W.cell? ⟨b, off + r * 10 + 4, none⟩ = some (.string p.sub) ∧ g.W.cell? ⟨b, off + r * 10 + 5, none⟩ = some (.string p.drv) ∧ g.W.cell? ⟨b, off + r * 10 + 6, none⟩ = some (.string p.ali) ∧ g.W.cell? ⟨b, off + r * 10 + 7, none⟩ = some (.int .i64 p.kind) ∧ g.W.cell? ⟨b, off + r * 10 + 8, none⟩ = some (.int .i64 p.num) ∧ g.W.cell? ⟨b, off + r * 10 + 9, none⟩ = some (.slice p.aa p.an p.ac)) := by
      intro X hX r hr
      obtain ⟨b, off, p, hax, hp, c0, c1, c2, c3, c4, c5, c6, c7, c8, c9⟩ := (hTd.no hX (fun _ => id)).dev hr
      have hbl := (hTd.cell _ hax (by intro e; rw [e] at hr; simp at hr)).2.1
      have nb : ¬ From W1.heap.size b := by unfold From; simp only at hbl; omega
      exact ⟨b, off, p, hax, hp, fun g => ⟨g.fr.cell c0 nb, g.fr.cell c1 nb, g.fr.cell c2 nb, g.fr.cell c3 nb, g.fr.cell c4 nb, g.fr.cell c5 nb, g.fr.cell c6 nb, g.fr.cell c7 nb, g.fr.cell c8 nb, g.fr.cell c9 nb⟩⟩
    refine tree_m2 rfl rfl ?_ ?_
    · go_wp2_with fail
      refine (fold_any at_ ds.length _ (by omega) (by omega) hat).mono ?_
      rintro e w5 ⟨r, rfl, hr1, hr2, rfl⟩
      obtain ⟨r, rfl⟩ := Int.eq_ofNat_of_zero_le hr1
      have hlt : r < ds.length := by omega
      have hlt' : (r : Int) < ds.length := by omega
      go_wp2_with fail
      refine OnlyN.mk ⟨Fr.refl _ _, ?_⟩
      obtain ⟨b, off, p, hax, hp, hg⟩ := (hpt w0 hf0 r hlt).out
      subst hax
      have e0 := fun g => (hg g).1
      have e1 := fun g => (hg g).2.1
      have e2 := fun g => (hg g).2.2.1
      have e3 := fun g => (hg g).2.2.2.1
      have e4 := fun g => (hg g).2.2.2.2.1
      have e5 := fun g => (hg g).2.2.2.2.2.1
      have e6 := fun g => (hg g).2.2.2.2.2.2.1
      have e7 := fun g => (hg g).2.2.2.2.2.2.2.1
      have e8 := fun g => (hg g).2.2.2.2.2.2.2.2.1
      have e9 := fun g => (hg g).2.2.2.2.2.2.2.2.2
      have Hp := Lib.hid hp
      clear hp hg hpt
      repeat (apply tree_q; exact rfl; exact rfl; exact rfl; intro K hK; go_big_quiet_op; go_big_quiet_on)
      clear e0 e1 e2 e3 e4 e5 e6 e7 e8 e9
      refine tree_m1 rfl ?_
      go_wp2_with fail
      refine OnlyN.mk ⟨(Fr.refl _ _).alloc _, ?_⟩
      refine tree_m1 rfl ?_
      go_wp2_with fail
      refine OnlyN.mk ⟨Fr.swap _ _ _ (by unfold From; omega), ?_⟩
      refine tree_end ?_
      go_wp2_with fail
      go_meet
      exact ⟨w0.heap.size, r, p, rfl, Hp.out, block_alloc _ _, by omega, hf0.step ((Fr.refl _ _).alloc _) (fun _ _ h => h)⟩
    · go_wp2_with fail
      refine OnlyN.mk ⟨(Fr.refl _ _).alloc _, ?_⟩
      generalize hX : w0.alloc (.cells #[.int .i64 0, .int .i64 0, .string ⟨#[]⟩, .string ⟨#[]⟩, .string ⟨#[]⟩, .string ⟨#[]⟩, .string ⟨#[]⟩, .int .i64 0, .int .i64 0, .slice none 0 0] 32) = X
      have hXb : X.heap[w0.heap.size]? = some (.cells #[.int .i64 0, .int .i64 0, .string ⟨#[]⟩, .string ⟨#[]⟩, .string ⟨#[]⟩, .string ⟨#[]⟩, .string ⟨#[]⟩, .int .i64 0, .int .i64 0, .slice none 0 0] 32) := by rw [← hX]; exact block_alloc _ _
      have hXf : Fr No w0 X := by rw [← hX]; exact (Fr.refl _ _).alloc _
      clear hX
      refine tree_m1 rfl ?_
      go_wp2_with fail
      refine (fold_any at_ ds.length _ (by omega) (by omega) hat).mono ?_
      rintro e w5 ⟨r, rfl, hr1, hr2, rfl⟩
      obtain ⟨r, rfl⟩ := Int.eq_ofNat_of_zero_le hr1
      have hlt : r < ds.length := by omega
      have hlt' : (r : Int) < ds.length := by omega
      go_wp2_with fail
      refine OnlyN.mk ⟨Fr.refl _ _, ?_⟩
      obtain ⟨b, off, p, hax, hp, hg⟩ := (hpt X (hf0.step hXf (fun _ _ h => h)) r hlt).out
      subst hax
      have e0 := fun g => (hg g).1
      have e1 := fun g => (hg g).2.1
      have e2 := fun g => (hg g).2.2.1
      have e3 := fun g => (hg g).2.2.2.1
      have e4 := fun g => (hg g).2.2.2.2.1
      have e5 := fun g => (hg g).2.2.2.2.2.1
      have e6 := fun g => (hg g).2.2.2.2.2.2.1
      have e7 := fun g => (hg g).2.2.2.2.2.2.2.1
      have e8 := fun g => (hg g).2.2.2.2.2.2.2.2.1
      have e9 := fun g => (hg g).2.2.2.2.2.2.2.2.2
      have Hp := Lib.hid hp
      clear hp hg hpt
      repeat (apply tree_q; exact rfl; exact rfl; exact rfl; intro K hK; go_big_quiet_op; go_big_quiet_on)
      clear e0 e1 e2 e3 e4 e5 e6 e7 e8 e9
      refine tree_m1 rfl ?_
      have z0 : X.cell? ⟨w0.heap.size, 0, none⟩ = some (.int .i64 0) := cell_of_block hXb 0
      have z1 : X.cell? ⟨w0.heap.size, 1, none⟩ = some (.int .i64 0) := cell_of_block hXb 1
      have z2 : X.cell? ⟨w0.heap.size, 2, none⟩ = some (.string ⟨#[]⟩) := cell_of_block hXb 2
      have z3 : X.cell? ⟨w0.heap.size, 3, none⟩ = some (.string ⟨#[]⟩) := cell_of_block hXb 3
      have z4 : X.cell? ⟨w0.heap.size, 4, none⟩ = some (.string ⟨#[]⟩) := cell_of_block hXb 4
      have z5 : X.cell? ⟨w0.heap.size, 5, none⟩ = some (.string ⟨#[]⟩) := cell_of_block hXb 5
      have z6 : X.cell? ⟨w0.heap.size, 6, none⟩ = some (.string ⟨#[]⟩) := cell_of_block hXb 6
      have z7 : X.cell? ⟨w0.heap.size, 7, none⟩ = some (.int .i64 0) := cell_of_block hXb 7
      have z8 : X.cell? ⟨w0.heap.size, 8, none⟩ = some (.int .i64 0) := cell_of_block hXb 8
      have z9 : X.cell? ⟨w0.heap.size, 9, none⟩ = some (.slice none 0 0) := cell_of_block hXb 9
      have y0 : X.frozen? ⟨w0.heap.size, 0, none⟩ = false := free_of_block hXb 0
      have y1 : X.frozen? ⟨w0.heap.size, 1, none⟩ = false := free_of_block hXb 1
      have y2 : X.frozen? ⟨w0.heap.size, 2, none⟩ = false := free_of_block hXb 2
      have y3 : X.frozen? ⟨w0.heap.size, 3, none⟩ = false := free_of_block hXb 3
      have y4 : X.frozen? ⟨w0.heap.size, 4, none⟩ = false := free_of_block hXb 4
      have y5 : X.frozen? ⟨w0.heap.size, 5, none⟩ = false := free_of_block hXb 5
      have y6 : X.frozen? ⟨w0.heap.size, 6, none⟩ = false := free_of_block hXb 6
      have y7 : X.frozen? ⟨w0.heap.size, 7, none⟩ = false := free_of_block hXb 7
      have y8 : X.frozen? ⟨w0.heap.size, 8, none⟩ = false := free_of_block hXb 8
      have y9 : X.frozen? ⟨w0.heap.size, 9, none⟩ = false := free_of_block hXb 9
      go_wp2_with fail
      have h10 := set10 hXb rfl p
      refine OnlyN.mk ⟨h10.2.mono (fun _ _ h => by unfold Is at h; unfold From; omega), ?_⟩
      refine tree_end ?_
      go_wp2_with fail
      go_meet
      exact ⟨w0.heap.size, r, p, rfl, Hp.out, h10.1, by omega, (hf0.step hXf (fun _ _ h => h)).step h10.2 (fun b hb e => by unfold Is at e; omega)⟩
  case rest =>
    obtain ⟨b9, k, x, rfl, hxk, q9, hb9, hf2⟩ := hcut
    obtain ⟨W2, rfl⟩ : ∃ W2, W2 = wc := ⟨_, rfl⟩
    have hxm := List.mem_of_getElem? hxk
    have hxw := hT.iwf hxm
    have hlk := hT.lk hxm
    have hTr2 := hTr.no hf2
    have hRc2 := hRc.no hf2 (fun _ => id)
    have b32 := hf2.heap b3 id
    have hfx2 := hfx.step hf2 (fun _ _ h => h)
    have lt9 := lt_of_block q9
    have lt32 := lt_of_block b32
    have hcl : (chain ds x.index).tail.length ≤ 1000 := by have := chain_len ds x.index; simp; omega
    have HU : Hid (∀ y ∈ chain ds x.index, y.index ∈ ((chain ds x.index).tail ++ [x]).map Dev.index) := by
      unfold Hid
      intro y hy
      rw [hT.chain_cons hlk] at hy ⊢
      rcases List.mem_cons.1 hy with h | h
      · subst h; simp
      · exact List.mem_map_of_mem (List.mem_append_left _ h)
    have Hxk := Lib.hid hxk
    have Hlk := Lib.hid hlk
    clear hxk hlk hTr hRc b3 hfx hf2 hxm
    obtain ⟨C, hC⟩ : ∃ C, C = (chain ds x.index).tail := ⟨_, rfl⟩
    rw [← hC] at HU hcl
    have HC := Lib.hid hC
    clear hC
    go_upto_region 5 with (fail)
    go_cut [8] (fun v wx => ∃ (a' : Option Addr) (c' : Nat), v = .slice a' (C.length + 1) c' ∧ IdxAt wx a' c' ((C ++ [x]).map Dev.index) ∧ Fr No W2 wx)
    case first =>
      refine region_tree (From W2.heap.size) (.q 0 (.q 1 (.q 2 (.q 4 (.m2 3 (.m1 5 (.m1 6 (.q 7 .fin))) 5 (.m1 3 (.m1 6 (.q 7 .fin)))))))) _ (by kernel_rfl) (by kernel_rfl) (fun w0 hf0 => ?_) (fun _ _ h => h)
      have q90 := hf0.heap q9 id
      have b30 := hf0.heap b32 id
      have hs0 := hf0.size
      have n9 : ¬ From W2.heap.size b9 := by unfold From; omega
      have g3 : ∀ g : Gr (From W2.heap.size) w0, g.W.cell? ⟨w1.heap.size, 0, none⟩ = some (.slice a ds.length cap) := fun g => g.fr.cell (cell_of_block b30 0) (by unfold From; simp; omega)
      have e0 : ∀ g : Gr (From W2.heap.size) w0, g.W.cell? ⟨b9, 0, none⟩ = some (.int .i64 x.index) := fun g => g.fr.cell (cell_of_block q90 0) n9
      have e1 : ∀ g : Gr (From W2.heap.size) w0, g.W.cell? ⟨b9, 1, none⟩ = some (.int .i64 x.parent) := fun g => g.fr.cell (cell_of_block q90 1) n9
      have e2 : ∀ g : Gr (From W2.heap.size) w0, g.W.cell? ⟨b9, 2, none⟩ = some (.string x.name) := fun g => g.fr.cell (cell_of_block q90 2) n9
      have e3 : ∀ g : Gr (From W2.heap.size) w0, g.W.cell? ⟨b9, 3, none⟩ = some (.string x.orig) := fun g => g.fr.cell (cell_of_block q90 3) n9
      have e4 : ∀ g : Gr (From W2.heap.size) w0, g.W.cell? ⟨b9, 4, none⟩ = some (.string x.sub) := fun g => g.fr.cell (cell_of_block q90 4) n9
      have e5 : ∀ g : Gr (From W2.heap.size) w0, g.W.cell? ⟨b9, 5, none⟩ = some (.string x.drv) := fun g => g.fr.cell (cell_of_block q90 5) n9
      have e6 : ∀ g : Gr (From W2.heap.size) w0, g.W.cell? ⟨b9, 6, none⟩ = some (.string x.ali) := fun g => g.fr.cell (cell_of_block q90 6) n9
      have e7 : ∀ g : Gr (From W2.heap.size) w0, g.W.cell? ⟨b9, 7, none⟩ = some (.int .i64 x.kind) := fun g => g.fr.cell (cell_of_block q90 7) n9
      have e8 : ∀ g : Gr (From W2.heap.size) w0, g.W.cell? ⟨b9, 8, none⟩ = some (.int .i64 x.num) := fun g => g.fr.cell (cell_of_block q90 8) n9
      have e9 : ∀ g : Gr (From W2.heap.size) w0, g.W.cell? ⟨b9, 9, none⟩ = some (.slice x.aa x.an x.ac) := fun g => g.fr.cell (cell_of_block q90 9) n9
      repeat (apply tree_q; exact rfl; exact rfl; exact rfl; intro K hK; go_big_quiet_op; go_big_quiet_on)
      clear g3 e0 e1 e2 e3 e4 e5 e6 e7 e8 e9
      have hD0 := (hTr2.no hf0).dv
      refine tree_m2 rfl rfl ?_ ?_
      · go_wp2_with fail
        refine (ref_up a cap ds x.index _ hD0 (by omega)).mono ?_
        rintro e w2 ⟨⟨a2, c2, rfl, hD2, hfr2, hS2⟩, hf2⟩
        rw [← HC.out] at hD2 hS2 ⊢
        have hsz2 := hf2.size
        go_wp2_with fail
        refine OnlyN.mk ⟨hf2.mono (fun _ _ h => h.elim), ?_⟩
        refine tree_m1 rfl ?_
        go_wp2_with fail
        refine OnlyN.mk ⟨(Fr.refl _ _).alloc _, ?_⟩
        refine tree_m1 rfl ?_
        have hA : Fr No w2 (w2.alloc (.cells x.vals 32)) := (Fr.refl _ _).alloc _
        have hD3 := hD2.no hA (fun _ => id)
        have hS3 := Spare.no hS2 hA (fun _ => id)
        have hsA := hA.size
        go_wp2_with (at_builtin; (refine wpList_append_up rfl _ _ rfl hD3 hS3 hcl W2.heap.size (fun ad e => by have := hfr2 ad e; omega) (by simp; omega) rfl ⟨w2.heap.size, 0, none⟩ 1 rfl (cells_new w2 x.vals _ rfl) ?_); intro a' c' w3 hI3 hf3)
        refine OnlyN.mk ⟨hf3, ?_⟩
        repeat (apply tree_q; exact rfl; exact rfl; exact rfl; intro K hK; go_big_quiet_op; go_big_quiet_on)
        refine tree_end ?_
        go_wp2_with fail
        go_meet
        exact ⟨a', c', rfl, hI3, ((hf0.step hf2 (fun _ _ h => h)).step hA (fun _ _ h => h)).step hf3 (fun b hb h => by unfold From at h; omega)⟩
      · go_wp2_with fail
        have hA : Fr No w0 (w0.alloc (.cells x.vals 32)) := (Fr.refl _ _).alloc _
        have hAb := block_alloc w0 (.cells x.vals 32)
        refine OnlyN.mk ⟨(Fr.refl _ _).alloc _, ?_⟩
        refine tree_m1 rfl ?_
        go_wp2_with fail
        refine (ref_up a cap ds x.index _ (hD0.no hA (fun _ => id)) (by omega)).mono ?_
        rintro e w2 ⟨⟨a2, c2, rfl, hD2, hfr2, hS2⟩, hf2⟩
        rw [← HC.out] at hD2 hS2 ⊢
        have hsz2 := hf2.size
        rw [World.size_alloc] at hsz2 hfr2
        have hAb2 := hf2.heap hAb id
        go_wp2_with fail
        refine OnlyN.mk ⟨hf2.mono (fun _ _ h => h.elim), ?_⟩
        refine tree_m1 rfl ?_
        go_wp2_with (at_builtin; (refine wpList_append_up rfl _ _ rfl hD2 hS2 hcl W2.heap.size (fun ad e => by have := hfr2 ad e; omega) (by omega) rfl ⟨w0.heap.size, 0, none⟩ 1 rfl (cells_at hAb2) ?_); intro a' c' w3 hI3 hf3)
        refine OnlyN.mk ⟨hf3, ?_⟩
        repeat (apply tree_q; exact rfl; exact rfl; exact rfl; intro K hK; go_big_quiet_op; go_big_quiet_on)
        refine tree_end ?_
        go_wp2_with fail
        go_meet
        exact ⟨a', c', rfl, hI3, ((hf0.step hA (fun _ _ h => h)).step hf2 (fun _ _ h => h)).step hf3 (fun b hb h => by unfold From at h; omega)⟩
    case rest =>
      obtain ⟨a', c', rfl, hI, hf3⟩ := hcut
      obtain ⟨W3, rfl⟩ : ∃ W3, W3 = wc := ⟨_, rfl⟩
      obtain ⟨U, hU⟩ : ∃ U, U = (C ++ [x]).map Dev.index := ⟨_, rfl⟩
      have hul : C.length + 1 = U.length := by rw [hU]; simp
      have hul2 : U.length ≤ 1001 := by omega
      rw [← hU] at hI HU
      rw [hul]
      have hTr3 := hTr2.no hf3
      have hRc3 := hRc2.no hf3 (fun _ => id)
      have b33 := hf3.heap b32 id
      have q93 := hf3.heap q9 id
      have Hfx3 := Lib.hid (hfx2.step hf3 (fun _ _ h => h))
      have lt33 := lt_of_block b33
      have lt93 := lt_of_block q93
      clear hU hul hTr2 hRc2 b32 q9 hf3 hfx2 hcl
      go_wp2_with fail
      go_loopw [9, 10] (fun v i wr => ∃ (k : Nat) (av : Option Addr) (cv : Nat), k ≤ out.length ∧ v = .slice av (someR U (out.take k)).length cv ∧ i = .int .i64 (k : Int) ∧ wr.ownsRow W3.heap.size 42 12 (.slice av (someR U (out.take k)).length cv) (someR U (out.take k)).length (rflat (someR U (out.take k))) ∧ Fr (From W3.heap.size) W3 wr) (fun _ i _ => out.length - (intOf i).toNat)
      case atStart => exact ⟨0, none, 0, by omega, rfl, rfl, World.ownsRow_nil _ _ _ _, Fr.refl _ _⟩
      case round =>
        obtain ⟨k, av, cv, hk, rfl, rfl, hown, hfr⟩ := hrel
        obtain ⟨W4, rfl⟩ : ∃ W4, W4 = wr := ⟨_, rfl⟩
        by_cases hlt : k < out.length
        · have hlt' : (k : Int) < out.length := by omega
          obtain ⟨r, hrk⟩ : ∃ r, out[k]? = some r := ⟨out[k], List.getElem?_eq_getElem hlt⟩
          have Hrk := Lib.hid hrk
          have Htk : Hid (someR U (out.take (k + 1)) = someR U (out.take k) ++ List.replicate (cntI U r.index) r) := by
            unfold Hid
            rw [List.take_add_one, hrk]
            exact dupR_snoc _ _ r
          have hsl : (someR U (out.take k)).length ≤ 10010 := by
            have h1 := someR_len U (out.take k)
            have h2 : (out.take k).length * U.length ≤ 10 * 1001 := Nat.mul_le_mul (by rw [List.length_take]; omega) hul2
            omega
          clear hrk
          generalize someR U (out.take k) = L at *
          go_wp2_with fail
          go_loopw [9, 11] (fun v i wr => ∃ (j : Nat) (av : Option Addr) (cv : Nat), j ≤ U.length ∧ v = .slice av (L ++ List.replicate (cntI (U.take j) r.index) r).length cv ∧ i = .int .i64 (j : Int) ∧ wr.ownsRow W3.heap.size 42 12 (.slice av (L ++ List.replicate (cntI (U.take j) r.index) r).length cv) (L ++ List.replicate (cntI (U.take j) r.index) r).length (rflat (L ++ List.replicate (cntI (U.take j) r.index) r)) ∧ Fr (From W3.heap.size) W3 wr) (fun _ i _ => U.length - (intOf i).toNat)
          case atStart => exact ⟨0, av, cv, by omega, by simp [cntI], rfl, by simpa [cntI] using hown, hfr⟩
          case round =>
            clear hown hfr
            obtain ⟨j, av, cv, hj, rfl, rfl, hown, hfr⟩ := hrel
            by_cases hlj : j < U.length
            · have hlj' : (j : Int) < U.length := by omega
              obtain ⟨u, huk⟩ : ∃ u, U[j]? = some u := ⟨U[j], List.getElem?_eq_getElem hlj⟩
              have Hcn : Hid (cntI (U.take (j + 1)) r.index = cntI (U.take j) r.index + if r.index = u then 1 else 0) := by
                unfold Hid
                rw [List.take_add_one, huk]
                exact cntI_snoc _ u _
              have hcl : cntI (U.take j) r.index ≤ 1001 := by
                have := cntI_le (U.take j) r.index
                rw [List.length_take] at this; omega
              have hLl : (L ++ List.replicate (cntI (U.take j) r.index) r).length ≤ 20000 := by simp; omega
              generalize cntI (U.take j) r.index = cj at *
              go_wp2_with fail
              refine region_sig No [(0, false), (1, false), (2, false), (3, false), (4, false), (5, false), (6, false), (7, false), (8, false), (9, false), (10, false)] (by kernel_rfl) (by kernel_rfl) (fun w0 hf0 => ?_)
              have hfr0 := hfr.step hf0 (fun _ _ h => h.elim)
              have hown0 := ownsRow_fr hown hf0 (fun _ _ => id)
              have hnl : ∀ b, b < W3.heap.size → ¬ From W3.heap.size b := fun b h1 h2 => by unfold From at h2; omega
              obtain ⟨rb, ro, r', hra, hrk', hok, x0, x1, x2, x3, x4, x5, x6, x7, x8, x9, x10, x11⟩ := (hRc3.keep hfr0 hnl).elem hlt
              subst hra
              obtain rfl : r = r' := by have := Hrk.out; rw [this] at hrk'; exact Option.some.inj hrk'
              obtain ⟨ub, uo, hua, _, huc⟩ := (hI.keep hfr0 hnl).cell
              subst hua
              have z0 := huc j u huk
              have g0 : ∀ g : Gr No w0, g.W.cell? ⟨rb, ro + k * 12 + 1, none⟩ = some (.int .i64 r.index) := fun g => g.fr.cell x1 id
              have g1 : ∀ g : Gr No w0, g.W.cell? ⟨ub, uo + j * 10, none⟩ = some (.int .i64 u) := fun g => g.fr.cell z0 id
              have hs0 := hfr0.size
              have Hhr := Lib.hid (And.intro hfr0 hown0)
              clear hrk' huc huk hfr hown hf0 hnl hok hfr0 z0
              rcases hix : (r.index == u) with _ | _
              · have Hcn2 : Hid (cntI (U.take (j + 1)) r.index = cj) := by unfold Hid; rw [Hcn.out, if_neg (by simpa using hix)]; rfl
                clear hown0 x0 x1 x2 x3 x4 x5 x6 x7 x8 x9 x10 x11
                repeat (apply sig_q; exact rfl; exact rfl; exact rfl; intro K hK; go_big_quiet_op; go_big_quiet_on)
                refine sig_end ?_
                clear g0 g1
                go_wp2_with fail
                go_roundw
                case rel => exact ⟨j + 1, av, cv, by omega, by rw [Hcn2.out], by go_num, by rw [Hcn2.out]; exact Hhr.out.2, Hhr.out.1⟩
                case measure => simp [intOf]; omega
              · have Hcn2 : Hid (cntI (U.take (j + 1)) r.index = cj + 1) := by unfold Hid; rw [Hcn.out, if_pos (by simpa using hix)]
                have HLs : Hid (L ++ List.replicate (cj + 1) r = (L ++ List.replicate cj r) ++ [r]) := by unfold Hid; rw [List.replicate_succ', List.append_assoc]
                generalize L ++ List.replicate cj r = LL at *
                obtain ⟨i0, hi0, hz0, hz1, hz2⟩ := info_parts infoR
                repeat (apply sig_q; exact rfl; exact rfl; exact rfl; intro K hK; go_big_quiet_op; go_big_quiet_on)
                refine sig_end ?_
                clear g0 g1
                go_wp2_with (at_builtin; refine wpList_append_own _ rfl _ _ 26 rfl W3.heap.size 42 i0 (.agg #[.string ByteArray.empty, .int .i64 0, .slice none 0 0, .slice none 0 0, .slice none 0 0, .slice none 0 0, .slice none 0 0, .string ByteArray.empty, .int .i64 0, .string ByteArray.empty, .string ByteArray.empty, .int .i64 0]) 12 208 Tryz.underlying26 hi0 hz0 hz1 hz2 rfl (by decide) _ _ _ rfl (hown0.alloc _) ⟨w0.heap.size, 0, none⟩ 1 1 r.vals.toList rfl rfl (cells_new _ r.vals _ rfl) (rvals_one r) (by unfold maxLen; omega) (by omega) (by simp; omega) ?_; intro v' w6 hown7 hgrow6 _; obtain ⟨av', cv', rfl⟩ := ownsRow_slice hown7)
                have hg6 : Fr (From W3.heap.size) w0 w6 := grown_fr hown0 hgrow6
                have HF := Lib.hid (And.intro (Hhr.out.1.step hg6 (fun _ _ h => h)) hown7)
                clear hg6 hown7 hgrow6 hown0
                go_roundw
                case rel => exact ⟨j + 1, av', cv', by omega, by rw [Hcn2.out, HLs.out, List.length_append]; rfl, by go_num, by rw [Hcn2.out, HLs.out, List.length_append, rflat_snoc]; exact HF.out.2, HF.out.1⟩
                case measure => simp [intOf]; omega
            · obtain rfl : j = U.length := by omega
              rw [List.take_length, ← Htk.out] at hown
              rw [List.take_length, ← Htk.out]
              have H := Lib.hid (And.intro hown hfr)
              clear hown hfr
              go_wp2_with fail
              go_roundw
              case rel => exact ⟨k + 1, av, cv, by omega, rfl, by go_num, H.out.1, H.out.2⟩
              case measure => simp [intOf]; omega
        · obtain rfl : k = out.length := by omega
          rw [List.take_length] at hown
          rw [List.take_length]
          have hnl : ∀ b, b < W3.heap.size → ¬ From W3.heap.size b := fun b h1 h2 => by unfold From at h2; omega
          have hRc4 := hRc3.keep hfr hnl
          have hTr4 := hTr3.keep hfr (fun b h1 _ => hnl b h1)
          obtain ⟨sa, sc, hv, hR, _⟩ := Recs.of_own hown (fun r hr => hRc4.ok r (someR_mem hr))
          cases hv
          have b34 := hfr.heap b33 (hnl _ lt33)
          have q94 := hfr.heap q93 (hnl _ lt93)
          have Hf4 := Lib.hid (Hfx3.out.step hfr (fun b hb h => by have := Hfx3.out.size; unfold From at h; omega))
          have Hso : Hid (seatOf ds (someR U out) x.index = seatOf ds out x.index) := seatOf_some ds out U _ HU.out
          clear hfr hown hRc3 hTr3 b33 q93
          go_wp2_with fail
          refine region_sig No [(0, false), (1, false), (2, false), (3, false), (5, false), (6, false), (7, false), (8, false), (4, true), (9, true), (10, false), (11, false), (12, true), (13, false), (14, false)] (by kernel_rfl) (by kernel_rfl) (fun w0 hf0 => ?_)
          have g3 : ∀ g : Gr No w0, g.W.cell? ⟨w1.heap.size, 0, none⟩ = some (.slice a ds.length cap) := fun g => g.fr.cell (cell_of_block (hf0.heap b34 id) 0) id
          have g9 : ∀ g : Gr No w0, g.W.cell? ⟨b9, 0, none⟩ = some (.int .i64 x.index) := fun g => g.fr.cell (cell_of_block (hf0.heap q94 id) 0) id
          have hTr5 := hTr4.no hf0
          have hRc5 := hRc4.no hf0 (fun _ => id)
          have hR5 := hR.no hf0 (fun _ => id)
          have Hf5 := Lib.hid (Hf4.out.step hf0 (fun _ _ h => h))
          clear hTr4 hRc4 hR hf0 b34 q94
          generalize someR U out = SR at *
          repeat (apply sig_q; exact rfl; exact rfl; exact rfl; intro K hK; go_big_quiet_op; go_big_quiet_on)
          clear g3 g9
          apply sig_m
          exact rfl
          go_wp2_with fail
          refine (seat_of a av cap cv base ds SR x.index _ hTr5 (by omega) hxw hR5).mono ?_
          rintro e w5 ⟨rfl, hf5⟩
          rw [Hso.out]
          have hTr6 := hTr5.no hf5
          have hRc6 := hRc5.no hf5 (fun _ => id)
          have Hf6 := Lib.hid (Hf5.out.step hf5 (fun _ _ h => h))
          clear hTr5 hRc5 hR5
          go_wp2_with fail
          refine OnlyN.mk ⟨hf5, ?_⟩
          clear hf5
          apply sig_m
          exact rfl
          go_wp2_with fail
          refine (seat_of a ra cap rc base ds out x.index _ hTr6 (by omega) hxw hRc6).mono ?_
          rintro e w6 ⟨rfl, hf6⟩
          have Hf7 := Lib.hid (Hf6.out.step hf6 (fun _ _ h => h))
          clear hTr6 hRc6
          generalize seatOf ds out x.index = so at *
          have hb : (so.toList == so.toList) = true := by simp
          go_wp2_with fail
          refine OnlyN.mk ⟨hf6, ?_⟩
          clear hf6
          repeat (apply sig_q; exact rfl; exact rfl; exact rfl; intro K hK; go_big_quiet_op; go_big_quiet_on)
          apply sig_m
          exact rfl
          go_wp2_with fail
          refine (known_walk _).mono ?_
          rintro e w7 ⟨rfl, hf7⟩
          have Hf8 := Lib.hid (Hf7.out.step hf7 (fun _ _ h => h))
          go_wp2_with fail
          refine OnlyN.mk ⟨hf7, ?_⟩
          clear hf7
          repeat (apply sig_q; exact rfl; exact rfl; exact rfl; intro K hK; go_big_quiet_op; go_big_quiet_on)
          refine sig_end ?_
          go_wp2_with fail
          go_ret
          exact ⟨rfl, Hf8.out⟩
end Go.Proofs.YtpnpjaemlflplaaGreatDoor
