/- QueueEnds: the walk. -/
import Derived.Test.YtanaompgapiikaaGreatDoorPR
namespace Go.Proofs.YtanaompgapiikaaGreatDoor
open Go.RowKit Go.Maps
set_option linter.unusedVariables false

set_option maxRecDepth 100000 in
set_option maxHeartbeats 1000000 in
theorem ends_walk (la : Option Addr) (lc : Nat) (l : List Int) (m : Int) (w : World) (hl : Ints w la lc l) (hm : w.cell? ⟨0, 0, none⟩ = some (.int .i64 m)) (hE : ErrV w) (h6 : 3 < w.heap.size) :
    Calls Tryz.prog 3 #[.slice la l.length lc] w fun e w' => e = .returned (.bool true) ∧ Fr No w w' := by
  have hx : Fr No w (w.alloc (.cells #[.slice la l.length lc, .int .i64 0] 29)) := (Fr.refl _ _).alloc _
  have ht := Tape.make hl 29
  have hsx : (w.alloc (.cells #[.slice la l.length lc, .int .i64 0] 29)).heap.size = w.heap.size + 1 := by simp
  go_enter Tryz.func3, Tryz.ntmps3
  go_wp2_with fail
  generalize w.alloc (.cells #[.slice la l.length lc, .int .i64 0] 29) = Wx at *
  refine (made_tree w.heap.size w.heap.size 0 10 m _ ht (by omega) (by omega) (by omega) (hx.cell hm id)).mono ?_
  rintro e w1 ⟨a, cap, ds, k1, hk1, hdl, rfl, hTr, ht1, hf1⟩
  have hT := hTr.wf.1
  have hs1 := hf1.size
  have hfw : Fr No w w1 := ((hx.mono (T := No) (fun _ _ h => h)).step hf1 (fun b hb e => by unfold Is at e; omega))
  have hy : Fr No w1 (w1.alloc (.cells #[.slice a ds.length cap] 25)) := (Fr.refl _ _).alloc _
  have b3 := block_alloc w1 (.cells #[.slice a ds.length cap] 25)
  have hTr1 := hTr.no hy
  have Hfy := Lib.hid (hfw.step hy (fun _ _ h => h))
  have hm1 := hTr.dv.lenmax
  clear hx ht hf1 ht1 hTr hfw
  go_wp2_with fail
  generalize w1.alloc (.cells #[.slice a ds.length cap] 25) = W1 at *
  refine (q_new _).mono ?_
  rintro e w2 ⟨qb, b1, b2, rfl, hqb, hb1, hb2, hQ, hf2⟩
  have hTr2 := hTr1.no hf2
  have hal0 : ∀ ad, a = some ad → ds ≠ [] → ad.block < W1.heap.size := fun ad e hne => (hTr1.dv.cell ad e hne).2.1
  have b32 := hf2.heap b3 id
  have lt3 := lt_of_block b3
  have Hf2 := Lib.hid (Hfy.out.step hf2 (fun _ _ h => h))
  have hs2 := hf2.size
  have hQl1 := hQ.dirty.lt
  have hQl2 := hQ.busy.lt
  have hQlb : qb < w2.heap.size := by obtain ⟨T, hb⟩ := hQ.blk; exact lt_of_block hb
  have hq12 := hQ.ne
  have hqn1 := hQ.ne1
  have hqn2 := hQ.ne2
  have HTr1 := Lib.hid hTr1
  have Hff2 := Lib.hid hf2
  clear hy hTr1 b3 hf2
  go_wp2_with fail
  go_loopw [5] (fun i wr => ∃ k : Nat, k ≤ ds.length ∧ i = .int .i64 (k : Int) ∧ Que wr qb b1 b2 (fun y => decide (y ∈ (ds.map Dev.index).take k)) (fun _ => false) k ∧ Fr (Is b1) w2 wr) (fun i _ => ds.length - (intOf i).toNat)
  case atStart => exact ⟨0, by omega, rfl, hQ.eqf (by funext y; simp) rfl, Fr.refl _ _⟩
  case round =>
    obtain ⟨k, hk, rfl, hQr, hfr⟩ := hrel
    have c3 : wr.cell? ⟨w1.heap.size, 0, none⟩ = some (.slice a ds.length cap) := cell_of_block (hfr.heap b32 (fun e => by unfold Is at e; omega)) 0
    have hal := hal0
    by_cases hlt : k < ds.length
    · have hlt' : (k : Int) < ds.length := by omega
      have hDr : Devs wr a cap ds := hTr2.dv.fr hfr (fun ad e hne h => by have := hal ad e hne; unfold Is at h; omega)
      obtain ⟨bb, off, x, hax, hxk, y0, y1, y2, y3, y4, y5, y6, y7, y8, y9⟩ := hDr.dev hlt
      subst hax
      have hix := hT.ix x (List.mem_of_getElem? hxk)
      have Htk := Lib.hid (upd_take (l := ds.map Dev.index) (k := k) (x := x.index) (by rw [List.getElem?_map, hxk]; rfl))
      clear hxk
      go_wp2_with fail
      refine (q_mark qb b1 b2 _ _ k x.index _ hQr (by unfold maxLen; omega) hix.1 hix.2).mono ?_
      rintro e w3 ⟨rfl, hQ3, hf3⟩
      have H := Lib.hid (And.intro (hQ3.eqf Htk.out rfl) (hfr.step hf3 (fun _ _ h => h)))
      clear hQ3 hf3 y0 y1 y2 y3 y4 y5 y6 y7 y8 y9 hQr hfr
      go_wp2_with fail
      go_roundw
      case rel => exact ⟨k + 1, by omega, by go_num, H.out.1, H.out.2⟩
      case measure => simp [intOf]; omega
    · obtain rfl : k = ds.length := by omega
      obtain ⟨W3, rfl⟩ : ∃ W3, W3 = wr := ⟨_, rfl⟩
      have hs3 := hfr.size
      have hQ0 : Que W3 qb b1 b2 (dirtyF (ds.map Dev.index) [] []) (fun _ => false) ds.length := hQr.eqf (by funext y; unfold dirtyF; rw [List.take_of_length_le (by simp)]; simp) rfl
      have hf13 : Fr (From W1.heap.size) W1 W3 := (Hff2.out.mono (T := From W1.heap.size) (fun _ _ h => h.elim)).step hfr (fun b hb e => by unfold Is at e; unfold From; omega)
      have hsy := Hfy.out.size
      have Hf3 : Hid (Fr No w W3) := Hf2.out.step hfr (fun b hb e => by unfold Is at e; omega)
      have H13 := Lib.hid hf13
      have b33 := hfr.heap b32 (fun e => by unfold Is at e; omega)
      obtain ⟨D, hD⟩ : ∃ D, D = ds.map Dev.index := ⟨_, rfl⟩
      have hDl : D.length = ds.length := by rw [hD]; simp
      have HD := Lib.hid hD
      rw [← hD] at hQ0
      clear hQr hfr hf13 b32 hTr2 hQ hD
      go_wp2_with fail
      go_loopw [6, 7] (fun v i wr => ∃ (k : Nat) (L : List Int) (RL : List Rec) (av : Option Addr) (cv : Nat), k ≤ L.length ∧ L.Nodup ∧ Hid (∀ x ∈ L, x ∈ D) ∧ Hid (RL = L.map (mkR ds)) ∧ v = .slice av RL.length cv ∧ i = .int .i64 (k : Int) ∧ Que wr qb b1 b2 (dirtyF D L []) (fun _ => false) (ds.length + L.length) ∧ wr.ownsRow W3.heap.size 46 12 (.slice av RL.length cv) RL.length (rflat RL) ∧ Fr (fun b => b = b1 ∨ b = b2 ∨ W3.heap.size ≤ b) W3 wr) (fun _ i _ => ds.length + 1 - (intOf i).toNat)
      case atStart => exact ⟨0, [], [], none, 0, by simp, by simp, by unfold Hid; simp, rfl, rfl, rfl, hQ0, World.ownsRow_nil _ _ _ _, Fr.refl _ _⟩
      case round =>
        obtain ⟨k, L, RL, av, cv, hk, hLn, HLD, HRL, rfl, rfl, hQr, hown, hfr⟩ := hrel
        have hRLl : RL.length ≤ L.length := by rw [HRL.out]; simp
        obtain ⟨W4, rfl⟩ : ∃ W4, W4 = wr := ⟨_, rfl⟩
        have hLl : L.length ≤ ds.length := by rw [← hDl]; exact nodup_sub_len hLn HLD.out
        have hkl : (k : Int) ≤ ds.length := by omega
        have nS : ∀ b, b < W3.heap.size → b ≠ b1 → b ≠ b2 → ¬ (b = b1 ∨ b = b2 ∨ W3.heap.size ≤ b) := fun b h1 h2 h3 h => by omega
        have b34 := hfr.heap b33 (nS _ (by omega) (by omega) (by omega))
        have c34 : W4.cell? ⟨w1.heap.size, 0, none⟩ = some (.slice a ds.length cap) := cell_of_block b34 0
        have hf14 : Fr (From W1.heap.size) W1 W4 := H13.out.step hfr (fun b hb h => by unfold From; omega)
        have hTr4 := HTr1.out.keep hf14 (fun b h1 _ h => by unfold From at h; omega)
        have hfw4 : Fr No w W4 := Hf3.out.step hfr (fun b hb h => by omega)
        obtain ⟨rav, rcv, hv, hRc, _⟩ := Recs.of_own hown (fun r hr => by rw [HRL.out] at hr; obtain ⟨x, _, rfl⟩ := List.mem_map.1 hr; exact mkR_ok ds x _)
        cases hv
        have hs4 := hfr.size
        have Hfw4 := Lib.hid hfw4
        go_wp2_with fail
        refine (q_free qb b1 b2 _ _ (ds.length + L.length) a av cap cv _ ds RL _ hQr (by omega) hTr4 (by omega) hRc (by omega) (fun r hr => by
          rw [HRL.out] at hr
          obtain ⟨x, hx, rfl⟩ := List.mem_map.1 hr
          have h1 := HLD.out x hx
          rw [HD.out] at h1
          obtain ⟨d, hd, e⟩ := List.mem_map.1 h1
          show (Lit.int .i64 x).wf = true
          rw [← e]; exact hT.iwf hd) (hE.no hfw4) (by have := hfw4.size; omega) (fun M hM hMm => by
          have h1 : M.Nodup := hM.imp (fun {a b} h e => by subst e; exact Int.lt_irrefl _ h)
          have h2 := nodup_sub_len h1 (D := D) (fun x hx => by
            have h3 := (hMm x).1 hx
            unfold dirtyF at h3
            simp only [Bool.and_eq_true, decide_eq_true_eq] at h3
            exact h3.1.1)
          omega) (fun M _ hMm => by
          have : M = [] := List.eq_nil_iff_forall_not_mem.2 (fun x hx => by have := (hMm x).1 hx; cases this)
          rw [this]; simp)).mono ?_
        rintro e w5 ⟨⟨dl, bl, fa, fc, hda, hdm, hba, hbm, rfl, hI, hIf⟩, hf5⟩
        obtain rfl : bl = [] := List.eq_nil_iff_forall_not_mem.2 (fun x hx => by have := (hbm x).1 hx; cases this)
        have hFn := free_nodup hT RL dl []
        have hFs := (free_sub ds RL dl []).length_le
        have HFm : Hid (∀ x ∈ freeL ds RL dl [], (x ∈ D ∧ x ∉ L) ∧ ∀ y ∈ (chain ds x).tail, recB ds RL y.index = true) := by
          intro x hx
          obtain ⟨h1, h2, h3⟩ := free_mem hx
          have h4 := (hdm x).1 h1
          unfold dirtyF at h4
          simp only [Bool.and_eq_true, decide_eq_true_eq, Bool.not_eq_true', decide_eq_false_iff_not] at h4
          exact ⟨h4.1, fun y hy => up_rec h3 hy⟩
        have HF0 : Hid (freeL ds RL dl [] = [] → ∀ x ∈ D, x ∈ L) := by
          intro hF x hx
          apply Classical.byContradiction
          intro hxL
          have hxD := hx
          rw [HD.out] at hx
          obtain ⟨d, hd, e⟩ := List.mem_map.1 hx
          refine free_some hT RL dl (fun d' hd' hn => ?_) (fun ho => ?_) hF
          · have h5 : d'.index ∈ L := by
              apply Classical.byContradiction
              intro h6
              exact hn ((hdm d'.index).2 (by unfold dirtyF; rw [HD.out]; simp [h6]; exact ⟨d', hd', rfl⟩))
            exact ⟨mkR ds d'.index, by rw [HRL.out]; exact List.mem_map_of_mem h5, rfl, rfl⟩
          · have h7 : x ∈ orderL dl ds := List.mem_filter.2 ⟨List.mem_map.2 ⟨d, hd, e⟩, decide_eq_true ((hdm x).2 (by unfold dirtyF; simp [hxD, hxL]))⟩
            rw [ho] at h7; simp at h7
        have hI5 := hI
        have hol : (orderL dl ds).length ≤ ds.length := orderL_len dl ds
        generalize freeL ds RL dl [] = F at *
        clear hda hdm hba hbm
        have hDn : D.Nodup := by rw [HD.out]; exact hT.nd
        by_cases hF0 : F.length = 0
        · obtain rfl : F = [] := List.eq_nil_of_length_eq_zero hF0
          have hDL := HF0.out rfl
          have hld : RL.length = ds.length := by
            have h1 := nodup_sub_len hDn hDL
            have h2 : RL.length = L.length := by rw [HRL.out]; simp
            omega
          have hb : ((RL.length : Int) == (ds.length : Int)) = true := by rw [hld]; simp
          have HDL := Lib.hid hDL
          have b35 := hf5.heap b34 id
          have Hf5 := Lib.hid (Hfw4.out.step hf5 (fun _ _ h => h))
          have hQ5 := hQr.fr hf5 id id id
          clear hld hDL hQr hown hTr4 hRc hI hI5 hF0
          go_wp2_with fail
          refine (q_dirty qb b1 b2 _ _ (ds.length + L.length) _ hQ5 (by omega)).mono ?_
          rintro e w6 ⟨da, dc, dl2, rfl, _, _, hm2, _, hf6⟩
          obtain rfl : dl2 = [] := List.eq_nil_iff_forall_not_mem.2 (fun x hx => by
            have h1 := (hm2 x).1 hx
            unfold dirtyF at h1
            simp only [Bool.and_eq_true, decide_eq_true_eq, Bool.not_eq_true', decide_eq_false_iff_not] at h1
            exact h1.1.2 (HDL.out x h1.1.1))
          have c36 : w6.cell? ⟨w1.heap.size, 0, none⟩ = some (.slice a ds.length cap) := cell_of_block (hf6.heap b35 id) 0
          have Hf6 := Lib.hid (Hf5.out.step hf6 (fun _ _ h => h))
          clear hm2 hf6 hQ5
          go_wp2_with fail
          refine (known_true _).mono ?_
          rintro e w7 ⟨rfl, hf7⟩
          have Hf7 := Lib.hid (Hf6.out.step hf7 (fun _ _ h => h))
          clear hf7 c36
          go_wp2_with fail
          go_ret
          exact ⟨rfl, Hf7.out⟩
        · have hF0' : ((F.length : Int) == 0) = false := by
            have h : (F.length : Int) ≠ 0 := by omega
            simpa using h
          have HIf := Lib.hid hIf
          have hs5 := hf5.size
          have b35 := hf5.heap b34 id
          have hTr5 := hTr4.no hf5
          have hQ5 := hQr.fr hf5 id id id
          have hown5 := ownsRow_at hown hf5 (fun b hb h => h)
          have Hown := Lib.hid (And.intro hown hown5)
          have HHfr := Lib.hid (hfr.step hf5 (fun _ _ h => h.elim))
          have hlF := hI.lenmax
          have hFl : F.length ≤ ds.length := by omega
          have HFn := Lib.hid hFn
          have hB1 : b1 < W4.heap.size := by omega
          have hB2 : b2 < W4.heap.size := by omega
          have HFs := Lib.hid hFs
          have HI := Lib.hid hI
          have HTr5 := Lib.hid hTr5
          have Hf5 := Lib.hid hf5
          have Hfw5 := Lib.hid (Hfw4.out.step hf5 (fun _ _ h => h))
          have HhQ := Lib.hid (hQ5.eqf (f' := dirtyF D L (F.take 0)) (g' := fun y => decide (y ∈ F.take 0)) (by simp) (by simp))
          clear hQr hown hTr4 hTr5 hRc hI hI5 hfr hf5 hown5 hQ5 hFn hFs hIf HF0
          go_wp2_with fail
          go_loopw [9] (fun i wr => ∃ j : Nat, j ≤ F.length ∧ i = .int .i64 (j : Int) ∧ Hid (Que wr qb b1 b2 (dirtyF D L (F.take j)) (fun y => decide (y ∈ F.take j)) (ds.length + L.length + j)) ∧ Fr (Two b1 b2) w5 wr) (fun i _ => F.length - (intOf i).toNat)
          case atStart => exact ⟨0, by omega, rfl, HhQ, Fr.refl _ _⟩
          case round =>
            obtain ⟨j, hj, rfl, HQr, hfr⟩ := hrel
            have hIr := HI.out.fr hfr (fun ad e hne h => by have := HIf.out ad e; unfold Two at h; omega)
            by_cases hlt : j < F.length
            · have hlt' : (j : Int) < F.length := by omega
              obtain ⟨fb, fo, x, hax, hxj, y0⟩ := hIr.at hlt
              subst hax
              have hxw := hIr.wf x (List.mem_of_getElem? hxj)
              have Hxj := Lib.hid hxj
              clear hxj
              go_wp2_with fail
              refine (q_take qb b1 b2 _ _ _ x _ HQr.out (by unfold maxLen; omega) hxw (by
                have h1 := HFm.out x (List.mem_of_getElem? Hxj.out)
                have h2 := not_take HFn.out Hxj.out
                unfold dirtyF
                simp [h1.1.1, h1.1.2, h2]) (by simp [not_take HFn.out Hxj.out])).mono ?_
              rintro e w6 ⟨rfl, hQ6, hf6⟩
              have H := Lib.hid (And.intro (hQ6.eqf (dirty_take Hxj.out) (busy_take Hxj.out)) (hfr.step hf6 (fun _ _ h => h)))
              clear hQ6 hf6 y0 hfr hIr
              go_wp2_with fail
              go_roundw
              case rel => exact ⟨j + 1, by omega, by go_num, H.out.1, H.out.2⟩
              case measure => simp [intOf]; omega
            · obtain rfl : j = F.length := by omega
              obtain ⟨W6, rfl⟩ : ∃ W6, W6 = wr := ⟨_, rfl⟩
              rw [List.take_length] at HQr
              have HhQ6 : Hid (Que W6 qb b1 b2 (dirtyF D L F) (fun y => decide (y ∈ F.drop 0)) (ds.length + L.length + F.length)) := HQr.out
              have hs6 := hfr.size
              have Hf56 := Lib.hid hfr
              have HTwo := Lib.hid (fun b (h1 : W3.heap.size ≤ b) => show ¬ Two b1 b2 b from fun h => by unfold Two at h; omega)
              have HHf6 : Hid (Fr (fun b => b = b1 ∨ b = b2 ∨ W3.heap.size ≤ b) W3 W6) := HHfr.out.step hfr (fun b hb h => by unfold Two at h; omega)
              have Hown6 := Lib.hid (ownsRow_at Hown.out.2 hfr (fun b hb h => by have h1 := ownsRow_blk Hown.out.2 hb; unfold From at h1; unfold Two at h; omega))
              have Hnf : Hid (∀ b, (Value.slice av RL.length cv).ownBlock = some b → ∀ ad, fa = some ad → b ≠ ad.block) := fun b hb ad e h => by have h1 := ownsRow_lt Hown.out.1 hb; have h2 := HIf.out ad e; omega
              have HI6 := Lib.hid hIr
              have Hf16 : Hid (Fr (From W1.heap.size) W1 W6) := (hf14.step Hf5.out (fun _ _ h => h.elim)).step hfr (fun b hb h => by unfold Two at h; unfold From; omega)
              have HT16 : Hid (Tr W6 (Wx.heap.size + 2) a cap ds) := HTr1.out.keep Hf16.out (fun b h1 _ h => by unfold From at h; omega)
              have b36 := hfr.heap b35 (fun h => by unfold Two at h; omega)
              have hb3l := lt_of_block b33
              have Hfw6 : Hid (Fr No w W6) := Hfw5.out.step hfr (fun b hb h => by unfold Two at h; omega)
              clear hfr HQr b35 hIr hf14
              go_wp2_with fail
              go_loopw [6, 10] (fun v i wr => ∃ (j : Nat) (RL2 : List Rec) (av2 : Option Addr) (cv2 : Nat), j ≤ F.length ∧ Hid (RL2 = (L ++ F.take j).map (mkR ds)) ∧ v = .slice av2 RL2.length cv2 ∧ i = .int .i64 (j : Int) ∧ Hid (Que wr qb b1 b2 (dirtyF D L F) (fun y => decide (y ∈ F.drop j)) (ds.length + L.length + F.length)) ∧ Hid (wr.ownsRow W3.heap.size 46 12 (.slice av2 RL2.length cv2) RL2.length (rflat RL2)) ∧ Hid (∀ b, (Value.slice av2 RL2.length cv2).ownBlock = some b → ∀ ad, fa = some ad → b ≠ ad.block) ∧ Fr (fun b => b = b2 ∨ (W3.heap.size ≤ b ∧ ∀ ad, fa = some ad → b ≠ ad.block)) W6 wr) (fun _ i _ => F.length - (intOf i).toNat)
              case atStart => exact ⟨0, RL, av, cv, by omega, by unfold Hid; rw [HRL.out]; simp, rfl, rfl, HhQ6, Hown6, Hnf, Fr.refl _ _⟩
              case round =>
                obtain ⟨j, RL2, av2, cv2, hj, HRL2, rfl, rfl, HQr, Hownr, Hnfr, hfr⟩ := hrel
                obtain ⟨W7, rfl⟩ : ∃ W7, W7 = wr := ⟨_, rfl⟩
                have hIr := HI6.out.fr hfr (fun ad e hne h => by have := HIf.out ad e; rcases h with h | ⟨_, h⟩; · omega
                                                                 · exact h ad e rfl)
                by_cases hlt : j < F.length
                · have hlt' : (j : Int) < F.length := by omega
                  obtain ⟨fb, fo, x, hax, hxj, y0⟩ := hIr.at hlt
                  subst hax
                  have hfb6 := (HI6.out.cell _ rfl (by intro e; rw [e] at hlt; simp at hlt)).2.1
                  have hfb4 := HIf.out _ rfl
                  simp only at hfb6 hfb4
                  have hxw := hIr.wf x (List.mem_of_getElem? hxj)
                  have Hxj := Lib.hid hxj
                  have hxF := List.mem_of_getElem? hxj
                  have hdx : dirtyF D L F x = false := by unfold dirtyF; simp [hxF]
                  have hgx : (fun y => decide (y ∈ F.drop j)) x = true := by
                    have h1 : F[j] = x := by have h := Hxj.out; rw [List.getElem?_eq_getElem hlt] at h; exact Option.some.inj h
                    simp only [decide_eq_true_eq]
                    rw [List.drop_eq_getElem_cons hlt, h1]; exact List.mem_cons_self
                  have HxC := Lib.hid (HFm.out x hxF)
                  have b37 := hfr.heap b36 (fun h => by omega)
                  have hs7 := hfr.size
                  have hIr7 := hIr
                  clear hxj hxF
                  go_wp2_with fail
                  refine (q_done qb b1 b2 _ _ _ x _ HQr.out hxw hgx).mono ?_
                  rintro e w7 ⟨rfl, hQ7, hf7⟩
                  rw [hdx]
                  have HQ7 := Lib.hid (hQ7.eqf rfl (busy_done HFn.out Hxj.out))
                  have hfr7 := hfr.step hf7 (fun b hb h => .inl h)
                  have HIF7 := Lib.hid (hIr.fr hf7 (fun ad e hne h => by cases e; unfold Is at h; simp only at h; omega))
                  have Hown7 := Lib.hid (ownsRow_at Hownr.out hf7 (fun b hb h => by have h1 := ownsRow_blk Hownr.out hb; unfold From at h1; unfold Is at h; omega))
                  have b38 := hf7.heap b37 (fun h => by unfold Is at h; omega)
                  have y1 := hf7.cell y0 (fun h => by unfold Is at h; simp only at h; omega)
                  have Hf7 := Lib.hid hfr7
                  clear hQ7 hfr hf7 hIr hIr7 y0 b37 hgx hdx
                  go_wp2_with fail
                  refine region_sig No [(0, false), (1, false), (2, false), (3, false), (4, false), (5, true), (6, false)] (by kernel_rfl) (by kernel_rfl) (fun w0 hf0 => ?_)
                  have g3 : ∀ g : Gr No w0, g.W.cell? ⟨w1.heap.size, 0, none⟩ = some (.slice a ds.length cap) := fun g => g.fr.cell (cell_of_block (hf0.heap b38 id) 0) id
                  have g0 : ∀ g : Gr No w0, g.W.cell? ⟨fb, fo + j, none⟩ = some (.int .i64 x) := fun g => g.fr.cell (hf0.cell y1 id) id
                  have hfr0 := Hf7.out.step hf0 (fun b hb h => h.elim)
                  have hs0 := hfr0.size
                  have hT0 := HTr1.out.keep (Hf16.out.step hfr0 (fun b hb h => by have h2 := H13.out.size; unfold From; rcases h with h | ⟨h, _⟩ <;> omega)) (fun b h1 _ h => by unfold From at h; omega)
                  have b30 := hf0.heap b38 id
                  have y2 := hf0.cell y1 id
                  have HIF0 := Lib.hid (HIF7.out.no hf0 (fun _ => id))
                  have HQ0 := Lib.hid (HQ7.out.fr hf0 id id id)
                  have Hown0 := Lib.hid (ownsRow_at Hown7.out hf0 (fun _ _ h => h))
                  have Hf0 := Lib.hid hfr0
                  clear hfr0 hf0 b38 y1
                  repeat (apply sig_q; exact rfl; exact rfl; exact rfl; intro K hK; go_big_quiet_op; go_big_quiet_on)
                  clear g3 g0
                  apply sig_m
                  exact rfl
                  go_wp2_with fail
                  refine (ref_ancestors a cap ds x _ hT0.dv (by omega)).mono ?_
                  rintro e w8 ⟨⟨ca, cc, rfl, hC, hCf⟩, hf8⟩
                  have hCl : (chain ds x).tail.length ≤ 1000 := by have := chain_len ds x; simp; omega
                  have hT8 := hT0.no hf8
                  have b38 := b30
                  have b38 := hf8.heap b30 id
                  have y3 := hf8.cell y2 id
                  have HIF8 := Lib.hid (HIF0.out.no hf8 (fun _ => id))
                  have HQ8 := Lib.hid (HQ0.out.fr hf8 id id id)
                  have Hown8 := Lib.hid (ownsRow_at Hown0.out hf8 (fun _ _ h => h))
                  have Hf8 := Lib.hid (Hf0.out.step hf8 (fun b hb h => h.elim))
                  have Hff8 := Lib.hid hf8
                  generalize (chain ds x).tail = C at *
                  clear hT0 b30 y2
                  go_wp2_with fail
                  refine OnlyN.mk ⟨hf8, ?_⟩
                  clear hf8
                  repeat (apply sig_q; exact rfl; exact rfl; exact rfl; intro K hK; go_big_quiet_op; go_big_quiet_on)
                  refine sig_end ?_
                  go_wp2_with fail
                  go_loopw [11, 14] (fun v i wr => ∃ m : Nat, m ≤ C.length ∧ v = .bool true ∧ i = .int .i64 (m : Int) ∧ Fr No w8 wr) (fun _ i _ => C.length - (intOf i).toNat)
                  case atStart => exact ⟨0, by omega, rfl, rfl, Fr.refl _ _⟩
                  case round =>
                    obtain ⟨q, hq, rfl, rfl, hfr⟩ := hrel
                    by_cases hlt2 : q < C.length
                    · have hlt2' : (q : Int) < C.length := by omega
                      go_wp2_with fail
                      refine region_sig No [(0, false), (1, false), (2, false), (3, false), (4, false), (5, false), (6, false), (7, false), (8, false), (9, true), (10, false), (11, false)] (by kernel_rfl) (by kernel_rfl) (fun w9 hf9 => ?_)
                      have hfr9 := hfr.step hf9 (fun _ _ h => h)
                      obtain ⟨bb, off, y, hay, hyk, y4, _, _, _, _, _, _, _, _, _⟩ := (hC.no hfr9 (fun _ => id)).dev hlt2
                      subst hay
                      have g3 : ∀ g : Gr No w9, g.W.cell? ⟨w1.heap.size, 0, none⟩ = some (.slice a ds.length cap) := fun g => g.fr.cell (cell_of_block (hfr9.heap b38 id) 0) id
                      have g0 : ∀ g : Gr No w9, g.W.cell? ⟨bb, off + q * 10, none⟩ = some (.int .i64 y.index) := fun g => g.fr.cell y4 id
                      have hyr : recB ds RL2 y.index = true := by
                        have h1 := HxC.out.2 y (List.mem_of_getElem? hyk)
                        rw [HRL.out] at h1
                        rw [HRL2.out]
                        exact recB_mk h1
                      have Hyr := Lib.hid hyr
                      have hT9 := hT8.no hfr9
                      obtain ⟨_, _, hv9, hRc9, _⟩ := Recs.of_own (ownsRow_at Hown8.out hfr9 (fun _ _ h => h)) (fun r hr => by rw [HRL2.out] at hr; obtain ⟨z, _, rfl⟩ := List.mem_map.1 hr; exact mkR_ok ds z _)
                      cases hv9
                      have Hfr9 := Lib.hid hfr9
                      clear hfr hfr9 hf9 hyk y4 hyr
                      repeat (first | (apply sig_q; exact rfl; exact rfl; exact rfl; intro K hK; go_big_quiet_op; go_big_quiet_on) | (apply sig_skip; exact rfl; exact rfl; exact rfl; intro K hK; go_big_quiet_op; go_big_quiet_on))
                      clear g3 g0
                      apply sig_m
                      exact rfl
                      go_wp2_with fail
                      refine (ref_recorded a _ cap _ ds RL2 y.index _ hT9.dv hT (by omega) hRc9).mono ?_
                      rintro e wa ⟨rfl, hfa⟩
                      rw [Hyr.out]
                      have Hfa := Lib.hid (Hfr9.out.step hfa (fun _ _ h => h))
                      clear hT9 hRc9
                      go_wp2_with fail
                      refine OnlyN.mk ⟨hfa, ?_⟩
                      clear hfa
                      repeat (first | (apply sig_q; exact rfl; exact rfl; exact rfl; intro K hK; go_big_quiet_op; go_big_quiet_on) | (apply sig_skip; exact rfl; exact rfl; exact rfl; intro K hK; go_big_quiet_op; go_big_quiet_on))
                      refine sig_end ?_
                      go_wp2_with fail
                      go_roundw
                      case rel => exact ⟨q + 1, by omega, rfl, by go_num, Hfa.out⟩
                      case measure => simp [intOf]; omega
                    · obtain rfl : q = C.length := by omega
                      have hRl : RL2.length ≤ L.length + F.length := by rw [HRL2.out]; simp; omega
                      go_wp2_with fail
                      refine region_sig (fun b => (Value.slice av2 RL2.length cv2).ownBlock = some b) [(0, false), (1, false), (2, false), (3, false), (4, false), (5, false), (7, false), (8, false), (9, false), (10, false), (6, true), (11, false), (12, true), (13, true), (14, false)] (by kernel_rfl) (by kernel_rfl) (fun w9 hf9 => ?_)
                      have hfr9 := hfr.step hf9 (fun _ _ h => h)
                      have hown9 := ownsRow_at Hown8.out hfr9 (fun _ _ h => h)
                      have nO : ∀ b, b < W3.heap.size → ¬ (Value.slice av2 RL2.length cv2).ownBlock = some b := fun b hb h => by have h1 := ownsRow_blk hown9 h; unfold From at h1; omega
                      have nF : ¬ (Value.slice av2 RL2.length cv2).ownBlock = some fb := fun h => Hnfr.out _ h _ rfl rfl
                      have g3 : ∀ g : Gr (fun b => (Value.slice av2 RL2.length cv2).ownBlock = some b) w9, g.W.cell? ⟨w1.heap.size, 0, none⟩ = some (.slice a ds.length cap) := fun g => g.fr.cell (cell_of_block (hfr9.heap b38 id) 0) (nO _ (by omega))
                      have g0 : ∀ g : Gr (fun b => (Value.slice av2 RL2.length cv2).ownBlock = some b) w9, g.W.cell? ⟨fb, fo + j, none⟩ = some (.int .i64 x) := fun g => g.fr.cell (hfr9.cell y3 id) nF
                      have hT9 := hT8.no hfr9
                      have Hfr9 := Lib.hid hfr9
                      have Hown9 := Lib.hid hown9
                      have HnO := Lib.hid nO
                      clear hfr hfr9 hf9 hown9 nO nF
                      repeat (apply sig_q; exact rfl; exact rfl; exact rfl; intro K hK; go_big_quiet_op; go_big_quiet_on)
                      clear g3 g0
                      apply sig_m
                      exact rfl
                      go_wp2_with fail
                      refine (ref_place a cap ds x _ hT9.dv hT (by omega)).mono ?_
                      rintro e wa ⟨rfl, hfa⟩
                      have hown10 := ownsRow_at Hown9.out hfa (fun _ _ h => h)
                      have Hfa := Lib.hid (Hfr9.out.step hfa (fun _ _ h => h))
                      clear hT9
                      obtain ⟨pp, hpp⟩ : ∃ pp, pp = pathOf (origin ds x) := ⟨_, rfl⟩
                      rw [← hpp]
                      have Hpp := Lib.hid hpp
                      clear hpp
                      go_wp2_with fail
                      refine OnlyN.mk ⟨hfa.mono (fun _ _ h => h.elim), ?_⟩
                      clear hfa
                      repeat (apply sig_q; exact rfl; exact rfl; exact rfl; intro K hK; go_big_quiet_op; go_big_quiet_on)
                      apply sig_m
                      exact rfl
                      go_wp2_with fail
                      refine OnlyN.mk ⟨(Fr.refl _ _).alloc _, ?_⟩
                      apply sig_m
                      exact rfl
                      obtain ⟨i0, hi0, hz0, hz1, hz2⟩ := info_parts infoR
                      have hsa := Hfa.out.size
                      have hs8 := Hf8.out.size
                      go_wp2_with (at_builtin; refine wpList_append_own_at _ rfl _ _ 37 rfl W3.heap.size 46 i0 (.agg #[.string ByteArray.empty, .int .i64 0, .slice none 0 0, .slice none 0 0, .slice none 0 0, .slice none 0 0, .slice none 0 0, .string ByteArray.empty, .int .i64 0, .string ByteArray.empty, .string ByteArray.empty, .int .i64 0]) 12 208 Tryz.underlying37 hi0 hz0 hz1 hz2 rfl (by decide) _ _ _ rfl (hown10.alloc _) ⟨wa.heap.size, 0, none⟩ 1 1 [.string pp, .int .i64 x, .slice none 0 0, .slice none 0 0, .slice none 0 0, .slice none 0 0, .slice none 0 0, .string ⟨#[]⟩, .int .i64 0, .string ⟨#[]⟩, .string ⟨#[]⟩, .int .i64 0] rfl rfl (cells_new _ _ _ rfl) (by rw [Hpp.out]; exact rvals_one (mkR ds x)) (by unfold maxLen; omega) (by omega) (by simp; omega) ?_; intro v' wb hownb hgrow _ hat; obtain ⟨avb, cvb, rfl⟩ := ownsRow_slice hownb)
                      have hal : Fr No wa (wa.alloc (.cells #[.string pp, .int .i64 x, .slice none 0 0, .slice none 0 0, .slice none 0 0, .slice none 0 0, .slice none 0 0, .string ⟨#[]⟩, .int .i64 0, .string ⟨#[]⟩, .string ⟨#[]⟩, .int .i64 0] 46)) := (Fr.refl _ _).alloc _
                      have hgf : Fr (fun b => (Value.slice av2 RL2.length cv2).ownBlock = some b) (wa.alloc (.cells #[.string pp, .int .i64 x, .slice none 0 0, .slice none 0 0, .slice none 0 0, .slice none 0 0, .slice none 0 0, .string ⟨#[]⟩, .int .i64 0, .string ⟨#[]⟩, .string ⟨#[]⟩, .int .i64 0] 46)) wb := Fr.of_grown hgrow
                      refine OnlyN.mk ⟨hgf, ?_⟩
                      repeat (apply sig_q; exact rfl; exact rfl; exact rfl; intro K hK; go_big_quiet_op; go_big_quiet_on)
                      refine sig_end ?_
                      have hb3 := lt_of_block b33
                      have HQb := Lib.hid (((HQ8.out.fr Hfa.out id id id).fr hal id id id).fr hgf (HnO.out _ (by omega)) (HnO.out _ (by omega)) (HnO.out _ (by omega)))
                      have Hfb := Lib.hid (((Hf8.out.step Hfa.out (fun _ _ h => h.elim)).step hal (fun _ _ h => h.elim)).step hgf (fun b hb h => .inr ⟨ownsRow_blk Hown8.out h, fun ad e => Hnfr.out b h ad e⟩))
                      have Hnfb : Hid (∀ b, (Value.slice avb (RL2.length + 1) cvb).ownBlock = some b → ∀ ad, some (⟨fb, fo, none⟩ : Addr) = some ad → b ≠ ad.block) := by
                        intro b hb ad e
                        rcases hat with h | h
                        · rw [h] at hb; exact Hnfr.out b hb ad e
                        · rw [h] at hb
                          cases hb
                          cases e
                          simp only [World.size_alloc]
                          omega
                      obtain ⟨RL3, hRL3⟩ : ∃ RL3, RL3 = RL2 ++ [mkR ds x] := ⟨_, rfl⟩
                      have HL3 : Hid (RL3.length = RL2.length + 1) := by unfold Hid; rw [hRL3]; simp
                      have Hownb : Hid (wb.ownsRow W3.heap.size 46 12 (.slice avb (RL2.length + 1) cvb) (RL2.length + 1) (rflat RL3)) := by
                        unfold Hid
                        rw [hRL3, rflat_snoc]
                        rw [Hpp.out] at hownb
                        exact hownb
                      have HRL3 : Hid (RL3 = (L ++ F.take (j + 1)).map (mkR ds)) := by
                        unfold Hid
                        rw [hRL3, HRL2.out, List.take_add_one, Hxj.out]
                        simp
                      clear hRL3 hownb hgrow hat hal hgf hown10
                      go_wp2_with fail
                      go_roundw
                      case rel => exact ⟨j + 1, RL3, avb, cvb, by omega, HRL3, by rw [HL3.out], by go_num, HQb, by unfold Hid; rw [HL3.out]; exact Hownb.out, by unfold Hid; rw [HL3.out]; exact Hnfb.out, Hfb.out⟩
                      case measure => simp [intOf]; omega
                · obtain rfl : j = F.length := by omega
                  have HQe := Lib.hid (HQr.out.eqf (dirty_next D L F) (g' := fun _ => false) (by funext y; simp))
                  have hle : (L ++ F).length = L.length + F.length := by simp
                  have HLn : Hid ((L ++ F).Nodup) := List.nodup_append.2 ⟨hLn, HFn.out, fun x hx y hy e => (HFm.out y hy).1.2 (by rw [← e]; exact hx)⟩
                  have HLD' : Hid (∀ x ∈ L ++ F, x ∈ D) := by
                    intro x hx
                    rcases List.mem_append.1 hx with h | h
                    · exact HLD.out x h
                    · exact (HFm.out x h).1.1
                  have HRLe : Hid (RL2 = (L ++ F).map (mkR ds)) := by have h := HRL2.out; rw [List.take_length] at h; exact h
                  have Hfe : Hid (Fr (fun b => b = b1 ∨ b = b2 ∨ W3.heap.size ≤ b) W3 W7) := HHf6.out.step hfr (fun b hb h => by omega)
                  have HQe2 : Hid (Que W7 qb b1 b2 (dirtyF D (L ++ F) []) (fun _ => false) (ds.length + (L ++ F).length)) := by unfold Hid; rw [hle, ← Nat.add_assoc]; exact HQe.out
                  have hkF : k + 1 ≤ (L ++ F).length := by omega
                  have hLe : (L ++ F).length ≤ ds.length := by rw [← hDl]; exact nodup_sub_len HLn.out HLD'.out
                  generalize hLF : L ++ F = LF at *
                  clear hfr HQr HQe hle
                  go_wp2_with fail
                  go_roundw
                  case rel => exact ⟨k + 1, LF, RL2, av2, cv2, hkF, HLn.out, HLD', HRLe, rfl, by go_num, HQe2.out, Hownr.out, Hfe.out⟩
                  case measure => simp [intOf]; omega
end Go.Proofs.YtanaompgapiikaaGreatDoor
