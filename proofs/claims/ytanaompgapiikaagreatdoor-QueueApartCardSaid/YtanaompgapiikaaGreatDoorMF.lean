/- QueueFrees: the walk. -/
import Derived.Test.YtanaompgapiikaaGreatDoorMB
import Derived.Test.YtanaompgapiikaaGreatDoorG1
import Derived.Test.YtanaompgapiikaaGreatDoorQ7
namespace Go.Proofs.YtanaompgapiikaaGreatDoor
open Go.RowKit Go.Maps Go.Sort Go.Shelf
set_option linter.unusedVariables false

theorem asc_mem {l l' : List Int} {f : Int → Bool} (h1 : Asc l) (h2 : Asc l') (m1 : ∀ x, x ∈ l ↔ f x = true) (m2 : ∀ x, x ∈ l' ↔ f x = true) : l = l' := Asc.ext h1 h2 (fun x => by rw [m1, m2])
/-- The start of a law's state, behind a tape that was read. -/
theorem St.begin {w W0 w1 : World} {qb b1 b2 tb k : Nat} (hfr : Fr (From w.heap.size) w W0) (ht : Tape W0 w.heap.size tb k) {T : TypeId}
    (hq : Que w1 qb b1 b2 (fun _ => false) (fun _ => false) 0) (e0 : W0.heap.size ≤ qb) (e1 : W0.heap.size ≤ b1) (e2 : W0.heap.size ≤ b2) (hf : Fr No W0 w1) :
    St w (w1.alloc (.cells #[.slice none 0 0, .slice none 0 0] T)) tb k qb b1 b2 w1.heap.size none 0 [] none 0 [] (fun _ => false) (fun _ => false) 0 := by
  have hx : Fr No w1 (w1.alloc (.cells #[.slice none 0 0, .slice none 0 0] T)) := (Fr.refl _ _).alloc _
  have hql : qb < w1.heap.size := by obtain ⟨T, hb⟩ := hq.blk; exact lt_of_block hb
  have hs0 := hfr.size
  have hs1 := hf.size
  have htl := ht.lt
  refine ⟨⟨(ht.fr hf (fun _ _ => id) id).fr hx (fun _ _ => id) id, hq.fr hx id id id, ⟨Ints.nil _, Ints.nil _, List.Pairwise.nil, List.Pairwise.nil, by simp, by simp⟩, ?_, ?_, by omega, by omega, by omega, by omega, by omega⟩,
    ⟨T, block_alloc _ _⟩, ?_, ?_, by omega, by omega, by omega, by omega, ?_, by simp, by simp⟩
  · intro ad e; cases e
  · intro ad e; cases e
  · intro ad e; cases e
  · intro ad e; cases e
  · exact (hfr.step hf (fun _ _ e => e.elim)).alloc _
/-- What the law's loop writes: the tape, the queue's sets, the reference's queue. -/
def Four (tb b1 b2 bt : Nat) : Nat → Prop := fun b => b = tb ∨ b = b1 ∨ b = b2 ∨ b = bt
theorem Recs.keep {S : Nat → Prop} {w w' : World} {a : Option Addr} {cap : Nat} {l : List Rec} (h : Recs w a cap l) (hR : Rok l) (hf : Fr S w w') (hS : ∀ ad, a = some ad → ad.block < w.heap.size → ¬ S ad.block) : Recs w' a cap l :=
  ⟨h.len, h.max, h.isNil, hR.ok w', fun ad e hne => by
    obtain ⟨h1, h2, h3⟩ := h.cell ad e hne
    exact ⟨h1, Nat.lt_of_lt_of_le h2 hf.size, fun i r hi j hj => hf.cell (h3 i r hi j hj) (hS ad e h2)⟩⟩
theorem RQ.same {w : World} {a1 : Option Addr} {c1 : Nat} {l1 : List Int} {a2 : Option Addr} {c2 : Nat} {l2 : List Int} {f g : Int → Bool} (h : RQ w a1 c1 l1 a2 c2 l2 f g) {dl bl : List Int} (h1 : Asc dl) (m1 : ∀ x, x ∈ dl ↔ f x = true) (h2 : Asc bl) (m2 : ∀ x, x ∈ bl ↔ g x = true) : dl = l1 ∧ bl = l2 :=
  ⟨asc_mem h1 h.ad m1 h.md, asc_mem h2 h.ab m2 h.mb⟩

set_option maxRecDepth 100000 in
set_option maxHeartbeats 4000000 in
theorem frees_walk (la : Option Addr) (lc : Nat) (l : List Int) (m : Int) (w : World) (hl : Ints w la lc l) (hm : w.cell? ⟨0, 0, none⟩ = some (.int .i64 m)) (hE : ErrV w) (h6 : 3 < w.heap.size) :
    Calls Tryz.prog 4 #[.slice la l.length lc] w fun e w' => e = .returned (.bool true) ∧ Fr No w w' := by
  have hx : Fr No w (w.alloc (.cells #[.slice la l.length lc, .int .i64 0] 29)) := (Fr.refl _ _).alloc _
  have ht := Tape.new hl 29
  have hmx := hx.cell hm id
  go_enter Tryz.func4, Tryz.ntmps4
  go_upto_region 2 with (fail)
  have hxs : (w.alloc (.cells #[.slice la l.length lc, .int .i64 0] 29)).heap.size = w.heap.size + 1 := by simp
  generalize w.alloc (.cells #[.slice la l.length lc, .int .i64 0] 29) = W0 at *
  have Hxs := Lib.hid hxs
  clear hxs
  go_wp2_with fail
  refine (made_tree w.heap.size w.heap.size 0 10 m _ ht (by omega) (by omega) (by omega) hmx).mono ?_
  rintro e w1 ⟨ta, tc, ds, k1, hk1, hdl, rfl, hT, ht1, hf1⟩
  have hfr1 : Fr (From w.heap.size) w w1 := (hx.mono (T := From w.heap.size) (fun _ _ h => h.elim)).step hf1 (fun b hb e => by unfold Is at e; unfold From; omega)
  have hs1 : w.heap.size + 1 ≤ w1.heap.size := by have := hf1.size; rw [Hxs.out] at this; exact this
  rw [Hxs.out] at hT
  go_upto_region 3 with (fail)
  have hy : Fr No w1 (w1.alloc (.cells #[.slice ta ds.length tc] 25)) := (Fr.refl _ _).alloc _
  have hbt := block_alloc w1 (.cells #[.slice ta ds.length tc] 25)
  have hys : (w1.alloc (.cells #[.slice ta ds.length tc] 25)).heap.size = w1.heap.size + 1 := by simp
  generalize w1.alloc (.cells #[.slice ta ds.length tc] 25) = W1 at *
  have Hys := Lib.hid hys
  clear hys hx ht hmx hf1
  have ht2 := ht1.fr hy (fun _ _ => id) id
  have hfr2 := hfr1.step hy (fun _ _ h => h.elim)
  have hT2 := hT.no hy
  have c4 : W1.cell? ⟨w1.heap.size, 0, none⟩ = some (.slice ta ds.length tc) := cell_of_block hbt 0
  have hDl : ds.length ≤ 10 := hdl
  go_wp2_with fail
  refine (law_records w.heap.size w.heap.size k1 ta tc ds _ ht2 (by omega) hT2.dv hT2.wf.ok (by omega) (fun ad e hne => by have := hT2.fresh ad e; omega)).mono ?_
  rintro e wR ⟨⟨ra, rc, R, k2, rfl, hR, hRl, hRok, hk2, htR, hRf⟩, hfR⟩
  have hs2R := hfR.size
  have hfrR : Fr (From w.heap.size) w wR := hfr2.step hfR (fun b hb e => by unfold Is at e; unfold From; omega)
  have hbtR := hfR.heap hbt (fun e => by unfold Is at e; omega)
  have HRok := Lib.hid hRok
  have hw1R : Fr (Is w.heap.size) w1 wR := (hy.mono (T := Is w.heap.size) (fun _ _ h => h.elim)).step hfR (fun _ _ h => h)
  clear hbt ht2 hfr2 hT2 c4 hy ht1 hfR hRok
  go_wp2_with fail
  refine (q_new _).mono ?_
  rintro e w2 ⟨qb, b1, b2, rfl, h0, h1, h2, hq2, hf2⟩
  have hst := St.begin (T := 52) hfrR htR hq2 h0 h1 h2 hf2
  have hbt2 := hf2.heap hbtR id
  have hz : Fr No w2 (w2.alloc (.cells #[.slice none 0 0, .slice none 0 0] 52)) := (Fr.refl _ _).alloc _
  have hzs : (w2.alloc (.cells #[.slice none 0 0, .slice none 0 0] 52)).heap.size = w2.heap.size + 1 := by simp
  have hbt3 := hz.heap hbt2 id
  have hs2 : wR.heap.size ≤ w2.heap.size := hf2.size
  rw [Hys.out] at hRf hs2R
  have hR3 := (hR.no hf2 (fun _ => id)).no hz (fun _ => id)
  have hw13 : Fr (Is w.heap.size) w1 _ := (hw1R.step hf2 (fun _ _ h => h.elim)).step hz (fun _ _ h => h.elim)
  clear hf2 hq2 hbt2 hbtR htR hR hw1R
  go_wp2_with fail
  refine (tape_next w.heap.size w.heap.size k2 14 _ hst.both.tape (by omega) (by omega) (by omega)).mono ?_
  rintro e w3 ⟨r, rfl, hr1, hr2, ht3, hf3⟩
  have hs3 := hst.next ht3 hf3
  have hbt5 := hf3.heap hbt3 (fun e => by unfold Is at e; omega)
  have hw1w : Fr (Is w.heap.size) w1 w3 := hw13.step hf3 (fun b hb e => e)
  have hRec := hR3.keep HRok.out hf3 (fun ad e hb h => by have := hRf ad e; unfold Is at h; omega)
  have hs33 := hf3.size
  clear hst ht3 hf3 hbt3 hz hw13 hR3
  obtain ⟨r, rfl⟩ := Int.eq_ofNat_of_zero_le hr1
  go_wp2_with fail
  go_loopw [8] (fun i wr => ∃ (j : Nat) (k : Nat) (a1 : Option Addr) (c1 : Nat) (l1 : List Int) (a2 : Option Addr) (c2 : Nat) (l2 : List Int) (f g : Int → Bool) (N : Nat), i = .int .i64 (j : Int) ∧ j ≤ 14 ∧ k + 5 * j ≤ 1000 ∧ N + j ≤ 20 ∧ St w wr w.heap.size k qb b1 b2 w2.heap.size a1 c1 l1 a2 c2 l2 f g N ∧ Fr (Four w.heap.size b1 b2 w2.heap.size) w3 wr) (fun i _ => (intOf i).toNat)
  case atStart => exact ⟨r, _, _, _, _, _, _, _, _, _, 0, rfl, by omega, by omega, by omega, hs3, Fr.refl _ _⟩
  case round =>
    obtain ⟨j, k, a1, c1, l1, a2, c2, l2, f, g, N, rfl, hj, hk, hN, hS, hfl⟩ := hrel
    have n1 := hS.s1
    have n2 := hS.s2
    by_cases hpos : 0 < j
    · have x0 := hS.cb0
      have x1 := hS.cb1
      go_wp2_with fail
      refine (q_call w.heap.size w.heap.size k qb b1 b2 a1 c1 l1 a2 c2 l2 f g N 13 _ hS.both (by omega) (by omega) (by omega) (by omega) (by decide)).mono ?_
      rintro e w4 ⟨k', a1', c1', l1', a2', c2', l2', f', g', rfl, hk', m1, m2, hb3, s1, s2, hf4⟩
      have hxb : Fr No w4 (w4.alloc (.cells #[.slice a1' l1'.length c1', .slice a2' l2'.length c2'] 52)) := (Fr.refl _ _).alloc _
      have p9 := block_alloc w4 (.cells #[.slice a1' l1'.length c1', .slice a2' l2'.length c2'] 52)
      have hf5 := hf4.step hxb (fun _ _ h => h.elim)
      obtain ⟨⟨T, hbq⟩, hS3⟩ := hS.called (hb3.no hxb) s1 s2 hf5 m1 m2
      have lt9 := lt_of_block p9
      have ltq := lt_of_block (hf4.heap (hS.blk.choose_spec) (fun e => by have h1 := hS.n1; have h2 := hS.n2; have h3 := hS.nt; unfold Tri at e; omega))
      go_upto_region 11 with (fail)
      generalize w4.alloc (.cells #[.slice a1' l1'.length c1', .slice a2' l2'.length c2'] 52) = W5 at *
      have y0 : W5.cell? ⟨w2.heap.size, 0, none⟩ = some (.slice a1 l1.length c1) := cell_of_block hbq 0
      have y1 : W5.cell? ⟨w2.heap.size, 1, none⟩ = some (.slice a2 l2.length c2) := cell_of_block hbq 1
      have z0 : W5.frozen? ⟨w2.heap.size, 0, none⟩ = false := free_of_block hbq 0
      have z1 : W5.frozen? ⟨w2.heap.size, 1, none⟩ = false := free_of_block hbq 1
      have u0 : W5.cell? ⟨w4.heap.size, 0, none⟩ = some (.slice a1' l1'.length c1') := cell_of_block p9 0
      have u1 : W5.cell? ⟨w4.heap.size, 1, none⟩ = some (.slice a2' l2'.length c2') := cell_of_block p9 1
      have hst2 : Fr (Is w2.heap.size) W5 ((W5.setCell ⟨w2.heap.size, 0, none⟩ (.slice a1' l1'.length c1')).setCell ⟨w2.heap.size, 1, none⟩ (.slice a2' l2'.length c2')) := ((Fr.refl _ _).setIs _).setIs _
      have hfl' := (hfl.step hf5 (fun b hb e => by unfold Tri at e; unfold Four; omega)).step hst2 (fun b hb e => by unfold Is at e; unfold Four; omega)
      have Hl := Lib.hid hfl'
      clear x0 x1 hst2 hfl' hfl hbq hb3 hf4 hf5 hxb p9
      go_upto_region 12 with (fail)
      generalize (W5.setCell ⟨w2.heap.size, 0, none⟩ (.slice a1' l1'.length c1')).setCell ⟨w2.heap.size, 1, none⟩ (.slice a2' l2'.length c2') = W6 at *
      clear y0 y1 z0 z1 u0 u1
      have hsl := Hl.out.size
      have hRQ := hS3.both.rq
      have HRQ := Lib.hid hRQ
      have hl1 : l1'.length ≤ 100000 := by have := hS3.s1; omega
      have hl2 : l2'.length ≤ 100000 := by have := hS3.s2; omega
      have hfb : ∀ L, Asc L → (∀ x, x ∈ L ↔ f' x = true) → L.length ≤ 100000 := fun L h1 h2 => by rw [asc_mem h1 HRQ.out.ad h2 HRQ.out.md]; exact hl1
      have hgb : ∀ L, Asc L → (∀ x, x ∈ L ↔ g' x = true) → L.length ≤ 100000 := fun L h1 h2 => by rw [asc_mem h1 HRQ.out.ab h2 HRQ.out.mb]; exact hl2
      have nF : ∀ b, b < w1.heap.size → b ≠ w.heap.size → ¬ Four w.heap.size b1 b2 w2.heap.size b := fun b h1' h2' h => by unfold Four at h; omega
      have hTr : Tr W6 (w.heap.size + 1 + 2) ta tc ds := hT.keep ((hw1w.mono (T := Four w.heap.size b1 b2 w2.heap.size) (fun b _ h => .inl h)).step Hl.out (fun _ _ h => h)) (fun b hb hb2 e => nF b hb (by omega) e)
      have hbt6 := Hl.out.heap hbt5 (fun h => by unfold Four at h; omega)
      have hRc6 : Recs W6 ra rc R := hRec.keep HRok.out Hl.out (fun ad e hb h => by have h3 := hRf ad e; unfold Four at h; omega)
      have hE6 := hE.fr hS3.fr (fun h => by unfold From at h; omega) (fun h => by unfold From at h; omega)
      have hs6 := hS3.fr.size
      refine region_sig No [(0, false), (1, false), (2, false), (3, false), (4, false), (5, false), (7, false), (8, false), (9, false), (6, true), (10, true), (11, true), (12, false), (13, false), (14, false), (15, false), (16, false), (18, false), (19, false), (17, true), (20, true), (21, true), (22, false), (23, false)] (by kernel_rfl) (by kernel_rfl) (fun w0 hf0 => ?_)
      have g3 : ∀ g : Gr No w0, g.W.cell? ⟨w1.heap.size, 0, none⟩ = some (.slice ta ds.length tc) := fun g => g.fr.cell (cell_of_block (hf0.heap hbt6 id) 0) id
      have g0 : ∀ g : Gr No w0, g.W.cell? ⟨w2.heap.size, 0, none⟩ = some (.slice a1' l1'.length c1') := fun g => g.fr.cell (hf0.cell hS3.cb0 id) id
      have g1 : ∀ g : Gr No w0, g.W.cell? ⟨w2.heap.size, 1, none⟩ = some (.slice a2' l2'.length c2') := fun g => g.fr.cell (hf0.cell hS3.cb1 id) id
      repeat (first | (apply sig_q; exact rfl; exact rfl; exact rfl; intro K hK; go_big_quiet_op; go_big_quiet_on) | (apply sig_skip; exact rfl; exact rfl; exact rfl; intro K hK; go_big_quiet_op; go_big_quiet_on))
      clear g3 g0 g1
      apply sig_m
      exact rfl
      go_wp2_with fail
      refine (q_free qb b1 b2 f' g' (N + 1) ta ra tc rc _ ds R _ (hS3.both.que.fr hf0 id id id) (by omega) (hTr.no hf0) (by omega) (hRc6.no hf0 (fun _ => id)) (by omega) HRok.out.wf (hE6.no hf0) (by have := hf0.size; omega) hfb hgb).mono ?_
      rintro e w7 ⟨⟨dl, bl, fa, fc, hda, hdm, hba, hbm, rfl, hI7, -⟩, hf7⟩
      obtain ⟨rfl, rfl⟩ := HRQ.out.same hda hdm hba hbm
      go_wp2_with fail
      refine OnlyN.mk ⟨hf7, ?_⟩
      have hf07 := hf0.step hf7 (fun _ _ h => h)
      apply sig_m
      exact rfl
      go_wp2_with fail
      refine (r28_free ta a1' a2' ra tc c1' c2' rc ds dl bl R _ (hTr.no hf07).dv hTr.wf.ok (HRQ.out.fr hf07).d (HRQ.out.fr hf07).b (by omega) (hRc6.no hf07 (fun _ => id))).mono ?_
      rintro e w8 ⟨⟨ga, gc, rfl, hI8⟩, hf8⟩
      have hfe := free_same hTr.wf.ok R dl bl
      rw [hfe] at hI8 ⊢
      generalize freeL ds R dl bl = FL at *
      have hI78 := hI7.no hf8 (fun _ => id)
      go_wp2_with fail
      refine OnlyN.mk ⟨hf8, ?_⟩
      have hf08 := hf07.step hf8 (fun _ _ h => h)
      apply sig_m
      exact rfl
      go_wp2_with fail
      refine (ints_same fa ga fc gc FL FL _ hI78 hI8).mono ?_
      rintro e w9 ⟨rfl, hf9⟩
      rw [decide_eq_true (rfl : FL = FL)]
      have hf09 := hf08.step hf9 (fun _ _ h => h)
      go_wp2_with fail
      refine OnlyN.mk ⟨hf9, ?_⟩
      clear hf7 hf8 hf9 hI7 hI8 hI78 hfe hf07 hf08
      have g3 : ∀ g : Gr No w9, g.W.cell? ⟨w1.heap.size, 0, none⟩ = some (.slice ta ds.length tc) := fun g => g.fr.cell (cell_of_block (hf09.heap hbt6 id) 0) id
      have g0 : ∀ g : Gr No w9, g.W.cell? ⟨w2.heap.size, 0, none⟩ = some (.slice a1' dl.length c1') := fun g => g.fr.cell (hf09.cell hS3.cb0 id) id
      have g1 : ∀ g : Gr No w9, g.W.cell? ⟨w2.heap.size, 1, none⟩ = some (.slice a2' bl.length c2') := fun g => g.fr.cell (hf09.cell hS3.cb1 id) id
      repeat (first | (apply sig_q; exact rfl; exact rfl; exact rfl; intro K hK; go_big_quiet_op; go_big_quiet_on) | (apply sig_skip; exact rfl; exact rfl; exact rfl; intro K hK; go_big_quiet_op; go_big_quiet_on))
      clear g3 g0 g1
      apply sig_m
      exact rfl
      go_wp2_with fail
      refine (q_gone qb b1 b2 f' g' (N + 1) ta tc ds _ _ (hS3.both.que.fr hf09 id id id) (by omega) (hTr.no hf09)).mono ?_
      rintro e wa ⟨⟨xa, xc, X, rfl, hIa, hXa, hXm⟩, hfa⟩
      go_wp2_with fail
      refine OnlyN.mk ⟨hfa, ?_⟩
      have hf0a := hf09.step hfa (fun _ _ h => h)
      apply sig_m
      exact rfl
      go_wp2_with fail
      refine (r28_gone ta a1' a2' tc c1' c2' ds dl bl _ (hTr.no hf0a).dv (HRQ.out.fr hf0a).d (HRQ.out.fr hf0a).b HRQ.out.ad hl1 hl2).mono ?_
      rintro e wb ⟨⟨ya, yc, Y, rfl, hIb, hYa, hYm⟩, hfb'⟩
      obtain rfl : X = Y := Asc.ext hXa hYa (fun x => by rw [hXm, hYm, HRQ.out.md, HRQ.out.mb, Bool.or_eq_true])
      have hIab := hIa.no hfb' (fun _ => id)
      go_wp2_with fail
      refine OnlyN.mk ⟨hfb', ?_⟩
      have hf0b := hf0a.step hfb' (fun _ _ h => h)
      apply sig_m
      exact rfl
      go_wp2_with fail
      refine (ints_same xa ya xc yc X X _ hIab hIb).mono ?_
      rintro e wc ⟨rfl, hfc⟩
      rw [decide_eq_true (rfl : X = X)]
      have hf0c := hf0b.step hfc (fun _ _ h => h)
      go_wp2_with fail
      refine OnlyN.mk ⟨hfc, ?_⟩
      have H := Lib.hid (And.intro (hS3.no hf0c) (Hl.out.step hf0c (fun _ _ h => h.elim)))
      clear hfa hfb' hfc hIa hIb hIab hf09 hf0a hf0b hf0c hXm hYm hXa hYa
      repeat (first | (apply sig_q; exact rfl; exact rfl; exact rfl; intro K hK; go_big_quiet_op; go_big_quiet_on) | (apply sig_skip; exact rfl; exact rfl; exact rfl; intro K hK; go_big_quiet_op; go_big_quiet_on))
      refine sig_end ?_
      go_wp2_with fail
      go_roundw
      case rel => exact ⟨j - 1, k', a1', c1', dl, a2', c2', bl, f', g', N + 1, by congr 1; omega, by omega, by omega, by omega, H.out.1, H.out.2⟩
      case measure => simp [intOf]; omega
    · obtain rfl : j = 0 := by omega
      have hfr := hS.fr
      go_wp2_with fail
      refine (known_true _).mono ?_
      rintro e w7 ⟨rfl, hf7⟩
      go_wp2_with fail
      go_ret
      exact ⟨rfl, (hfr.step hf7 (fun _ _ h => h.elim)).mono (fun b hb h => by unfold From at h; omega)⟩
end Go.Proofs.YtanaompgapiikaaGreatDoor
