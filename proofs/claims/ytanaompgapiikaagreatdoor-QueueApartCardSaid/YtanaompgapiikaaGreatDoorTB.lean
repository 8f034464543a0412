/- Tree: makes a tree of any numbers. -/
import Derived.Test.YtanaompgapiikaaGreatDoorT9
import Derived.Test.YtanaompgapiikaaGreatDoorTr
namespace Go.Proofs.YtanaompgapiikaaGreatDoor
open Go.RowKit Go.Maps
set_option linter.unusedVariables false

/-- A device whose attributes lie in memory, in blocks from base on. -/
structure ElOk (W : World) (base : Nat) (d : Dev) : Prop where
  sz : Sized d
  drv : d.drv = ⟨#[]⟩
  att : ∃ l, Atts W d.aa d.ac l ∧ d.an = l.length ∧ l.length ≤ 24
  fresh : ∀ ad, d.aa = some ad → base ≤ ad.block
/-- A tree in memory, in blocks from base on. -/
structure Tr (W : World) (base : Nat) (a : Option Addr) (cap : Nat) (ds : List Dev) : Prop where
  dv : Devs W a cap ds
  wf : TreeWf ds
  fresh : ∀ ad, a = some ad → base ≤ ad.block
  el : ∀ d ∈ ds, ElOk W base d
theorem ElOk.fr {S : Nat → Prop} {W W' : World} {base : Nat} {d : Dev} (h : ElOk W base d) (hf : Fr S W W') (hS : ∀ b, base ≤ b → ¬ S b) : ElOk W' base d := by
  obtain ⟨l, h1, h2⟩ := h.att
  exact ⟨h.sz, h.drv, ⟨l, h1.fr hf (fun ad e _ => hS _ (h.fresh ad e)), h2⟩, h.fresh⟩
theorem Tr.fr {S : Nat → Prop} {W W' : World} {base : Nat} {a : Option Addr} {cap : Nat} {ds : List Dev} (h : Tr W base a cap ds) (hf : Fr S W W') (hS : ∀ b, base ≤ b → ¬ S b) : Tr W' base a cap ds :=
  ⟨h.dv.fr hf (fun ad e _ => hS _ (h.fresh ad e)), h.wf, h.fresh, fun d hd => (h.el d hd).fr hf hS⟩
theorem Tr.no {W W' : World} {base : Nat} {a : Option Addr} {cap : Nat} {ds : List Dev} (h : Tr W base a cap ds) (hf : Fr No W W') : Tr W' base a cap ds := h.fr hf (fun _ _ => id)
theorem Tr.nil (W : World) (base : Nat) : Tr W base none 0 [] := ⟨Devs.nil W, TreeWf.nil, (fun _ e => by cases e), (fun d h => by simp at h)⟩

theorem ins_tr {W W' : World} {base : Nat} {a : Option Addr} {cap : Nat} {ds : List Dev} {d : Dev} {a' : Option Addr} {n' c' q : Nat} (h : Tr W base a cap ds) (hd : ElOk W base d) (hi : InsTo W W' ds d a' n' c' q) (hf : Fr No W W') (hb : base ≤ W.heap.size) :
    n' = (insAt ds q d).length ∧ Tr W' base a' c' (insAt ds q d) := by
  have hn := hi.len
  subst hn
  obtain ⟨_, _, e, h1, h2⟩ := Devs.of_own hi.own
  cases e
  have hw := h.wf.insert hi.hk hi.new ⟨hi.ok.lo, hi.ok.hi⟩ hi.ok.orig hi.ok.ne hi.par hi.org hi.dep
  refine ⟨rfl, h1, hw.1, fun ad e => Nat.le_trans hb (h2 ad e), fun x hx => ?_⟩
  rcases insAt_mem.1 hx with rfl | hx
  · exact hd.fr hf (fun _ _ => id)
  · exact (h.el x hx).fr hf (fun _ _ => id)

/-- The state of Tree's call. -/
structure TrS (w W : World) (B tb : Nat) (k : Nat) (a : Option Addr) (cap : Nat) (ds : List Dev) : Prop where
  fr : Fr (Is tb) w W
  p4 : W.heap[w.heap.size]? = some (.cells #[.slice none 0 0] 25)
  p5 : W.heap[w.heap.size + 1]? = some (.cells #[.slice a ds.length cap] 25)
  tr : Tr W (w.heap.size + 2) a cap ds
  tape : Tape W B tb k
  tl : tb < w.heap.size
  B0 : 0 < B
section
variable {w W W' : World} {B tb k : Nat} {a : Option Addr} {cap : Nat} {ds : List Dev}
theorem TrS.step (h : TrS w W B tb k a cap ds) {k' : Nat} (ht : Tape W' B tb k') (hf : Fr (Is tb) W W') : TrS w W' B tb k' a cap ds := by
  have h2 := h.tl
  exact ⟨h.fr.step hf (fun _ _ e => e), hf.heap h.p4 (fun e => by unfold Is at e; omega), hf.heap h.p5 (fun e => by unfold Is at e; omega), h.tr.fr hf (fun b hb e => by unfold Is at e; omega), ht, h2, h.B0⟩
theorem TrS.no (h : TrS w W B tb k a cap ds) (hf : Fr No W W') : TrS w W' B tb k a cap ds :=
  h.step (h.tape.fr hf (fun _ _ => id) id) (hf.mono (fun _ _ e => e.elim))
theorem Tr.store (h : Tr W (w.heap.size + 2) a cap ds) {b : Nat} {x : Option Addr} {y z : Nat} {T : TypeId} (hb : W.heap[b]? = some (.cells #[.slice x y z] T)) (v : Value) : Tr (W.setCell ⟨b, 0, none⟩ v) (w.heap.size + 2) a cap ds := by
  have hf : Fr (Is b) W (W.setCell ⟨b, 0, none⟩ v) := Fr.setAt (Fr.refl _ _) _
  have hc : ∀ (o : Nat) (u : Value), W.cell? ⟨b, o, none⟩ = some u → u = .slice x y z := fun o u hu => by
    rw [cell_of_block hb] at hu
    match o, hu with
    | 0, hu => simpa using hu.symm
  refine ⟨h.dv.fr hf (fun ad e hne hS => ?_), h.wf, h.fresh, fun d hd => ?_⟩
  · obtain ⟨h1, _, h3⟩ := h.dv.cell ad e hne
    cases ds with
    | nil => exact hne rfl
    | cons d t =>
      have h4 := h3 0 d rfl 0 (by omega)
      unfold Is at hS
      rw [hS] at h4
      have := hc _ _ h4
      cases this
  · have he := h.el d hd
    obtain ⟨l, h1, h2⟩ := he.att
    refine ⟨he.sz, he.drv, ⟨l, h1.fr hf (fun ad e hne hS => ?_), h2⟩, he.fresh⟩
    obtain ⟨_, _, h3⟩ := h1.cell ad e hne
    cases l with
    | nil => exact hne rfl
    | cons q t =>
      have h4 := (h3 0 q rfl).1
      unfold Is at hS
      rw [hS] at h4
      have := hc _ _ h4
      cases this
theorem TrS.store (h : TrS w W B tb k a cap ds) {b : Nat} {x : Option Addr} {y z : Nat} {T : TypeId} (hb : W.heap[b]? = some (.cells #[.slice x y z] T)) (h1 : w.heap.size + 2 ≤ b) (v : Value) : TrS w (W.setCell ⟨b, 0, none⟩ v) B tb k a cap ds := by
  have hf : Fr (Is b) W (W.setCell ⟨b, 0, none⟩ v) := Fr.setAt (Fr.refl _ _) _
  have h2 := h.tl
  have h3 := h.tape.le
  exact ⟨h.fr.step hf (fun x hx e => by unfold Is at e; omega), hf.heap h.p4 (fun e => by unfold Is at e; omega), hf.heap h.p5 (fun e => by unfold Is at e; omega), h.tr.store hb v, h.tape.fr hf (fun x hx e => by unfold Is at e; omega) (fun e => by unfold Is at e; omega), h2, h.B0⟩
theorem TrS.t5 (h : TrS w W B tb k a cap ds) : W.cell? ⟨w.heap.size + 1, 0, none⟩ = some (.slice a ds.length cap) := cell_of_block h.p5 0
theorem TrS.lt (h : TrS w W B tb k a cap ds) : w.heap.size + 2 ≤ W.heap.size := by have := lt_of_block h.p5; omega
theorem TrS.zero (h : TrS w W B tb k a cap ds) {m : Int} (hm : w.cell? ⟨0, 0, none⟩ = some (.int .i64 m)) : W.cell? ⟨0, 0, none⟩ = some (.int .i64 m) :=
  h.fr.cell hm (fun e => by have := h.B0; have := h.tape.le; unfold Is at e; simp at e; omega)
end

theorem DevTo.el {w w' : World} {B tb k' : Nat} {i : Int} {d : Dev} {l : List (ByteArray × ByteArray)} (h : DevTo w w' B tb k' i d l) {base : Nat} (hb : base ≤ w.heap.size) : ElOk w' base d :=
  ⟨h.sz, h.drv, ⟨l, h.att, h.an, by have := h.lb; omega⟩, fun ad e => Nat.le_trans hb (h.afr ad e)⟩

/-- Insert's call, of a tree and a device in memory. -/
theorem insert_any (a : Option Addr) (cap : Nat) (ds : List Dev) (d : Dev) (m : Int) (W : World) (base : Nat) (h : Tr W base a cap ds) (hd : ElOk W base d) (hl : ds.length ≤ 1000) (hm : W.cell? ⟨0, 0, none⟩ = some (.int .i64 m)) (h0 : 0 < W.heap.size) :
    Calls Tryz.prog 57 #[.agg #[.slice a ds.length cap], .agg d.vals] W fun e w' => InsRes W w' ds d e ∧ Fr No W w' := by
  obtain ⟨l, h1, h2, _⟩ := hd.att
  exact ref_insert a cap ds d l m W h.dv hl h.wf.ok hd.sz h1 h2 hd.drv hm h0

/-- Behind Device and Insert: the error, and the new tree in block b7. -/
def Ins5 (w wx : World) (B tb K : Nat) (a : Option Addr) (cap : Nat) (ds : List Dev) (v7 v8 : Value) : Prop :=
  ∃ b7 er a' n' c' k', v7 = .pointer (some ⟨b7, 0, none⟩) ∧ v8 = .int .i64 er ∧ k' ≤ K ∧ wx.heap[b7]? = some (.cells #[.slice a' n' c'] 25) ∧ w.heap.size + 2 ≤ b7 ∧ TrS w wx B tb k' a cap ds ∧
    (er = 0 → ∃ ds', n' = ds'.length ∧ ds'.length ≤ ds.length + 1 ∧ Tr wx (w.heap.size + 2) a' c' ds')

theorem ins_tr5 {w W W' : World} {a : Option Addr} {cap : Nat} {ds : List Dev} {d : Dev} {a' : Option Addr} {n' c' : Nat} (h : Tr W (w.heap.size + 2) a cap ds) (hd : ElOk W (w.heap.size + 2) d) (hi : ∃ q, InsTo W W' ds d a' n' c' q) (hf : Fr No W W') (hb : w.heap.size + 2 ≤ W.heap.size) :
    ∃ ds', n' = ds'.length ∧ ds'.length ≤ ds.length + 1 ∧ Tr W' (w.heap.size + 2) a' c' ds' := by
  obtain ⟨q, hq⟩ := hi
  obtain ⟨h1, h2⟩ := ins_tr h hd hq hf hb
  exact ⟨_, h1, by rw [insAt_len]; omega, h2⟩

/-- What Tree hands back. -/
def TreeRes (w w' : World) (B tb K N : Nat) (e : Ending) : Prop := ∃ a cap ds k', k' ≤ K ∧ ds.length ≤ N ∧ e = .returned (.agg #[.slice a ds.length cap]) ∧ Tr w' (w.heap.size + 2) a cap ds ∧ Tape w' B tb k' ∧ Fr (Is tb) w w'

set_option maxRecDepth 100000 in
set_option maxHeartbeats 4000000 in
theorem made_tree (B tb k n : Nat) (m : Int) (w : World) (ht : Tape w B tb k) (hB : 0 < B) (hk : k ≤ 1000000) (hn : n ≤ 1000) (hm : w.cell? ⟨0, 0, none⟩ = some (.int .i64 m)) :
    Calls Tryz.prog 14 #[.pointer (some ⟨tb, 0, none⟩), .int .i64 (n : Int)] w fun e w' => TreeRes w w' B tb (k + 12 * n) n e := by
  have hx : Fr No w ((w.alloc (.cells #[.slice none 0 0] 25)).alloc (.cells #[.slice none 0 0] 25)) := ((Fr.refl _ _).alloc _).alloc _
  have q0 := block_alloc1 w (.cells #[.slice none 0 0] 25) (.cells #[.slice none 0 0] 25)
  have q1 := block_alloc2 w (.cells #[.slice none 0 0] 25) (.cells #[.slice none 0 0] 25)
  have hS0 : TrS w _ B tb k none 0 [] := ⟨hx.mono (fun _ _ e => e.elim), q0, q1, Tr.nil _ _, ht.fr hx (fun _ _ => id) id, ht.lt, hB⟩
  clear hx q0 q1
  go_enter Tryz.func14, Tryz.ntmps14
  go_wp2_with fail
  generalize (w.alloc (.cells #[.slice none 0 0] 25)).alloc (.cells #[.slice none 0 0] 25) = W0 at *
  go_loopw [6] (fun iv wr => ∃ (j k' : Nat) (a : Option Addr) (cap : Nat) (ds : List Dev), iv = .int .i64 (j : Int) ∧ 1 ≤ j ∧ j ≤ n + 1 ∧ ds.length + 1 ≤ j ∧ k' + 12 ≤ k + 12 * j ∧ TrS w wr B tb k' a cap ds) (fun iv _ => n + 1 - (intOf iv).toNat)
  case atStart => exact ⟨1, k, none, 0, [], rfl, by omega, by omega, by simp, by omega, hS0⟩
  case round =>
    clear hS0
    obtain ⟨j, k1, a, cap, ds, rfl, hj1, hj2, hdl, hk1, hS⟩ := hrel
    by_cases hlt : j ≤ n
    · have hlt' : (j : Int) ≤ n := by omega
      go_upto_region 5 with (fail)
      have hdl' : ds.length ≤ 1000 := by omega
      go_cut [7, 8] (fun v7 v8 wx => Ins5 w wx B tb (k1 + 12) a cap ds v7 v8)
      case first =>
        refine region_tree (TB tb wr.heap.size) (.q 0 (.q 1 (.q 2 (.q 3 (.m2 4 (.m2 5 (.q 6 (.q 7 (.q 8 (.m1 9 (.m1 10 (.q 11 .fin)))))) 9 (.m1 5 (.q 6 (.q 7 (.q 8 (.m1 10 (.q 11 .fin))))))) 9 (.m1 4 (.m1 5 (.q 6 (.q 7 (.q 8 (.m1 10 (.q 11 .fin)))))))))))) _ (by kernel_rfl) (by kernel_rfl) (fun w0 hf0 => ?_) (fun _ _ h => h)
        have hS0 := hS.no hf0
        have h0z := hf0.size
        have hSl := hS.lt
        have g0 : ∀ g : Gr (TB tb wr.heap.size) w0, g.W.cell? ⟨w.heap.size + 1, 0, none⟩ = some (.slice a ds.length cap) := fun g => g.fr.cell hS0.t5 (by unfold TB; have := hS.tl; simp; omega)
        repeat (apply tree_q; exact rfl; exact rfl; exact rfl; intro K hK; go_big_quiet_op; go_big_quiet_on)
        clear g0
        refine tree_m2 rfl rfl ?_ ?_
        · go_wp2_with fail
          refine (made_device B tb k1 a cap ds (j : Int) _ hS0.tape (by omega) hS0.tr.dv (by omega) hS0.tr.wf.ok.sz (fun ad e => by have := hS0.tr.fresh ad e; have := hS0.tl; omega) (WalkArith.wf_i64 (by omega))).mono ?_
          rintro e w2 ⟨k2, d, l, hk2, rfl, hD⟩
          have hS2 := hS0.step hD.tape hD.fr
          have hEl := hD.el hS0.lt
          go_wp2_with fail
          refine OnlyN.mk ⟨hD.fr.mono (fun _ _ h => .inl h), ?_⟩
          have h2z := hD.fr.size
          refine tree_m2 rfl rfl ?_ ?_
          · go_wp2_with fail
            refine (insert_any a cap ds d m _ _ hS2.tr hEl (by omega) (hS2.zero hm) (by have := hS2.lt; omega)).mono ?_
            rintro e w3 ⟨⟨a', n', c', er, rfl, hok⟩, hf3⟩
            have hS3 := hS2.no hf3
            have HN := Lib.hid (fun h => ins_tr5 hS2.tr hEl (hok h) hf3 hS2.lt)
            clear hok
            go_wp2_with fail
            refine OnlyN.mk ⟨hf3.mono (fun _ _ h => h.elim), ?_⟩
            repeat (apply tree_q; exact rfl; exact rfl; exact rfl; intro K hK; go_big_quiet_op; go_big_quiet_on)
            have h3z := hf3.size
            refine tree_m1 rfl ?_
            go_wp2_with fail
            refine OnlyN.mk ⟨(Fr.refl _ _).alloc _, ?_⟩
            refine tree_m1 rfl ?_
            go_wp2_with fail
            refine OnlyN.mk ⟨Fr.swap _ _ _ (.inr (by omega)), ?_⟩
            repeat (apply tree_q; exact rfl; exact rfl; exact rfl; intro K hK; go_big_quiet_op; go_big_quiet_on)
            refine tree_end ?_
            go_wp2_with fail
            go_meet
            have hX : Fr No w3 (w3.alloc (.cells #[.slice a' n' c'] 25)) := (Fr.refl _ _).alloc _
            refine ⟨w3.heap.size, er, a', n', c', k2, rfl, rfl, by omega, block_alloc _ _, by omega, hS3.no hX, fun h => ?_⟩
            obtain ⟨ds', g1, g2, g3⟩ := HN.out h
            exact ⟨ds', g1, g2, g3.no hX⟩
          · go_wp2_with fail
            refine OnlyN.mk ⟨(Fr.refl _ _).alloc _, ?_⟩
            have hX : Fr No w2 (w2.alloc (.cells #[.slice none 0 0] 25)) := (Fr.refl _ _).alloc _
            have hXb := block_alloc w2 (.cells #[.slice none 0 0] 25)
            have hXs : w2.heap.size < (w2.alloc (.cells #[.slice none 0 0] 25)).heap.size := by simp
            generalize w2.alloc (.cells #[.slice none 0 0] 25) = X at *
            have hSX := hS2.no hX
            have hElX := hEl.fr hX (fun _ _ => id)
            refine tree_m1 rfl ?_
            go_wp2_with fail
            refine (insert_any a cap ds d m _ _ hSX.tr hElX (by omega) (hSX.zero hm) (by have := hSX.lt; omega)).mono ?_
            rintro e w3 ⟨⟨a', n', c', er, rfl, hok⟩, hf3⟩
            have hS3 := hSX.no hf3
            have HN := Lib.hid (fun h => ins_tr5 hSX.tr hElX (hok h) hf3 hSX.lt)
            clear hok
            go_wp2_with fail
            refine OnlyN.mk ⟨hf3.mono (fun _ _ h => h.elim), ?_⟩
            repeat (apply tree_q; exact rfl; exact rfl; exact rfl; intro K hK; go_big_quiet_op; go_big_quiet_on)
            have hb3 := hf3.heap hXb id
            refine tree_m1 rfl ?_
            have x7 : w3.cell? ⟨w2.heap.size, 0, none⟩ = some (.slice none 0 0) := cell_of_block hb3 0
            have z7 : w3.frozen? ⟨w2.heap.size, 0, none⟩ = false := free_of_block hb3 0
            have hS4 := hS3.store hb3 (by have := h2z; omega) (.slice a' n' c')
            have HN4 : Hid (er = 0 → ∃ ds', n' = ds'.length ∧ ds'.length ≤ ds.length + 1 ∧ Tr (w3.setCell ⟨w2.heap.size, 0, none⟩ (.slice a' n' c')) (w.heap.size + 2) a' c' ds') := fun h => by
              obtain ⟨ds', g1, g2, g3⟩ := HN.out h
              exact ⟨ds', g1, g2, g3.store hb3 _⟩
            clear HN
            go_wp2_with fail
            refine OnlyN.mk ⟨(Fr.refl _ _).setCell (p := ⟨w2.heap.size, 0, none⟩) (fun _ => .inr (by show wr.heap.size ≤ w2.heap.size; omega)) _, ?_⟩
            repeat (apply tree_q; exact rfl; exact rfl; exact rfl; intro K hK; go_big_quiet_op; go_big_quiet_on)
            refine tree_end ?_
            go_wp2_with fail
            go_meet
            exact ⟨w2.heap.size, er, a', n', c', k2, rfl, rfl, by omega, block_setCell hb3 0 _, by have := h2z; omega, hS4, HN4.out⟩
        · go_wp2_with fail
          refine OnlyN.mk ⟨(Fr.refl _ _).alloc _, ?_⟩
          have hX : Fr No w0 (w0.alloc (.cells #[.slice none 0 0] 25)) := (Fr.refl _ _).alloc _
          have hXb := block_alloc w0 (.cells #[.slice none 0 0] 25)
          have hXs : w0.heap.size < (w0.alloc (.cells #[.slice none 0 0] 25)).heap.size := by simp
          generalize w0.alloc (.cells #[.slice none 0 0] 25) = X at *
          have hSX := hS0.no hX
          refine tree_m1 rfl ?_
          go_wp2_with fail
          refine (made_device B tb k1 a cap ds (j : Int) _ hSX.tape (by omega) hSX.tr.dv (by omega) hSX.tr.wf.ok.sz (fun ad e => by have := hSX.tr.fresh ad e; have := hSX.tl; omega) (WalkArith.wf_i64 (by omega))).mono ?_
          rintro e w2 ⟨k2, d, l, hk2, rfl, hD⟩
          have hS2 := hSX.step hD.tape hD.fr
          have hEl := hD.el hSX.lt
          go_wp2_with fail
          refine OnlyN.mk ⟨hD.fr.mono (fun _ _ h => .inl h), ?_⟩
          have hb2 := hD.fr.heap hXb (fun e => by have := hS.tl; unfold Is at e; omega)
          refine tree_m1 rfl ?_
          go_wp2_with fail
          refine (insert_any a cap ds d m _ _ hS2.tr hEl (by omega) (hS2.zero hm) (by have := hS2.lt; omega)).mono ?_
          rintro e w3 ⟨⟨a', n', c', er, rfl, hok⟩, hf3⟩
          have hS3 := hS2.no hf3
          have HN := Lib.hid (fun h => ins_tr5 hS2.tr hEl (hok h) hf3 hS2.lt)
          clear hok
          go_wp2_with fail
          refine OnlyN.mk ⟨hf3.mono (fun _ _ h => h.elim), ?_⟩
          repeat (apply tree_q; exact rfl; exact rfl; exact rfl; intro K hK; go_big_quiet_op; go_big_quiet_on)
          have hb3 := hf3.heap hb2 id
          refine tree_m1 rfl ?_
          have x7 : w3.cell? ⟨w0.heap.size, 0, none⟩ = some (.slice none 0 0) := cell_of_block hb3 0
          have z7 : w3.frozen? ⟨w0.heap.size, 0, none⟩ = false := free_of_block hb3 0
          have hS4 := hS3.store hb3 (by have := h0z; omega) (.slice a' n' c')
          have HN4 : Hid (er = 0 → ∃ ds', n' = ds'.length ∧ ds'.length ≤ ds.length + 1 ∧ Tr (w3.setCell ⟨w0.heap.size, 0, none⟩ (.slice a' n' c')) (w.heap.size + 2) a' c' ds') := fun h => by
            obtain ⟨ds', g1, g2, g3⟩ := HN.out h
            exact ⟨ds', g1, g2, g3.store hb3 _⟩
          clear HN
          go_wp2_with fail
          refine OnlyN.mk ⟨(Fr.refl _ _).setCell (p := ⟨w0.heap.size, 0, none⟩) (fun _ => .inr (by have := h0z; omega)) _, ?_⟩
          repeat (apply tree_q; exact rfl; exact rfl; exact rfl; intro K hK; go_big_quiet_op; go_big_quiet_on)
          refine tree_end ?_
          go_wp2_with fail
          go_meet
          exact ⟨w0.heap.size, er, a', n', c', k2, rfl, rfl, by omega, block_setCell hb3 0 _, by have := h0z; omega, hS4, HN4.out⟩
      case rest =>
        clear hS
        obtain ⟨b7, er, a', n', c', k2, rfl, rfl, hk2, hb7, hlo7, hS, hnew⟩ := hcut
        by_cases her : er = 0
        · obtain ⟨ds', rfl, hl', hT'⟩ := hnew her
          have heb : (er == 0) = true := by simp [her]
          have x7 : wc.cell? ⟨b7, 0, none⟩ = some (.slice a' ds'.length c') := cell_of_block hb7 0
          have x5 := hS.t5
          have z5 : wc.frozen? ⟨w.heap.size + 1, 0, none⟩ = false := free_of_block hS.p5 0
          clear her
          have hx : Fr (Is (w.heap.size + 1)) wc (wc.setCell ⟨w.heap.size + 1, 0, none⟩ (.slice a' ds'.length c')) := Fr.setAt (Fr.refl _ _) _
          have hSn : TrS w (wc.setCell ⟨w.heap.size + 1, 0, none⟩ (.slice a' ds'.length c')) B tb k2 a' c' ds' := by
            have h2 := hS.tl
            have h3 := hS.tape.le
            exact ⟨hS.fr.step hx (fun x hx e => by unfold Is at e; omega), hx.heap hS.p4 (fun e => by unfold Is at e; omega), block_setCell hS.p5 0 _, hT'.fr hx (fun b hb e => by unfold Is at e; omega), hS.tape.fr hx (fun x hx e => by unfold Is at e; omega) (fun e => by unfold Is at e; omega), h2, hS.B0⟩
          go_wp2_with fail
          go_roundw
          case rel => exact ⟨j + 1, k2, a', c', ds', by congr 1, by omega, by omega, by omega, by omega, hSn⟩
          case measure => simp [intOf]; omega
        · have heb : (er == 0) = false := by simpa using her
          clear her
          go_wp2_with fail
          go_roundw
          case rel => exact ⟨j + 1, k2, a, cap, ds, by congr 1, by omega, by omega, by omega, by omega, hS⟩
          case measure => simp [intOf]; omega
    · have hlt' : ¬ (j : Int) ≤ n := by omega
      have t5 := hS.t5
      have r0 : wr.cell? ⟨w.heap.size, 0, none⟩ = some (.slice none 0 0) := cell_of_block hS.p4 0
      have rf : wr.frozen? ⟨w.heap.size, 0, none⟩ = false := free_of_block hS.p4 0
      go_wp2_with fail
      refine bodyPost_ret (v := .agg #[.slice a ds.length cap]) (by simp [results, Tryz.results14, go_sem, r0]) rfl ?_
      have hf : Fr (Is w.heap.size) wr (wr.setCell ⟨w.heap.size, 0, none⟩ (.slice a ds.length cap)) := Fr.setAt (Fr.refl _ _) _
      refine ⟨a, cap, ds, k1, by omega, by omega, rfl, hS.tr.fr hf (fun b hb e => by unfold Is at e; omega), hS.tape.fr hf (fun b hb e => by have := hS.tape.le; have := hS.tl; unfold Is at e; omega) (fun e => by have := hS.tl; unfold Is at e; omega), hS.fr.step hf (fun b hb e => by unfold Is at e; omega)⟩
end Go.Proofs.YtanaompgapiikaaGreatDoor
/- A tree in memory under frames; a new tape. -/
namespace Go.Proofs.YtanaompgapiikaaGreatDoor
open Go.RowKit Go.Maps
set_option linter.unusedVariables false

theorem Tr.keep {X W : World} {base : Nat} {a : Option Addr} {cap : Nat} {ds : List Dev} {S : Nat → Prop} (h : Tr X base a cap ds) (hf : Fr S X W) (hS : ∀ b, b < X.heap.size → base ≤ b → ¬ S b) : Tr W base a cap ds := by
  refine ⟨h.dv.fr hf (fun ad e hne => hS _ (h.dv.cell ad e hne).2.1 (h.fresh ad e)), h.wf, h.fresh, fun d hd => ?_⟩
  have he := h.el d hd
  obtain ⟨l, h1, h2⟩ := he.att
  exact ⟨he.sz, he.drv, ⟨l, h1.fr hf (fun ad e hne => hS _ (h1.cell ad e hne).2.1 (he.fresh ad e)), h2⟩, he.fresh⟩
theorem Tape.make {w : World} {a : Option Addr} {cap : Nat} {l : List Int} (h : Ints w a cap l) (T : TypeId) :
    Tape (w.alloc (.cells #[.slice a l.length cap, .int .i64 0] T)) w.heap.size w.heap.size 0 :=
  ⟨a, cap, l, T, h.fr ((Fr.refl No _).alloc _) (fun _ _ _ h => h), fun ad e hne => (h.cell ad e hne).2.1, Nat.le_refl _, block_alloc _ _⟩
end Go.Proofs.YtanaompgapiikaaGreatDoor
