/- seat.Of. -/
import Derived.Test.YtpnpjaemlflplaaGreatDoorK4
import Derived.Test.YtpnpjaemlflplaaGreatDoorK2
import Derived.WalkMore
namespace Go.Proofs.YtpnpjaemlflplaaGreatDoor
open Go.RowKit Go.Maps
set_option linter.unusedVariables false

def keySeat : ByteArray := ⟨#[73, 68, 95, 83, 69, 65, 84]⟩
def seat0 : ByteArray := ⟨#[115, 101, 97, 116, 48]⟩
/-- The ID_SEAT of the record of a device. -/
def idSeat (ds : List Dev) (l : List Rec) (n : Int) : ByteArray := getP ((recOf ds l n).getD Rec.zero).props keySeat
def seatL (ds : List Dev) (l : List Rec) : List Int → ByteArray
  | [] => seat0
  | i :: t => if isName (idSeat ds l i) then idSeat ds l i else seatL ds l t
/-- The seat of a device. -/
def seatOf (ds : List Dev) (l : List Rec) (n : Int) : ByteArray := if look ds n = none then ⟨#[]⟩ else seatL ds l ((chain ds n).map Dev.index)

theorem seatL_no (ds : List Dev) (l : List Rec) : ∀ (c : List Int), (∀ x ∈ c, isName (idSeat ds l x) = false) → seatL ds l c = seat0
  | [], _ => rfl
  | i :: t, h => by
    unfold seatL
    rw [h i (by simp), if_neg (by simp)]
    exact seatL_no ds l t (fun x hx => h x (by simp [hx]))
theorem seatL_at (ds : List Dev) (l : List Rec) : ∀ (c : List Int) (k : Nat) (i : Int), c[k]? = some i → isName (idSeat ds l i) = true → (∀ x ∈ c.take k, isName (idSeat ds l x) = false) → seatL ds l c = idSeat ds l i
  | [], k, i, h, _, _ => by simp at h
  | j :: t, 0, i, h, e, _ => by simp at h; subst h; unfold seatL; rw [if_pos e]
  | j :: t, k + 1, i, h, e, hn => by
    unfold seatL
    rw [hn j (by simp), if_neg (by simp)]
    exact seatL_at ds l t k i (by simpa using h) e (fun x hx => hn x (by simp [hx]))

theorem FoundR.eq {o : Option Rec} {e : Ending} (h : FoundR o e) : e = .returned (.tuple #[.agg (o.getD Rec.zero).vals, .bool o.isSome]) := by
  cases o <;> exact h
theorem recOf_ok {w : World} {a : Option Addr} {cap : Nat} {l : List Rec} (h : Recs w a cap l) (ds : List Dev) (n : Int) : RecOk w ((recOf ds l n).getD Rec.zero) := by
  unfold recOf
  split
  · exact RecOk.zero w
  · cases ho : l.find? (Rec.is n (pathOf (origin ds n))) with
    | none => exact RecOk.zero w
    | some r => exact h.ok r (List.mem_of_find?_eq_some ho)
theorem Devs.src {W : World} {a : Option Addr} {cap : Nat} {l : List Dev} (h : Devs W a cap l) : ∀ ad, a = some ad → ∀ j u, (flat l)[j]? = some u → W.cell? (ad.add j) = some u := by
  have := h.src_take l.length
  rwa [List.take_length] at this
theorem getP_le {w : World} {a : Option Addr} {cap : Nat} {l : List (ByteArray × ByteArray)} (h : Atts w a cap l) (key : ByteArray) : (getP l key).size ≤ maxLen := by
  unfold getP
  cases ho : l.find? (isKey key) with
  | none => show (0 : Nat) ≤ maxLen; omega
  | some x => exact (h.wf x (List.mem_of_find?_eq_some ho)).2

set_option maxRecDepth 100000 in
set_option maxHeartbeats 1000000 in
theorem seat_of (a ra : Option Addr) (cap rcap base : Nat) (ds : List Dev) (l : List Rec) (n : Int) (w : World) (hl : Tr w base a cap ds) (hn : ds.length ≤ 1000) (hx : (Lit.int .i64 n).wf = true) (hr : Recs w ra rcap l) :
    Calls Tryz.prog 15 #[.agg #[.slice a ds.length cap], .slice ra l.length rcap, .int .i64 n] w fun e w' => e = .returned (.string (seatOf ds l n)) ∧ Fr No w w' := by
  have hT := hl.wf.1
  have h0 : Fr No w (w.alloc (.cells #[.slice a ds.length cap] 25)) := (Fr.refl _ _).alloc _
  have q3 := block_alloc w (.cells #[.slice a ds.length cap] 25)
  go_enter Tryz.func15, Tryz.ntmps15
  go_wp2_with fail
  refine wp_scope_straight ?_
  generalize w.alloc (.cells #[.slice a ds.length cap] 25) = W0 at *
  have t3 : W0.cell? ⟨w.heap.size, 0, none⟩ = some (.slice a ds.length cap) := cell_of_block q3 0
  go_wp2_with fail
  refine (tree_find a cap ds base n _ (hl.no h0)).mono ?_
  rintro e w1 ⟨hF, hf1⟩
  have h1 := h0.step hf1 (fun _ _ h => h)
  have q31 := hf1.heap q3 id
  clear t3 q3
  rcases hF with ⟨hlk, rfl⟩ | ⟨d, aa', ac', la, hlk, rfl, -⟩
  · have H : Hid (seatOf ds l n = ⟨#[]⟩) := by unfold Hid seatOf; rw [if_pos hlk]
    clear hlk
    unfold Dev.vals Dev.zero
    go_wp2_with fail
    simp +zetaDelta only [Exit.noGoto_ret]
    go_ret
    exact ⟨by rw [H.out]; rfl, h1.alloc _⟩
  · have H : Hid (seatOf ds l n = seatL ds l ((chain ds n).map Dev.index)) := by unfold Hid seatOf; rw [if_neg (by rw [hlk]; simp)]
    have Hch : Hid (chain ds n = d :: (chain ds n).tail) := by
      unfold Hid
      rw [hT.chain_cons hlk]; rfl
    have Hlk := Lib.hid hlk
    clear hlk
    unfold Dev.vals
    go_wp2_with fail
    apply wp_label
    go_wp2_with fail
    have hx1 : Fr No w1 (w1.alloc (.cells #[.int .i64 d.index, .int .i64 d.parent, .string d.name, .string d.orig, .string d.sub, .string d.drv, .string d.ali, .int .i64 d.kind, .int .i64 d.num, .slice aa' d.an ac'] 32)) := (Fr.refl _ _).alloc _
    have b7 := block_alloc w1 (.cells #[.int .i64 d.index, .int .i64 d.parent, .string d.name, .string d.orig, .string d.sub, .string d.drv, .string d.ali, .int .i64 d.kind, .int .i64 d.num, .slice aa' d.an ac'] 32)
    generalize w1.alloc (.cells #[.int .i64 d.index, .int .i64 d.parent, .string d.name, .string d.orig, .string d.sub, .string d.drv, .string d.ali, .int .i64 d.kind, .int .i64 d.num, .slice aa' d.an ac'] 32) = W1 at *
    have hW := h1.step hx1 (fun _ _ h => h)
    have b3 := hx1.heap q31 id
    have hw3 : w.heap.size < w1.heap.size := lt_of_block q31
    have hw7 : w1.heap.size < W1.heap.size := lt_of_block b7
    clear hx1 q31 hf1
    go_cut [28, 29, 30] (fun v u i wx => ∃ av cv q, v = .slice av (List.length q) cv ∧ u = .int .i64 (List.length q : Int) ∧ i = .int .i64 0 ∧ Devs wx av cv q ∧ q.map Dev.index = (chain ds n).map Dev.index ∧ Fr No W1 wx)
    case first =>
      obtain ⟨i0, hi0, hz0, hz1, hz2⟩ := info_parts infoD
      refine region_tree (From W1.heap.size) (.q 0 (.q 2 (.q 3 (.q 7 (.m2 1 (.m1 4 (.m1 5 (.q 6 .fin))) 4 (.m1 1 (.m1 5 (.q 6 .fin)))))))) _ (by kernel_rfl) (by kernel_rfl) (fun w0 hf0 => ?_) (fun _ _ h => h)
      have b7 := hf0.heap b7 id
      have b3 := hf0.heap b3 id
      have hs0 := hf0.size
      have g0 : ∀ g : Gr (From W1.heap.size) w0, g.W.cell? ⟨w1.heap.size, 0, none⟩ = some (.int .i64 d.index) := fun g => g.fr.cell (cell_of_block b7 0) (by unfold From; simp; omega)
      have g1 : ∀ g : Gr (From W1.heap.size) w0, g.W.cell? ⟨w1.heap.size, 1, none⟩ = some (.int .i64 d.parent) := fun g => g.fr.cell (cell_of_block b7 1) (by unfold From; simp; omega)
      have g2 : ∀ g : Gr (From W1.heap.size) w0, g.W.cell? ⟨w1.heap.size, 2, none⟩ = some (.string d.name) := fun g => g.fr.cell (cell_of_block b7 2) (by unfold From; simp; omega)
      have gg3 : ∀ g : Gr (From W1.heap.size) w0, g.W.cell? ⟨w1.heap.size, 3, none⟩ = some (.string d.orig) := fun g => g.fr.cell (cell_of_block b7 3) (by unfold From; simp; omega)
      have g4 : ∀ g : Gr (From W1.heap.size) w0, g.W.cell? ⟨w1.heap.size, 4, none⟩ = some (.string d.sub) := fun g => g.fr.cell (cell_of_block b7 4) (by unfold From; simp; omega)
      have g5 : ∀ g : Gr (From W1.heap.size) w0, g.W.cell? ⟨w1.heap.size, 5, none⟩ = some (.string d.drv) := fun g => g.fr.cell (cell_of_block b7 5) (by unfold From; simp; omega)
      have g6 : ∀ g : Gr (From W1.heap.size) w0, g.W.cell? ⟨w1.heap.size, 6, none⟩ = some (.string d.ali) := fun g => g.fr.cell (cell_of_block b7 6) (by unfold From; simp; omega)
      have g7 : ∀ g : Gr (From W1.heap.size) w0, g.W.cell? ⟨w1.heap.size, 7, none⟩ = some (.int .i64 d.kind) := fun g => g.fr.cell (cell_of_block b7 7) (by unfold From; simp; omega)
      have g8 : ∀ g : Gr (From W1.heap.size) w0, g.W.cell? ⟨w1.heap.size, 8, none⟩ = some (.int .i64 d.num) := fun g => g.fr.cell (cell_of_block b7 8) (by unfold From; simp; omega)
      have g9 : ∀ g : Gr (From W1.heap.size) w0, g.W.cell? ⟨w1.heap.size, 9, none⟩ = some (.slice aa' d.an ac') := fun g => g.fr.cell (cell_of_block b7 9) (by unfold From; simp; omega)
      have g3 : ∀ g : Gr (From W1.heap.size) w0, g.W.cell? ⟨w.heap.size, 0, none⟩ = some (.slice a ds.length cap) := fun g => g.fr.cell (cell_of_block b3 0) (by unfold From; simp; omega)
      repeat (apply tree_q; exact rfl; exact rfl; exact rfl; intro K hK; go_big_quiet_op; go_big_quiet_on)
      clear g0 g1 g2 g3 g4 g5 g6 g7 g8 g9 gg3
      have hlt0 := (hl.no hW).no hf0
      have own0 : ∀ (X : World) (k : Nat), X.heap[k]? = some (.cells ({ d with aa := aa', ac := ac' } : Dev).vals 32) → X.ownsRow k 32 10 (.slice (some ⟨k, 0, none⟩) 1 1) 1 (flat [({ d with aa := aa', ac := ac' } : Dev)]) :=
        fun X k hk => ⟨by rw [flat_len]; rfl, .inr ⟨k, 1, ({ d with aa := aa', ac := ac' } : Dev).vals, rfl, Nat.le_refl _, hk, Nat.le_refl _, by unfold maxLen; omega, rfl, rfl⟩⟩
      have hca : (chain ds n).tail.length ≤ 1000 := by have := chain_len ds n; simp; omega
      have Hca := Lib.hid hca
      have HW := Lib.hid hW
      have Hf0 := Lib.hid hf0
      clear hca hW hf0 b3 b7 hl h1 h0
      refine tree_m2 rfl rfl ?_ ?_
      · go_wp2_with fail
        have hA : Fr No w0 (w0.alloc (.cells ({ d with aa := aa', ac := ac' } : Dev).vals 32)) := (Fr.refl _ _).alloc _
        have bA := block_alloc w0 (.cells ({ d with aa := aa', ac := ac' } : Dev).vals 32)
        have HA := Lib.hid (And.intro hA bA)
        clear hA bA
        refine OnlyN.mk ⟨(Fr.refl _ _).alloc _, ?_⟩
        refine tree_m1 rfl ?_
        go_wp2_with fail
        refine (tree_ancestors a cap base ds n _ (hlt0.no HA.out.1) hn hx).mono ?_
        rintro e w2 ⟨⟨a2, c2, q, rfl, hD, hq, hfresh⟩, hf2⟩
        go_wp2_with fail
        refine OnlyN.mk ⟨hf2.mono (fun _ _ h => h.elim), ?_⟩
        refine tree_m1 rfl ?_
        have hql : q.length ≤ 1000 := by have := congrArg List.length hq; rw [List.length_map, List.length_map] at this; have := Hca.out; omega
        have own2 := own0 w2 _ (hf2.heap HA.out.2 id)
        have hs2 := hf2.size
        rw [World.size_alloc] at hs2
        go_wp2_with (at_builtin; refine wpList_append_src rfl _ _ 23 rfl w0.heap.size 32 i0 (.agg #[.int .i64 0, .int .i64 0, .string ByteArray.empty, .string ByteArray.empty, .string ByteArray.empty, .string ByteArray.empty, .string ByteArray.empty, .int .i64 0, .int .i64 0, .slice none 0 0]) 10 136 Tryz.underlying23 hi0 hz0 hz1 hz2 rfl (by decide) _ 1 _ rfl own2 a2 q.length _ (flat q) rfl (fun e => ⟨by rw [(hD.isNil e).1]; rfl, (hD.isNil e).2⟩) (flat_len q) (fun ad' e => hD.src ad' e) (flat_one q) (by unfold maxLen; omega) (by omega) (by first | omega | (simp; done) | (simp; omega)) ?_; intro v' w3 own3 gr3; obtain ⟨av', cv', rfl⟩ := ownsRow_slice own3)
        have hfl : flat [({ d with aa := aa', ac := ac' } : Dev)] ++ flat q = flat (({ d with aa := aa', ac := ac' } : Dev) :: q) := rfl
        have hll : 1 + q.length = (({ d with aa := aa', ac := ac' } : Dev) :: q).length := by simp; omega
        rw [hfl, hll] at own3
        obtain ⟨a3, c3, hv3, hD3, hfr3⟩ := Devs.of_own own3
        have hg3 : Fr (From W1.heap.size) _ w3 := (Fr.of_grown gr3).mono (fun b _ e => by have h : w0.heap.size = b := Option.some.inj e; unfold From; omega)
        have hgn := Fr.of_grown gr3
        have Hg3 := Lib.hid hg3
        clear hg3
        rw [← hll] at hv3
        cases hv3
        refine OnlyN.mk ⟨Hg3.out, ?_⟩
        have Hfin : Hid (Devs w3 av' cv' (({ d with aa := aa', ac := ac' } : Dev) :: q) ∧ ((({ d with aa := aa', ac := ac' } : Dev) :: q).map Dev.index = (chain ds n).map Dev.index) ∧ Fr No W1 w3) := by
          refine ⟨hD3, ?_, ((Hf0.out.step HA.out.1 (fun _ _ h => h)).step hf2 (fun _ _ h => h)).step hgn (fun b hb e => by have h : w0.heap.size = b := Option.some.inj e; omega)⟩
          rw [Hch.out, List.map_cons, List.map_cons, hq]
        clear hD3 hgn own3 gr3 hfl
        repeat (apply tree_q; exact rfl; exact rfl; exact rfl; intro K hK; go_big_quiet_op; go_big_quiet_on)
        refine tree_end ?_
        go_wp2_with fail
        go_meet
        exact ⟨av', cv', ({ d with aa := aa', ac := ac' } : Dev) :: q, by rw [← hll], by rw [← hll]; congr 1; omega, rfl, Hfin.out.1, Hfin.out.2.1, Hfin.out.2.2⟩
      · go_wp2_with fail
        refine (tree_ancestors a cap base ds n _ hlt0 hn hx).mono ?_
        rintro e w2 ⟨⟨a2, c2, q, rfl, hD0, hq, hfresh⟩, hf2⟩
        have hB : Fr No w2 (w2.alloc (.cells ({ d with aa := aa', ac := ac' } : Dev).vals 32)) := (Fr.refl _ _).alloc _
        have HB := Lib.hid (And.intro hB (block_alloc w2 (.cells ({ d with aa := aa', ac := ac' } : Dev).vals 32)))
        have hD := hD0.no hB (fun _ => id)
        clear hB hD0
        go_wp2_with fail
        refine OnlyN.mk ⟨hf2.mono (fun _ _ h => h.elim), ?_⟩
        refine tree_m1 rfl ?_
        go_wp2_with fail
        refine OnlyN.mk ⟨(Fr.refl _ _).alloc _, ?_⟩
        refine tree_m1 rfl ?_
        have hql : q.length ≤ 1000 := by have := congrArg List.length hq; rw [List.length_map, List.length_map] at this; have := Hca.out; omega
        have own2 := own0 _ _ HB.out.2
        have hs2 := hf2.size
        go_wp2_with (at_builtin; refine wpList_append_src rfl _ _ 23 rfl w2.heap.size 32 i0 (.agg #[.int .i64 0, .int .i64 0, .string ByteArray.empty, .string ByteArray.empty, .string ByteArray.empty, .string ByteArray.empty, .string ByteArray.empty, .int .i64 0, .int .i64 0, .slice none 0 0]) 10 136 Tryz.underlying23 hi0 hz0 hz1 hz2 rfl (by decide) _ 1 _ rfl own2 a2 q.length _ (flat q) rfl (fun e => ⟨by rw [(hD.isNil e).1]; rfl, (hD.isNil e).2⟩) (flat_len q) (fun ad' e => hD.src ad' e) (flat_one q) (by unfold maxLen; omega) (by omega) (by first | omega | (simp; done) | (simp; omega)) ?_; intro v' w3 own3 gr3; obtain ⟨av', cv', rfl⟩ := ownsRow_slice own3)
        have hfl : flat [({ d with aa := aa', ac := ac' } : Dev)] ++ flat q = flat (({ d with aa := aa', ac := ac' } : Dev) :: q) := rfl
        have hll : 1 + q.length = (({ d with aa := aa', ac := ac' } : Dev) :: q).length := by simp; omega
        rw [hfl, hll] at own3
        obtain ⟨a3, c3, hv3, hD3, hfr3⟩ := Devs.of_own own3
        have hg3 : Fr (From W1.heap.size) _ w3 := (Fr.of_grown gr3).mono (fun b _ e => by have h : w2.heap.size = b := Option.some.inj e; unfold From; omega)
        have hgn := Fr.of_grown gr3
        have Hg3 := Lib.hid hg3
        clear hg3
        rw [← hll] at hv3
        cases hv3
        refine OnlyN.mk ⟨Hg3.out, ?_⟩
        have Hfin : Hid (Devs w3 av' cv' (({ d with aa := aa', ac := ac' } : Dev) :: q) ∧ ((({ d with aa := aa', ac := ac' } : Dev) :: q).map Dev.index = (chain ds n).map Dev.index) ∧ Fr No W1 w3) := by
          refine ⟨hD3, ?_, ((Hf0.out.step hf2 (fun _ _ h => h)).step HB.out.1 (fun _ _ h => h)).step hgn (fun b hb e => by have h : w2.heap.size = b := Option.some.inj e; omega)⟩
          rw [Hch.out, List.map_cons, List.map_cons, hq]
        clear hD3 hgn own3 gr3 hfl
        repeat (apply tree_q; exact rfl; exact rfl; exact rfl; intro K hK; go_big_quiet_op; go_big_quiet_on)
        refine tree_end ?_
        go_wp2_with fail
        go_meet
        exact ⟨av', cv', ({ d with aa := aa', ac := ac' } : Dev) :: q, by rw [← hll], by rw [← hll]; congr 1; omega, rfl, Hfin.out.1, Hfin.out.2.1, Hfin.out.2.2⟩
    case rest =>
      obtain ⟨av, cv, q, rfl, rfl, rfl, hD, hq, hf2⟩ := hcut
      have b3c := hf2.heap b3 id
      have hlc := (hl.dv.no hW (fun _ => id)).no hf2 (fun _ => id)
      have hrc := (hr.no hW (fun _ => id)).no hf2 (fun _ => id)
      have hWc := hW.step hf2 (fun _ _ h => h)
      have hqm := hD.lenmax
      have hwf : ∀ x ∈ q, (Lit.int .i64 x.index).wf = true := fun x hx => by
        have : x.index ∈ (chain ds n).map Dev.index := by rw [← hq]; exact List.mem_map_of_mem hx
        obtain ⟨y, hy, e⟩ := List.mem_map.1 this
        rw [← e]
        exact hT.iwf (chain_mem hy)
      have Hq := Lib.hid hq
      clear hq hl hr b3 b7 hW hf2 h1 h0 hw3 hw7 Hch Hlk
      go_wp2_with fail
      go_loopw [9, 30] (fun v i wr => ∃ k : Nat, k ≤ q.length ∧ v = .string ⟨#[115, 101, 97, 116, 48]⟩ ∧ i = .int .i64 (k : Int) ∧ Hid (∀ y ∈ (q.map Dev.index).take k, isName (idSeat ds l y) = false) ∧ Fr No wc wr) (fun _ i _ => q.length - (intOf i).toNat)
      case atStart => exact ⟨0, by omega, rfl, rfl, by unfold Hid; simp, Fr.refl _ _⟩
      case round =>
        obtain ⟨k, hk, rfl, rfl, hno, hfr⟩ := hrel
        have c3 : ∀ o, (wr.alloc o).cell? ⟨w.heap.size, 0, none⟩ = some (.slice a ds.length cap) := fun o => ((Fr.refl No wr).alloc o).cell (cell_of_block (hfr.heap b3c id) 0) id
        by_cases hlt : k < q.length
        · have hlt' : (k : Int) < q.length := by omega
          obtain ⟨bb, off, x, rfl, hxk, y0, y1, y2, y4, y5, y6, y7, y8, y9, y10⟩ := (hD.no hfr (fun _ => id)).dev hlt
          have hxw := hwf x (List.mem_of_getElem? hxk)
          have Hxk := Lib.hid hxk
          have hlr := hlc.no hfr (fun _ => id)
          have hrr := hrc.no hfr (fun _ => id)
          clear hxk
          have hxx : Fr No wr (wr.alloc (.cells x.vals 32)) := (Fr.refl _ _).alloc _
          have Hlr := Lib.hid (hlr.no hxx (fun _ => id))
          have Hrr := Lib.hid (hrr.no hxx (fun _ => id))
          have Hxx := Lib.hid hxx
          clear hlr hrr hxx
          go_wp2_with fail
          refine (seat_find _ ra cap rcap ds l x.index _ Hlr.out hT hn hxw Hrr.out).mono ?_
          rintro e w3 ⟨hF, hf3⟩
          obtain rfl := hF.eq
          have hok := recOf_ok (Hrr.out.no hf3 (fun _ => id)) ds x.index
          have hid : idSeat ds l x.index = getP ((recOf ds l x.index).getD Rec.zero).props keySeat := rfl
          generalize (recOf ds l x.index).isSome = bs at *
          generalize (recOf ds l x.index).getD Rec.zero = r at *
          have hyy : Fr No w3 (w3.alloc (.cells r.vals 42)) := (Fr.refl _ _).alloc _
          have Hok := Lib.hid (hok.no hyy (fun _ => id))
          have Hf3 := Lib.hid ((Hxx.out.step hf3 (fun _ _ h => h)).step hyy (fun _ _ h => h))
          have hsz := getP_le hok.props keySeat
          clear hF hok hyy hf3 y0 y1 y2 y4 y5 y6 y7 y8 y9 y10 c3
          unfold Rec.vals
          go_wp2_with fail
          refine (record_get r keySeat _ Hok.out).mono ?_
          rintro e w4 ⟨rfl, hf4⟩
          have Hid' := Lib.hid hid
          clear hid
          generalize hs0 : getP r.props keySeat = s at *
          have hs : idSeat ds l x.index = s := Hid'.out
          have Hs := Lib.hid hs
          clear hs hs0
          go_wp2_with fail
          refine (name_valid s _ hsz).mono ?_
          rintro e w5 ⟨rfl, hf5⟩
          have Hf5 := Lib.hid (hfr.step ((Hf3.out.step hf4 (fun _ _ h => h)).step hf5 (fun _ _ h => h)) (fun _ _ h => h))
          clear hsz hf4 hf5 Hf3 Hok
          have hmk : (q.map Dev.index)[k]? = some x.index := by rw [List.getElem?_map, Hxk.out]; rfl
          have Hmk := Lib.hid hmk
          clear hmk
          rcases hv : isName s with _ | _
          · have Hv := Lib.hid hv
            clear hv
            go_wp2_with fail
            go_roundw
            case rel =>
              refine ⟨k + 1, by omega, rfl, by go_num, ?_, Hf5.out⟩
              unfold Hid
              intro y hy
              rw [List.take_add_one, Hmk.out] at hy
              rcases List.mem_append.1 hy with h | h
              · exact hno.out y h
              · simp at h; subst h; rw [Hs.out]; exact Hv.out
            case measure => simp [intOf]; omega
          · have Hr : Hid (seatOf ds l n = s) := by
              unfold Hid
              rw [H.out, ← Hq.out, seatL_at ds l _ k x.index Hmk.out (by rw [Hs.out]; exact hv) hno.out, Hs.out]
            clear hv
            go_wp2_with fail
            simp +zetaDelta only [Exit.noGoto_ret]
            go_ret
            exact ⟨by rw [Hr.out]; rfl, hWc.step Hf5.out (fun _ _ h => h)⟩
        · obtain rfl : k = q.length := by omega
          have h := hno.out
          rw [List.take_of_length_le (by simp)] at h
          have Hr : Hid (seatOf ds l n = seat0) := by
            unfold Hid
            rw [H.out, ← Hq.out, seatL_no ds l _ h]
          clear h hno
          go_wp2_with fail
          simp +zetaDelta only [Exit.noGoto_ret]
          go_ret
          exact ⟨by rw [Hr.out]; rfl, hWc.step hfr (fun _ _ h => h)⟩
end Go.Proofs.YtpnpjaemlflplaaGreatDoor
