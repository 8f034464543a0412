/- relate.below: what its closure hands out. -/
import Derived.Test.YtanaompgapiikaaGreatDoorP2
import Derived.Test.YtanaompgapiikaaGreatDoorR4
import Derived.Test.YtanaompgapiikaaGreatDoorRI
import Derived.Maps.OwnIn
namespace Go.Proofs.YtanaompgapiikaaGreatDoor
open Go.RowKit Go.Maps Go.Shelf
set_option linter.unusedVariables false
attribute [local go_sem] Oper.semAt_some

/-- The devices that are in a set, or below one that is. -/
def belowL (f : Int → Bool) : List Dev → (Int → Bool) → List Dev
  | [], _ => []
  | d :: t, R => if (f d.index || R d.parent) = true then d :: belowL f t (upd R d.index true) else belowL f t R

theorem belowL_cons (f : Int → Bool) (d : Dev) (t : List Dev) (R : Int → Bool) : belowL f (d :: t) R = if (f d.index || R d.parent) = true then d :: belowL f t (upd R d.index true) else belowL f t R := rfl

set_option maxHeartbeats 1000000 in
theorem r_below (u : Value) (mb : Nat) (w : World) :
    Calls Tryz.prog 110 #[.agg #[u], .map (some mb)] w fun e w' => e = .returned (.func (.func 156) #[] #[.pointer (some ⟨w.heap.size, 0, none⟩), .pointer (some ⟨w.heap.size + 1, 0, none⟩)]) ∧ w' = (w.alloc (.cells #[u] 25)).alloc (.cells #[.map (some mb)] 163) := by
  go_enter Tryz.func110, Tryz.ntmps110
  go_wp2_with fail
  go_ret
  exact ⟨rfl, rfl⟩

/-- What the closure of below reads. -/
structure BelAt (W : World) (a : Option Addr) (cap : Nat) (ds : List Dev) (f : Int → Bool) (N mb Bt Bs : Nat) : Prop where
  devs : Devs W a cap ds
  tree : W.heap[Bt]? = some (.cells #[.slice a ds.length cap] 25)
  set : W.heap[Bs]? = some (.cells #[.map (some mb)] 163)
  iset : ISet W mb f N
theorem BelAt.fr {S : Nat → Prop} {W W' : World} {a : Option Addr} {cap : Nat} {ds : List Dev} {f : Int → Bool} {N mb Bt Bs : Nat} (h : BelAt W a cap ds f N mb Bt Bs) (hf : Fr S W W') (h1 : ∀ ad, a = some ad → ds ≠ [] → ¬ S ad.block) (h2 : ¬ S Bt) (h3 : ¬ S Bs) (h4 : ¬ S mb) : BelAt W' a cap ds f N mb Bt Bs :=
  ⟨h.devs.fr hf h1, hf.heap h.tree h2, hf.heap h.set h3, h.iset.fr hf h4⟩
theorem BelAt.no {W W' : World} {a : Option Addr} {cap : Nat} {ds : List Dev} {f : Int → Bool} {N mb Bt Bs : Nat} (h : BelAt W a cap ds f N mb Bt Bs) (hf : Fr No W W') : BelAt W' a cap ds f N mb Bt Bs := h.fr hf (fun _ _ _ => id) id id id

set_option maxRecDepth 100000 in
set_option maxHeartbeats 2000000 in
theorem below_gives (n : Nat) (hn : 3 ≤ n) (a : Option Addr) (cap : Nat) (ds : List Dev) (f : Int → Bool) (N mb Bt Bs : Nat) (V : Nat → Prop) (w : World) (hT : TreeOk ds) (hU : BelAt w a cap ds f N mb Bt Bs) (hdl : ds.length ≤ 1000000)
    (hVl : ∀ b, V b → b < w.heap.size) (hV : ¬ V Bt ∧ ¬ V Bs ∧ ¬ V mb ∧ ∀ ad, a = some ad → ds ≠ [] → ¬ V ad.block) :
    GivesF Fence.wide n Tryz.prog 156 #[.pointer (some ⟨Bt, 0, none⟩), .pointer (some ⟨Bs, 0, none⟩)] (fun d : Dev => #[.agg d.vals]) V (belowL f ds (fun _ => false)) w := by
  intro l J W hfr hl1 hl2 hJ hY h0
  have hmm := @run_makeMap Tryz.prog
  have hbt : Bt < w.heap.size := lt_of_block hU.tree
  have hbs : Bs < w.heap.size := lt_of_block hU.set
  have hmb : mb < w.heap.size := hU.iset.lt
  have hbd : ∀ ad, a = some ad → ds ≠ [] → ad.block < w.heap.size := fun ad e hne => (hU.devs.cell ad e hne).2.1
  have hsz := hfr.size
  have hm := hU.devs.lenmax
  have h1n : 1 ≤ n := by omega
  have hfF : Fence.wide.fn 112 := trivial
  have hx : Fr No W (W.alloc (.map #[] 0)) := (Fr.refl _ _).alloc _
  have hI0 := rset_made W
  have hs0 : (W.alloc (.map #[] 0)).heap.size = W.heap.size + 1 := by simp
  have hU0 := (hU.no hfr).no hx
  have hJ0 := hJ _ _ _ _ h0 hx (fun _ h => h.elim)
  have cv : (W.alloc (.map #[] 0)).cell? ⟨Bt, 0, none⟩ = some (.slice a ds.length cap) := cell_of_block hU0.tree 0
  show CallsIn Fence.wide n Tryz.prog 156 #[.func (.yield l) #[] #[], .pointer (some ⟨Bt, 0, none⟩), .pointer (some ⟨Bs, 0, none⟩)] W _
  refine callsIn_of_wp Tryz.func156 rfl trivial ?_ rfl
  simp only [Tryz.ntmps156, List.size_toArray, List.length_cons, List.length_nil, Nat.reduceAdd, Nat.reduceSub, Array.replicate_succ, Array.replicate_zero, List.push_toArray, List.append_toArray, List.nil_append, List.cons_append]
  gi_wp2
  clear cv hmm
  generalize W.alloc (.map #[] 0) = W0 at *
  gi_loopw [11] (fun i wr => ∃ (k : Nat) (pre : List Dev) (R : Int → Bool), k ≤ ds.length ∧ i = .int .i64 (k : Int) ∧ Hid (belowL f ds (fun _ => false) = pre ++ belowL f (ds.drop k) R) ∧ ISet wr W.heap.size R k ∧ BelAt wr a cap ds f N mb Bt Bs ∧ J pre wr ∧ W0.heap.size ≤ wr.heap.size) (fun i _ => ds.length - (intOf i).toNat)
  case atStart => exact ⟨0, [], fun _ => false, by omega, rfl, by unfold Hid; simp, hI0, hU0, hJ0, Nat.le_refl _⟩
  case round =>
    obtain ⟨k, pre, R, hk, rfl, HC, hIr, hUr, hJr, hsr⟩ := hrel
    by_cases hlt : k < ds.length
    · have hlt' : (k : Int) < ds.length := by omega
      obtain ⟨db, off, x, hax, hxk, y0, y1, y2, y3, y4, y5, y6, y7, y8, y9⟩ := hUr.devs.dev hlt
      subst hax
      have hxm := List.mem_of_getElem? hxk
      have hxw := hT.iwf hxm
      have hpw := hT.pwf hxm
      have hdrop : ds.drop k = x :: ds.drop (k + 1) := by
        have e : ds[k] = x := by rw [List.getElem?_eq_getElem hlt] at hxk; exact Option.some.inj hxk
        rw [List.drop_eq_getElem_cons hlt, e]
      have hC := HC.out
      rw [hdrop] at hC
      have HC2 := Lib.hid hC
      have hxx : Fr No wr (wr.alloc (.cells x.vals 36)) := (Fr.refl _ _).alloc _
      have hbx := block_alloc wr (.cells x.vals 36)
      have Hst : Hid (∀ w1, Fr No (wr.alloc (.cells x.vals 36)) w1 → J pre w1 ∧ ISet w1 W.heap.size R k ∧ BelAt w1 (some ⟨db, off, none⟩) cap ds f N mb Bt Bs ∧ w1.heap[wr.heap.size]? = some (.cells x.vals 36) ∧ wr.heap.size < w1.heap.size) := fun w1 h1 =>
        ⟨hJ _ _ _ _ hJr (hxx.step h1 (fun _ _ h => h)) (fun _ h => h.elim), (hIr.fr hxx id).fr h1 id, (hUr.no hxx).no h1, h1.heap hbx id, lt_of_block (h1.heap hbx id)⟩
      have HU1 := Lib.hid (hUr.no hxx)
      have HI1 := Lib.hid (hIr.fr hxx id)
      clear hxk hxm hdrop hC hxx hbx
      have hkx := keyOf_int_mk Tryz.underlying3 hxw
      have nVr : ¬ V W.heap.size := fun h => by have := hVl _ h; omega
      have s0 : (wr.alloc (.cells x.vals 36)).cell? ⟨Bs, 0, none⟩ = some (.map (some mb)) := cell_of_block HU1.out.set 0
      unfold Dev.vals at s0
      rcases hfx : f x.index with _ | _
      · rcases hRx : R x.parent with _ | _
        · have HC3 : Hid (belowL f ds (fun _ => false) = pre ++ belowL f (ds.drop (k + 1)) R) := by
            unfold Hid; rw [HC2.out, belowL_cons, if_neg (by rw [hfx, hRx]; simp)]
          gi_wp2_with (first
            | (gi_at_call 112; refine (callsIn_wide.2 (rset_has W.heap.size R k x.parent _ (Hst.out _ hfc).2.1 hpw)).mono ?_; rintro e w2 ⟨rfl, hf2⟩; rw [hRx]; replace hfc := hfc.step hf2 (fun _ _ h => h); have z0 : w2.cell? ⟨wr.heap.size, 0, none⟩ = some (.int .i64 x.index) := cell_of_block (Hst.out _ hfc).2.2.2.1 0; have z1 : w2.cell? ⟨wr.heap.size, 1, none⟩ = some (.int .i64 x.parent) := cell_of_block (Hst.out _ hfc).2.2.2.1 1)
            | (gi_at_call 112; refine (callsIn_wide.2 (rset_has mb f N x.index _ HU1.out.iset hxw)).mono ?_; rintro e w1 ⟨rfl, hfc⟩; rw [hfx]; have z0 : w1.cell? ⟨wr.heap.size, 0, none⟩ = some (.int .i64 x.index) := cell_of_block (Hst.out _ hfc).2.2.2.1 0; have z1 : w1.cell? ⟨wr.heap.size, 1, none⟩ = some (.int .i64 x.parent) := cell_of_block (Hst.out _ hfc).2.2.2.1 1))
          have H1 := (Hst.out _ hfc)
          have hs5 := hfc.size
          have HF := Lib.hid (And.intro H1.2.2.1 (And.intro H1.1 (And.intro H1.2.1 (show W0.heap.size ≤ w2.heap.size by rw [World.size_alloc] at hs5; omega))))
          clear H1 hs5 hfc
          gi_wp2
          go_roundw
          case rel => exact ⟨k + 1, pre, R, by omega, by go_num, HC3.out, by obtain ⟨D, nn, h1, h2⟩ := HF.out.2.2.1; exact ⟨D, nn, by omega, h2⟩, HF.out.1, HF.out.2.1, HF.out.2.2.2⟩
          case measure => simp [intOf]; omega
        · have HC3 : Hid (belowL f ds (fun _ => false) = (pre ++ [x]) ++ belowL f (ds.drop (k + 1)) (upd R x.index true)) := by
            unfold Hid; rw [HC2.out, belowL_cons, if_pos (by rw [hRx]; simp), List.append_assoc]; rfl
          gi_wp2_with (first
            | (gi_at_call 112; refine (callsIn_wide.2 (rset_has W.heap.size R k x.parent _ (Hst.out _ hfc).2.1 hpw)).mono ?_; rintro e w2 ⟨rfl, hf2⟩; rw [hRx]; replace hfc := hfc.step hf2 (fun _ _ h => h); have z0 : w2.cell? ⟨wr.heap.size, 0, none⟩ = some (.int .i64 x.index) := cell_of_block (Hst.out _ hfc).2.2.2.1 0; have z1 : w2.cell? ⟨wr.heap.size, 1, none⟩ = some (.int .i64 x.parent) := cell_of_block (Hst.out _ hfc).2.2.2.1 1)
            | (gi_at_call 112; refine (callsIn_wide.2 (rset_has mb f N x.index _ HU1.out.iset hxw)).mono ?_; rintro e w1 ⟨rfl, hfc⟩; rw [hfx]; have z0 : w1.cell? ⟨wr.heap.size, 0, none⟩ = some (.int .i64 x.index) := cell_of_block (Hst.out _ hfc).2.2.2.1 0; have z1 : w1.cell? ⟨wr.heap.size, 1, none⟩ = some (.int .i64 x.parent) := cell_of_block (Hst.out _ hfc).2.2.2.1 1)
            | (gi_at_mapUpdate; obtain ⟨D, nn, hnn, ho0, hh0⟩ := (Hst.out _ hfc).2.1; have Hh0 := Lib.hid hh0; clear hh0; refine wpListIn_mapUpdate_own _ rfl _ _ _ 163 rfl 3 121 lawI Tryz.underlying163 _ W.heap.size nn D rfl ho0 (by unfold maxLen; omega) _ _ _ rfl rfl hkx _ [] unitElem_mk ?_; intro w3 hown3 hgrow3; have HB := Lib.hid (And.intro (Fr.of_grown_some hgrow3) (ISet.put hnn ho0 Hh0.out x.index hown3)); obtain ⟨fn, tmps, assign, body, hy, hR⟩ := hY pre x w3 (hJ _ _ _ _ (Hst.out _ hfc).1 HB.out.1 (fun b hb => by unfold Is at hb; subst hb; exact ⟨nVr, Nat.le_refl _⟩)) ⟨belowL f (ds.drop (k + 1)) (upd R x.index true), HC3.out.symm⟩ (by have := HB.out.1.size; have := hfc.size; simp at this; omega); have hp3 := HB.out.1.heap (Hst.out _ hfc).2.2.2.1 (fun e => by unfold Is at e; omega); have z0 : w3.cell? ⟨wr.heap.size, 0, none⟩ = some (.int .i64 x.index) := cell_of_block hp3 0; have z1 : w3.cell? ⟨wr.heap.size, 1, none⟩ = some (.int .i64 x.parent) := cell_of_block hp3 1; have z2 : w3.cell? ⟨wr.heap.size, 2, none⟩ = some (.string x.name) := cell_of_block hp3 2; have z3 : w3.cell? ⟨wr.heap.size, 3, none⟩ = some (.string x.orig) := cell_of_block hp3 3; have z4 : w3.cell? ⟨wr.heap.size, 4, none⟩ = some (.string x.sub) := cell_of_block hp3 4; have z5 : w3.cell? ⟨wr.heap.size, 5, none⟩ = some (.string x.drv) := cell_of_block hp3 5; have z6 : w3.cell? ⟨wr.heap.size, 6, none⟩ = some (.string x.ali) := cell_of_block hp3 6; have z7 : w3.cell? ⟨wr.heap.size, 7, none⟩ = some (.int .i64 x.kind) := cell_of_block hp3 7; have z8 : w3.cell? ⟨wr.heap.size, 8, none⟩ = some (.int .i64 x.num) := cell_of_block hp3 8; have z9 : w3.cell? ⟨wr.heap.size, 9, none⟩ = some (.slice x.aa x.an x.ac) := cell_of_block hp3 9; unfold Dev.vals at hy; clear hp3 hown3 hgrow3 ho0))
          refine hR.mono ?_
          rintro e W3 ⟨rfl, hJ3, hf3⟩
          have n3 : ∀ b, b < w.heap.size → ¬ V b → ¬ (V b ∨ b = l) := fun b h1 h2 h => h.elim h2 (fun e => by omega)
          have hU3 := (((Hst.out _ hfc).2.2.1.fr HB.out.1 (fun ad e hne => fun h => by unfold Is at h; have := hbd ad e hne; omega) (fun h => by unfold Is at h; omega) (fun h => by unfold Is at h; omega) (fun h => by unfold Is at h; omega)).fr hf3 (fun ad e hne => n3 _ (hbd ad e hne) (hV.2.2.2 ad e hne)) (n3 _ hbt hV.1) (n3 _ hbs hV.2.1) (n3 _ hmb hV.2.2.1))
          have hI3 := HB.out.2.fr hf3 (fun h => h.elim nVr (fun e => by omega))
          have hs3 := hf3.size
          have hs4 := HB.out.1.size
          have hs5 := hfc.size
          have HF := Lib.hid (And.intro hU3 (And.intro hJ3 (And.intro hI3 (show W0.heap.size ≤ W3.heap.size by rw [World.size_alloc] at hs5; omega))))
          clear hU3 hJ3 hI3 hf3 hs3 hs4 hs5 hfc z0 z1 z2 z3 z4 z5 z6 z7 z8 z9
          gi_wp2
          go_roundw
          case rel => exact ⟨k + 1, pre ++ [x], upd R x.index true, by omega, by go_num, HC3.out, HF.out.2.2.1, HF.out.1, HF.out.2.1, HF.out.2.2.2⟩
          case measure => simp [intOf]; omega
      · have HC3 : Hid (belowL f ds (fun _ => false) = (pre ++ [x]) ++ belowL f (ds.drop (k + 1)) (upd R x.index true)) := by
          unfold Hid; rw [HC2.out, belowL_cons, if_pos (by rw [hfx]; simp), List.append_assoc]; rfl
        gi_wp2_with (first
          | (gi_at_call 112; refine (callsIn_wide.2 (rset_has mb f N x.index _ HU1.out.iset hxw)).mono ?_; rintro e w1 ⟨rfl, hfc⟩; rw [hfx]; have z0 : w1.cell? ⟨wr.heap.size, 0, none⟩ = some (.int .i64 x.index) := cell_of_block (Hst.out _ hfc).2.2.2.1 0; have z1 : w1.cell? ⟨wr.heap.size, 1, none⟩ = some (.int .i64 x.parent) := cell_of_block (Hst.out _ hfc).2.2.2.1 1)
          | (gi_at_mapUpdate; obtain ⟨D, nn, hnn, ho0, hh0⟩ := (Hst.out _ hfc).2.1; have Hh0 := Lib.hid hh0; clear hh0; refine wpListIn_mapUpdate_own _ rfl _ _ _ 163 rfl 3 121 lawI Tryz.underlying163 _ W.heap.size nn D rfl ho0 (by unfold maxLen; omega) _ _ _ rfl rfl hkx _ [] unitElem_mk ?_; intro w3 hown3 hgrow3; have HB := Lib.hid (And.intro (Fr.of_grown_some hgrow3) (ISet.put hnn ho0 Hh0.out x.index hown3)); obtain ⟨fn, tmps, assign, body, hy, hR⟩ := hY pre x w3 (hJ _ _ _ _ (Hst.out _ hfc).1 HB.out.1 (fun b hb => by unfold Is at hb; subst hb; exact ⟨nVr, Nat.le_refl _⟩)) ⟨belowL f (ds.drop (k + 1)) (upd R x.index true), HC3.out.symm⟩ (by have := HB.out.1.size; have := hfc.size; simp at this; omega); have hp3 := HB.out.1.heap (Hst.out _ hfc).2.2.2.1 (fun e => by unfold Is at e; omega); have z0 : w3.cell? ⟨wr.heap.size, 0, none⟩ = some (.int .i64 x.index) := cell_of_block hp3 0; have z1 : w3.cell? ⟨wr.heap.size, 1, none⟩ = some (.int .i64 x.parent) := cell_of_block hp3 1; have z2 : w3.cell? ⟨wr.heap.size, 2, none⟩ = some (.string x.name) := cell_of_block hp3 2; have z3 : w3.cell? ⟨wr.heap.size, 3, none⟩ = some (.string x.orig) := cell_of_block hp3 3; have z4 : w3.cell? ⟨wr.heap.size, 4, none⟩ = some (.string x.sub) := cell_of_block hp3 4; have z5 : w3.cell? ⟨wr.heap.size, 5, none⟩ = some (.string x.drv) := cell_of_block hp3 5; have z6 : w3.cell? ⟨wr.heap.size, 6, none⟩ = some (.string x.ali) := cell_of_block hp3 6; have z7 : w3.cell? ⟨wr.heap.size, 7, none⟩ = some (.int .i64 x.kind) := cell_of_block hp3 7; have z8 : w3.cell? ⟨wr.heap.size, 8, none⟩ = some (.int .i64 x.num) := cell_of_block hp3 8; have z9 : w3.cell? ⟨wr.heap.size, 9, none⟩ = some (.slice x.aa x.an x.ac) := cell_of_block hp3 9; unfold Dev.vals at hy; clear hp3 hown3 hgrow3 ho0))
        refine hR.mono ?_
        rintro e W3 ⟨rfl, hJ3, hf3⟩
        have n3 : ∀ b, b < w.heap.size → ¬ V b → ¬ (V b ∨ b = l) := fun b h1 h2 h => h.elim h2 (fun e => by omega)
        have hU3 := (((Hst.out _ hfc).2.2.1.fr HB.out.1 (fun ad e hne => fun h => by unfold Is at h; have := hbd ad e hne; omega) (fun h => by unfold Is at h; omega) (fun h => by unfold Is at h; omega) (fun h => by unfold Is at h; omega)).fr hf3 (fun ad e hne => n3 _ (hbd ad e hne) (hV.2.2.2 ad e hne)) (n3 _ hbt hV.1) (n3 _ hbs hV.2.1) (n3 _ hmb hV.2.2.1))
        have hI3 := HB.out.2.fr hf3 (fun h => h.elim nVr (fun e => by omega))
        have hs3 := hf3.size
        have hs4 := HB.out.1.size
        have hs5 := hfc.size
        have HF := Lib.hid (And.intro hU3 (And.intro hJ3 (And.intro hI3 (show W0.heap.size ≤ W3.heap.size by rw [World.size_alloc] at hs5; omega))))
        clear hU3 hJ3 hI3 hf3 hs3 hs4 hs5 hfc z0 z1 z2 z3 z4 z5 z6 z7 z8 z9
        gi_wp2
        go_roundw
        case rel => exact ⟨k + 1, pre ++ [x], upd R x.index true, by omega, by go_num, HC3.out, HF.out.2.2.1, HF.out.1, HF.out.2.1, HF.out.2.2.2⟩
        case measure => simp [intOf]; omega
    · obtain rfl : k = ds.length := by omega
      gi_wp2
      go_end0
      have e : belowL f ds (fun _ => false) = pre := by rw [HC.out, List.drop_length]; simp [belowL]
      rw [e]
      exact ⟨⟨_, rfl⟩, hJr⟩
end Go.Proofs.YtanaompgapiikaaGreatDoor
