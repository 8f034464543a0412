/- The law ArrayGrows returns true at every input and leaves its arguments as they were. Conditions: none beyond the given statement's own. -/
import Derived.Test.YtbblkknndaoefaaGreatDoorZA13
import Derived.Test.YtbblkknndaoefaaGreatDoorZA23
import Derived.Test.YtbblkknndaoefaaGreatDoorZA24
import Derived.Test.YtbblkknndaoefaaGreatDoorZA25
import Derived.Test.YtbblkknndaoefaaGreatDoorZA20
import Derived.Test.YtbblkknndaoefaaGreatDoorZA22
import Derived.Test.YtbblkknndaoefaaGreatDoorZA21
import Derived.Test.YtbblkknndaoefaaGreatDoorCards
import Derived.Test.YtbblkknndaoefaaGreatDoorTie
import Derived.WalkKit
import Derived.ProofKit
import Derived.OpenShut
import Derived.ShutString
import Derived.ChangeOld
import Derived.Below
import Derived.LaidMore
import Derived.Lay
import Derived.SevenTiedAt
import Derived.Shelf.Vars
import Derived.Stop.LaidErr
import Derived.MakeChecks
import Derived.SizedLaws
import Derived.Deep.Grids
namespace Go.Proofs.YtbblkknndaoefaaGreatDoor
open Go.RowKit Go.Maps
set_option linter.unusedVariables false

theorem mb_small {L : List Mem} (h : ∀ m ∈ L, MbOk m) (hl : L.length ≤ 100) : MemSmall2 L := by
  refine ⟨by omega, ?_, ?_, ?_, ?_⟩ <;> intro m hm
  · have := (h m hm).p; omega
  · have h1 := (h m hm).i
    have h2 : ∀ x ∈ mbIds, x.size ≤ 1000000 := by decide
    exact h2 _ h1
  · have := (h m hm).n; omega
  · have := (h m hm).s; exact WalkArith.wf_i64 (by omega)
theorem app_small3 {L R : List Mem} {K : List ByteArray} (hL : MemSmall2 L) (hl : L.length ≤ 100) (hR : FewOk R K) (hin : ∀ m ∈ R, MemIn m) : MemSmall2 (L ++ R) := by
  have h2 := hR.n
  refine ⟨by rw [List.length_append]; omega, ?_, ?_, ?_, ?_⟩ <;> intro m hm <;> rcases List.mem_append.1 hm with h | h
  · exact hL.p m h
  · have := (hR.m m h).1; omega
  · exact hL.i m h
  · have := (hR.m m h).2.1; omega
  · exact hL.l m h
  · have := (hR.m m h).2.2; omega
  · exact hL.s m h
  · exact (hin m h).s
theorem small_of3 {L : List Mem} (h : MemSmall2 L) : MemSmall L := ⟨h.len, h.p, h.i, h.l⟩

set_option maxRecDepth 100000 in
set_option maxHeartbeats 8000000 in
theorem agroups_walk (la : Option Addr) (lc : Nat) (l : List Int) (ra : Option Addr) (rc : Nat) (R : List Mem) (w : World) (hl : Ints w la lc l) (hR : Mems w ra rc R) (hin : ∀ m ∈ R, MemIn m) (hE : Env w) :
    Calls Tryz.prog 13 #[.slice la l.length lc, .slice ra R.length rc] w fun e w' => e = .returned (.bool true) ∧ Fr No w w' := by
  obtain ⟨i0, hi0, hz0, hz1, hz2⟩ := info_parts infoM
  have hfew := few32 ra rc R w hR hin
  have hrm := hR.lenmax
  go_enter Tryz.func13, Tryz.ntmps13
  go_wp2_with fail
  refine hfew.mono ?_
  rintro e w1 ⟨⟨b, rfl, hb⟩, hf1⟩
  have hE1 := hE.no hf1
  clear hfew
  cases b with
  | false =>
    go_wp2_with fail
    refine (known32 w1 hE1).mono ?_
    rintro e wf ⟨rfl, hff⟩
    have hfin := hf1.step hff (fun _ _ h => h)
    go_wp2_with fail
    go_ret
    exact ⟨rfl, hfin⟩
  | true =>
    have hok := hb rfl
    have hl1 := hl.no hf1 (fun _ => id)
    have hR1 := hR.no hf1 (fun _ => id)
    have hx : Fr No w1 (w1.alloc (.cells #[.slice la l.length lc, .int .i64 0] 29)) := (Fr.refl _ _).alloc _
    have ht := Tape.make hl1 29
    have hE0 := hE1.no hx
    have hs0 : (w1.alloc (.cells #[.slice la l.length lc, .int .i64 0] 29)).heap.size = w1.heap.size + 1 := by simp
    have hsz := hE1.sz
    obtain ⟨W0, hW0⟩ : ∃ W0, W0 = w1.alloc (.cells #[.slice la l.length lc, .int .i64 0] 29) := ⟨_, rfl⟩
    rw [← hW0] at hx ht hE0 hs0
    have hs0' : w1.heap.size + 1 ≤ W0.heap.size := by omega
    have hpv := made_mbs w1.heap.size w1.heap.size 0 9 W0 ht (by omega) (by omega)
    have Hx := Lib.hid (hf1.step hx (fun _ _ h => h))
    have hxk := hx
    have hs1 := hf1.size
    have HW0 := Lib.hid hW0.symm
    have Hok := Lib.hid hok
    have Hin := Lib.hid hin
    have hrl := hok.n
    clear hs0 hx hE hE1 hf1 hl1 hl hR ht hok hb hin hW0
    go_wp2_with fail
    rw [HW0.out]
    clear HW0
    refine hpv.mono ?_
    rintro e w2 ⟨⟨L, a1, c1, k1, rfl, hL, hLf, hLm, hLo, hLl, hk1, ht1, hown⟩, hf2⟩
    have hE2 := hE0.fr hf2 (fun b hb h => by unfold Is at h; omega)
    have hfx2 : Fr (From w1.heap.size) w1 w2 := (hxk.mono (fun _ _ h => h.elim)).step hf2 (fun b _ h => by unfold Is at h; unfold From; omega)
    have hR2 := hR1.keep hfx2 (fun b hb h => by unfold From at h; omega)
    have hfw2 : Fr No w w2 := Hx.out.trans hf2 (fun _ _ h => h) (fun b hb h => by unfold Is at h; omega)
    have hup := hR2.upto R.length (Nat.le_refl _)
    rw [List.take_length] at hup
    have hs2 := hf2.size
    clear hpv hL hLf hk1 ht1 hf2 hE0 hxk
    have Hown := Lib.hid hown
    go_wp2_with (at_builtin; refine wpList_append_src rfl _ _ 23 rfl W0.heap.size 58 i0 (.agg #[.string ByteArray.empty, .string ByteArray.empty, .int .i64 0, .int .i64 0, .int .i64 0, .int .i64 0, .slice none 0 0]) 7 88 Tryz.underlying23 hi0 hz0 hz1 hz2 rfl (by decide) _ _ _ rfl hown _ R.length _ (mflat R) rfl hup.2 (by rw [mflat_len]) hup.1 (mflat_one _) (by unfold maxLen; omega) (by omega) (by first | omega | (simp; done) | (simp; omega)) ?_; intro v3 w3 own3 gr3; obtain ⟨av, cv, rfl⟩ := ownsRow_slice own3)
    have hg3 : Fr (From W0.heap.size) w2 w3 := (Fr.of_grown gr3).mono (fun b _ h => ownsRow_blk Hown.out h)
    have hR3 := hR1.keep (hfx2.step hg3 (fun b _ h => by unfold From at *; omega)) (fun b hb h => by unfold From at h; omega)
    have hL3 : MFresh w3 W0.heap.size L := MFresh.own hLm Hown.out (Fr.of_grown gr3)
    obtain ⟨Q, hQ⟩ : ∃ Q, Q = L ++ R := ⟨_, rfl⟩
    have hQl : L.length + R.length = Q.length := by rw [hQ, List.length_append]
    have hsmQ : MemSmall2 Q := by rw [hQ]; exact app_small3 (mb_small hLo (by omega)) (by omega) Hok.out Hin.out
    have hSQ : ∀ m ∈ Q, Strs w3 m.a m.c m.l := fun m hm => by
      rw [hQ] at hm
      rcases List.mem_append.1 hm with h | h
      · exact (hL3 m h).1
      · exact hR3.ok m h
    have hownQ : w3.ownsRow W0.heap.size 58 7 (.slice av Q.length cv) Q.length (mflat Q) := by rw [← hQl, hQ, mflat_append]; exact own3
    obtain ⟨a6, c6, e6, hM3, _⟩ := Mems.of_own hownQ hSQ
    cases e6
    have hfw3 : Fr No w w3 := hfw2.trans hg3 (fun _ _ h => h) (fun b hb h => by unfold From at h; omega)
    have hE3 := hE2.fr hg3 (fun b hb h => by unfold From at h; omega)
    obtain ⟨m0, hm3⟩ := hE3.len
    have hs3 := hg3.size
    clear hg3 hR3 hL3 hSQ hownQ own3 gr3 hup hfx2 hR2 hR1 hfw2 hE2 hLm hown Hown hQ
    rw [hQl]
    clear hQl
    have hvg := a_group av cv Q m0 w3 hM3 hsmQ hm3 (by omega)
    go_wp2_with fail
    refine hvg.mono ?_
    rintro e w4 ⟨⟨oa, oc, O, ids, rfl, hO, _, _, hids, hOe, _, _⟩, hf4⟩
    have HOe := Lib.hid hOe
    have Hids := Lib.hid hids
    have hM4 := hM3.no hf4 (fun _ => id)
    have hm4 := hf4.cell hm3 id
    have hE4 := hE3.no hf4
    have hs4 := hf4.size
    have hfw4 := hfw3.step hf4 (fun _ _ h => h)
    clear hvg hf4 hOe hids hM3 hm3 hE3 hfw3
    have hrg := ref_group32 av cv Q m0 w4 hM4 (small_of3 hsmQ) hm4 (by omega)
    go_wp2_with fail
    refine hrg.mono ?_
    rintro e w5 ⟨⟨pa, pc, P, rfl, hP, hPe⟩, hf5⟩
    have hOP : O.map ArrM.toArr = P.map ArrM.toArr := by rw [HOe.out, hPe, Hids.out.unique (ids34 Q)]
    have hO5 := hO.no hf5 (fun _ => id)
    have hE5 := hE4.no hf5
    have hs5 := hf5.size
    have hfw5 := hfw4.step hf5 (fun _ _ h => h)
    have hsa := same_arrays_eq oa pa oc pc O P w5 hO5 hP hOP
    have HPe := Lib.hid hPe
    clear hrg hf5 hPe hM4 hm4 hE4 hfw4 hO hOP hO5
    go_wp2_with fail
    refine hsa.mono ?_
    rintro e w6 ⟨rfl, hf6⟩
    have hP6 := hP.no hf6 (fun _ => id)
    have hE6 := hE5.no hf6
    have hfw6 := hfw5.step hf6 (fun _ _ h => h)
    have hpm := hP6.lenmax
    clear hsa hf6 hP hP6 hE5 hfw5 HOe Hids hpm
    have hk := known32 w6 hE6
    go_wp2_with fail
    refine hk.mono ?_
    rintro e w7 ⟨rfl, hf7⟩
    have hfin := hfw6.step hf7 (fun _ _ h => h)
    clear hk hf7 hfw6 hE6
    go_wp2_with fail
    go_ret
    exact ⟨rfl, hfin⟩
end Go.Proofs.YtbblkknndaoefaaGreatDoor
namespace Go.Proofs.YtbblkknndaoefaaGreatDoor
open Go.RowKit Go.Maps
set_option linter.unusedVariables false

theorem cells_at {W : World} {b : Nat} {xs : Array Value} {T : TypeId} {fz : Nat × Nat} (q : W.heap[b]? = some (.cells xs T fz)) : ∀ j u, xs.toList[j]? = some u → W.cell? ((⟨b, 0, none⟩ : Addr).add j) = some u := by
  intro j u hj
  rw [Addr.add_lit, cell_of_block q]
  simpa using hj
theorem arrs_id {good : Mem → Bool} {L : List Mem} {ids : List ByteArray} {O : List ArrM} (h : MemSmall2 L) (hids : IsIds2 (best2 good L) ids) (hO : O.map ArrM.toArr = ids.map (buildA (best2 good L))) : ∀ m ∈ O, m.i.size ≤ 1000000 := fun m hm => by
  have h1 : m.toArr ∈ O.map ArrM.toArr := List.mem_map_of_mem hm
  rw [hO, List.mem_map] at h1
  obtain ⟨x, hx, he⟩ := h1
  obtain ⟨s, hs⟩ := (hids.mem x).1 hx
  obtain ⟨o, ho⟩ := Option.isSome_iff_exists.1 hs
  obtain ⟨h2, _, h3⟩ := best2_mem L _ o ho
  simp only [Prod.mk.injEq] at h3
  have h4 : m.i = o.i := by rw [h3.1, ← he]; rfl
  rw [h4]
  exact h.i o h2

end Go.Proofs.YtbblkknndaoefaaGreatDoor
namespace Go.Proofs.YtbblkknndaoefaaGreatDoor
open Go.RowKit Go.Maps
set_option linter.unusedVariables false

theorem later_ahead {x o : Mem} (hx : x.r = 9) (ho : o.r ≤ 2) : ahead x o = false := by
  unfold ahead aheadB
  rw [hx]
  have h1 : cmpI 9 o.r = 1 := by unfold cmpI; rw [if_neg (by omega), if_pos (by omega)]
  rw [h1]
  rfl
theorem later_same {good : Mem → Bool} {L : List Mem} {x o : Mem} (hr : ∀ m ∈ L, m.r ≤ 2) (hx : x.r = 9) (h : best2 good L (x.i, x.s) = some o) : best2 good (L ++ [x]) = best2 good L := by
  rw [best2_snoc]
  exact best2S_keep h (later_ahead hx (hr o (best2_mem L _ o h).1))
theorem later_some {good : Mem → Bool} (L : List Mem) (x : Mem) (p : ByteArray × Int) (h : (best2 good L p).isSome = true) : (best2 good (L ++ [x]) p).isSome = true := by
  rw [best2_snoc]
  rcases best2S_cases (good := good) (best2 good L) x p with ⟨h1, _⟩ | ⟨h1, _⟩
  · rw [h1]; rfl
  · rw [h1]; exact h
theorem nodup_len {α : Type} [BEq α] [LawfulBEq α] : ∀ {l l' : List α}, l.Nodup → (∀ x ∈ l, x ∈ l') → l.length ≤ l'.length
  | [], _, _, _ => by simp
  | x :: r, l', h, hs => by
    have h1 := List.nodup_cons.1 h
    have hm := hs x (by simp)
    have h2 := nodup_len (l := r) (l' := l'.erase x) h1.2 (fun y hy => (List.mem_erase_of_ne (fun (e : y = x) => h1.1 (by rw [← e]; exact hy))).2 (hs y (by simp [hy])))
    rw [List.length_erase_of_mem hm] at h2
    have h3 := List.length_pos_of_mem hm
    simp only [List.length_cons]
    omega
theorem asc_nodup {l : List (List UInt8)} (h : AscS l) : l.Nodup := List.Pairwise.imp (fun h => h.2) h
theorem later_len {b b' : ByteArray × Int → Option Mem} {ids ids' : List ByteArray} (h : IsIds2 b ids) (h' : IsIds2 b' ids') (hs : ∀ p, (b p).isSome = true → (b' p).isSome = true) : ids.length ≤ ids'.length := by
  have h1 := nodup_len (l := ids.map kb) (l' := ids'.map kb) (asc_nodup h.asc) (fun x hx => by
    obtain ⟨y, hy, rfl⟩ := List.mem_map.1 hx
    obtain ⟨s, hb⟩ := (h.mem y).1 hy
    exact List.mem_map_of_mem ((h'.mem y).2 ⟨s, hs _ hb⟩))
  simpa using h1
theorem arr_is {b : ByteArray × Int → Option Mem} {O : List ArrM} {ids : List ByteArray} (hO : O.map ArrM.toArr = ids.map (buildA b)) {m : ArrM} (hm : m ∈ O) : m.toArr = buildA b m.i := by
  have h1 : m.toArr ∈ O.map ArrM.toArr := List.mem_map_of_mem hm
  rw [hO, List.mem_map] at h1
  obtain ⟨x, hx, he⟩ := h1
  have h4 : m.i = x := by show m.toArr.i = x; rw [← he]; rfl
  rw [h4, he]
theorem later_eq {L : List Mem} {x : Mem} {O P : List ArrM} {ids ids' : List ByteArray} (hr : ∀ m ∈ L, m.r ≤ 2) (hx : x.r = 9) (hO : O.map ArrM.toArr = ids.map (buildA (best2 soundA L))) (hP : P.map ArrM.toArr = ids'.map (buildA (best2 soundA (L ++ [x]))))
    {A B : ArrM} (hA : A ∈ O) (hB : B ∈ P) (e1 : A.i = x.i) (e2 : B.i = x.i) {k : Nat} (hs : x.s = (k : Int) + 1) {q : ByteArray} (hq : A.ps[k]? = some q) (hne : q.toList.isEmpty = false) : A.toArr = B.toArr := by
  have hA1 := arr_is hO hA
  have hB1 := arr_is hP hB
  rw [e1] at hA1
  rw [e2] at hB1
  have h2 : A.ps = (buildA (best2 soundA L) x.i).ps := by show A.toArr.ps = _; rw [hA1]
  rw [h2] at hq
  unfold buildA at hq
  simp only [List.getElem?_map, Option.map_eq_some_iff] at hq
  obtain ⟨j, hj, he⟩ := hq
  have hjk : j = k := by
    have := List.getElem?_eq_some_iff.1 hj
    obtain ⟨h3, h4⟩ := this
    rw [List.getElem_range] at h4
    exact h4.symm
  subst hjk
  unfold pathAt at he
  rw [← hs] at he
  rcases hb : best2 soundA L (x.i, x.s) with _ | o
  · rw [hb] at he
    subst he
    simp [ByteArray.toList_eq] at hne
  · rw [hA1, hB1, later_same hr hx hb]
theorem later_small {L : List Mem} {y : Mem} (h : ∀ m ∈ L, MbOk m) (hl : L.length ≤ 100) (hy : MbOk y) : MemSmall2 (L ++ [⟨y.p, y.i, 9, y.s, y.t, y.e, y.a, y.l, y.c⟩]) := by
  have h0 := mb_small h hl
  have h1 := mb_small (L := [y]) (fun m hm => by obtain rfl := List.mem_singleton.1 hm; exact hy) (by simp)
  refine ⟨by rw [List.length_append]; simp; omega, ?_, ?_, ?_, ?_⟩ <;> intro m hm <;> rcases List.mem_append.1 hm with h2 | h2
  · exact h0.p m h2
  · obtain rfl := List.mem_singleton.1 h2; exact h1.p y (by simp)
  · exact h0.i m h2
  · obtain rfl := List.mem_singleton.1 h2; exact h1.i y (by simp)
  · exact h0.l m h2
  · obtain rfl := List.mem_singleton.1 h2; exact h1.l y (by simp)
  · exact h0.s m h2
  · obtain rfl := List.mem_singleton.1 h2; exact h1.s y (by simp)
end Go.Proofs.YtbblkknndaoefaaGreatDoor
namespace Go.Proofs.YtbblkknndaoefaaGreatDoor
open Go.RowKit Go.Maps
set_option linter.unusedVariables false

structure Bools (w : World) (a : Option Addr) (cap : Nat) (l : List Bool) : Prop where
  len : l.length ≤ cap
  max : cap ≤ maxLen
  isNil : a = none → l = [] ∧ cap = 0
  cell : ∀ ad, a = some ad → l ≠ [] → ad.spot = none ∧ ad.block < w.heap.size ∧ ∀ i x, l[i]? = some x → w.cell? ⟨ad.block, ad.off + i, none⟩ = some (.bool x)
theorem Bools.at {w : World} {a : Option Addr} {cap : Nat} {l : List Bool} (h : Bools w a cap l) {k : Nat} (hk : k < l.length) :
    ∃ b off x, a = some ⟨b, off, none⟩ ∧ l[k]? = some x ∧ w.cell? ⟨b, off + k, none⟩ = some (.bool x) := by
  cases a with
  | none => have := (h.isNil rfl).1; subst this; simp at hk
  | some ad =>
    obtain ⟨h1, h2, h3⟩ := h.cell ad rfl (fun e => by subst e; simp at hk)
    obtain ⟨b, off, sp⟩ := ad
    simp at h1
    subst h1
    exact ⟨b, off, l[k], rfl, List.getElem?_eq_getElem hk, h3 k _ (List.getElem?_eq_getElem hk)⟩
theorem Bools.lenmax {w : World} {a : Option Addr} {cap : Nat} {l : List Bool} (h : Bools w a cap l) : l.length ≤ 9223372036854775807 := by
  have h1 := h.len; have h2 := h.max; unfold maxLen at h2; omega
theorem Bools.no {S : Nat → Prop} {w w' : World} {a : Option Addr} {cap : Nat} {l : List Bool} (h : Bools w a cap l) (hf : Fr S w w') (hS : ∀ k, ¬ S k) : Bools w' a cap l :=
  ⟨h.len, h.max, h.isNil, fun ad e hne => by
    obtain ⟨h1, h2, h3⟩ := h.cell ad e hne
    exact ⟨h1, Nat.lt_of_lt_of_le h2 hf.size, fun i x hi => hf.cell (h3 i x hi) (hS _)⟩⟩
theorem Bools.nil (w : World) : Bools w none 0 [] := ⟨by simp, by simp, fun _ => ⟨rfl, rfl⟩, fun _ e _ => by cases e⟩
section
variable {H : Type} {enc : TypeId × Value → H} {w : World} {base : Nat} {spare : Nat → Bool} {held : Bool}
set_option maxRecDepth 100000 in
theorem open_bools_raw {fuel : Nat} {cs : List Value} {x : DataW H × List MemPlace} (h : DataW.trod enc Tryz.prog w base spare held fuel 74 cs = some x) :
    ∃ a c L, cs = [.slice a (L : List Bool).length c] ∧ Bools w a c L := by
  rcases Go.Deep.open_slice Tryz.underlying74 h with ⟨rfl, _⟩ | ⟨a, len, cap, m, n, D, Pl, rfl, hb, hl, hm, hmm, rfl, hx⟩
  · exact ⟨none, 0, [], rfl, Bools.nil w⟩
  · have hc : Tryz.prog.cellsOf 4 = 1 := by kernel_rfl
    rw [hc] at hx
    have hlm : len ≤ m := by rw [hmm]; split <;> omega
    have each : ∀ i, i < len → ∃ M : Bool, w.cell? (a.add (i * 1)) = some (.bool M) := fun i hi => by
      obtain ⟨cs', h1, h2⟩ := hx i (by omega)
      obtain ⟨M, rfl, _⟩ := DataW.trod_bool Tryz.underlying4 h2
      obtain ⟨_, _, h3⟩ := World.cells?_some h1
      refine ⟨M, ?_⟩
      have h4 := h3 0 (by omega)
      rw [show (a.add (i * 1)).add 0 = a.add (i * 1) from by simp [Addr.add]] at h4
      rw [h4]; rfl
    obtain ⟨F, hF⟩ : ∃ F : Nat → Bool, ∀ i, i < len → w.cell? (a.add (i * 1)) = some (.bool (F i)) := by
      refine ⟨fun i => if hi : i < len then Classical.choose (each i hi) else false, fun i hi => ?_⟩
      simp only [hi, dif_pos]
      exact Classical.choose_spec (each i hi)
    have hL : ((List.range len).map F).length = len := by simp
    refine ⟨some a, cap, (List.range len).map F, by rw [hL], ⟨by rw [hL]; exact hl, hm, (fun e => by cases e), fun ad e hne => ?_⟩⟩
    cases e
    have hpos : 0 < len := by rw [← hL]; exact List.length_pos_iff.2 hne
    have h0' := hF 0 hpos
    have hsp : a.spot = none := by simpa [Addr.add] using World.cell?_spot h0'
    have hbl := lt_of_cell h0'
    obtain ⟨b, off, sp⟩ := a
    simp at hsp
    subst hsp
    rw [Addr.add_lit] at hbl
    refine ⟨rfl, hbl, fun i M hi => ?_⟩
    have hil : i < len := by rw [← hL]; exact (List.getElem?_eq_some_iff.1 hi).1
    have h6 := hF i hil
    rw [List.getElem?_map, List.getElem?_range hil] at hi
    obtain rfl : F i = M := by simpa using hi
    rw [Addr.add_lit, Nat.mul_one] at h6
    exact h6
end
end Go.Proofs.YtbblkknndaoefaaGreatDoor
namespace Go.Proofs.YtbblkknndaoefaaGreatDoor
open Go.RowKit Go.Maps
set_option linter.unusedVariables false

/-- The members of the law: one array, one total, one least. -/
structure GrOk (t e : Int) (m : Mem) : Prop where
  p : m.p.toList.isEmpty = false
  ps : m.p.size ≤ 1000
  i : m.i = rdI
  s : 1 ≤ m.s ∧ m.s ≤ 16
  t : m.t = t
  e : m.e = e
  l : m.l.length = 1
theorem gr_sound {t e : Int} {m : Mem} (ht : 1 ≤ t ∧ t ≤ 16) (h : GrOk t e m) : soundA m = true := by
  unfold soundA soundB
  rw [h.p, h.t]
  simp [h.l, h.s.1, h.s.2, ht.1, ht.2]
theorem gr_small {t e : Int} {L : List Mem} (h : ∀ m ∈ L, GrOk t e m) (hl : L.length ≤ 100) : MemSmall2 L := by
  refine ⟨by omega, ?_, ?_, ?_, ?_⟩ <;> intro m hm
  · have := (h m hm).ps; omega
  · rw [(h m hm).i]; decide
  · have := (h m hm).l; omega
  · have := (h m hm).s; exact WalkArith.wf_i64 (by omega)
theorem gr_ids {t e : Int} {L : List Mem} (ht : 1 ≤ t ∧ t ≤ 16) (h : ∀ m ∈ L, GrOk t e m) (hne : L ≠ []) {ids : List ByteArray} (hi : IsIds2 (best2 soundA L) ids) : ids = [rdI] := by
  refine hi.unique ⟨by unfold AscS; decide, fun x => ⟨fun hx => ?_, fun ⟨s, hs⟩ => ?_⟩⟩
  · obtain rfl : x = rdI := by simpa using hx
    obtain ⟨m, hm⟩ := List.exists_mem_of_ne_nil L hne
    obtain ⟨o, ho⟩ := best2_some L m hm (gr_sound ht (h m hm))
    exact ⟨m.s, by rw [(h m hm).i] at ho; rw [ho]; rfl⟩
  · obtain ⟨o, ho⟩ := Option.isSome_iff_exists.1 hs
    obtain ⟨h2, _, h3⟩ := best2_mem L _ o ho
    simp only [Prod.mk.injEq] at h3
    rw [← h3.1, (h o h2).i]
    simp
theorem gr_ids_nil {ids : List ByteArray} (hi : IsIds2 (best2 soundA []) ids) : ids = [] := by
  refine hi.unique ⟨by unfold AscS; decide, fun x => ⟨fun hx => by simp at hx, fun ⟨s, hs⟩ => ?_⟩⟩
  simp [best2] at hs
/-- How many slots are filled. -/
def cntB (b : ByteArray × Int → Option Mem) (t : Int) : Nat := ((List.range t.toNat).filter fun (k : Nat) => (b (rdI, (k : Int) + 1)).isSome).length
theorem cntB_le (b : ByteArray × Int → Option Mem) (t : Int) (h : 0 ≤ t) : (cntB b t : Int) ≤ t := by
  have h1 := List.length_filter_le (fun (k : Nat) => (b (rdI, (k : Int) + 1)).isSome) (List.range t.toNat)
  unfold cntB
  rw [List.length_range] at h1
  omega
theorem cntB_mono {b b' : ByteArray × Int → Option Mem} (hs : ∀ p, (b p).isSome = true → (b' p).isSome = true) (t : Int) : cntB b t ≤ cntB b' t := by
  unfold cntB
  rw [← List.countP_eq_length_filter, ← List.countP_eq_length_filter]
  exact List.countP_mono_left (fun k _ h => hs _ h)
theorem gr_first {t e : Int} {L : List Mem} (ht : 1 ≤ t ∧ t ≤ 16) (h : ∀ m ∈ L, GrOk t e m) (hne : L ≠ []) : firstOf (best2 soundA L) rdI ∈ L := by
  obtain ⟨m, hm⟩ := List.exists_mem_of_ne_nil L hne
  obtain ⟨o, ho⟩ := best2_some L m hm (gr_sound ht (h m hm))
  rw [(h m hm).i] at ho
  have hms := (h m hm).s
  unfold firstOf leastSlot
  rcases hf : (List.range 16).find? (fun (k : Nat) => (best2 soundA L (rdI, (k : Int) + 1)).isSome) with _ | k
  · have h1 := List.find?_eq_none.1 hf (m.s - 1).toNat (List.mem_range.2 (by omega))
    rw [show (((m.s - 1).toNat : Nat) : Int) + 1 = m.s from by omega, ho] at h1
    simp at h1
  · have h1 := List.find?_some hf
    simp only [Option.getD_some] at h1 ⊢
    obtain ⟨q, hq⟩ := Option.isSome_iff_exists.1 h1
    rw [hq]
    exact (best2_mem L _ q hq).1
theorem gr_one {t e : Int} {L : List Mem} (ht : 1 ≤ t ∧ t ≤ 16) (h : ∀ m ∈ L, GrOk t e m) (hne : L ≠ []) {ids : List ByteArray} {O : List ArrM} (hi : IsIds2 (best2 soundA L) ids) (hO : O.map ArrM.toArr = ids.map (buildA (best2 soundA L))) :
    ∃ A : ArrM, O = [A] ∧ A.t = t ∧ A.e = e ∧ A.n = (cntB (best2 soundA L) t : Nat) := by
  rw [gr_ids ht h hne hi, List.map_cons, List.map_nil] at hO
  have hg := h _ (gr_first ht h hne)
  rcases O with _ | ⟨A, _ | ⟨_, _⟩⟩
  · cases hO
  · refine ⟨A, rfl, ?_⟩
    simp only [List.map_cons, List.map_nil, List.cons.injEq, and_true] at hO
    have e1 : A.t = (buildA (best2 soundA L) rdI).t := by show A.toArr.t = _; rw [hO]
    have e2 : A.e = (buildA (best2 soundA L) rdI).e := by show A.toArr.e = _; rw [hO]
    have e3 : A.n = (buildA (best2 soundA L) rdI).n := by show A.toArr.n = _; rw [hO]
    refine ⟨by rw [e1]; exact hg.t, by rw [e2]; exact hg.e, ?_⟩
    rw [e3]
    unfold buildA cntB
    simp only
    rw [hg.t]
  · simp at hO
theorem gr_none {ids : List ByteArray} {O : List ArrM} (hi : IsIds2 (best2 soundA []) ids) (hO : O.map ArrM.toArr = ids.map (buildA (best2 soundA []))) : O = [] := by
  rw [gr_ids_nil hi] at hO
  simpa using hO
theorem gr_must {t e n n' : Int} {ex xp : Bool} (h : mustB t e n ex xp = true) (h1 : n ≤ n') (h2 : n' ≤ t) : mustB t e n' ex xp = true := by
  unfold mustB at h ⊢
  simp only [Bool.or_eq_true, Bool.and_eq_true, decide_eq_true_eq] at h ⊢
  rcases h with h | ⟨h, h3⟩
  · left; omega
  · right; exact ⟨by omega, h3⟩
end Go.Proofs.YtbblkknndaoefaaGreatDoor
namespace Go.Proofs.YtbblkknndaoefaaGreatDoor
open Go.RowKit Go.Maps
set_option linter.unusedVariables false

def gD : ByteArray := ⟨#[47, 100]⟩
def gMore : ByteArray := ⟨#[47, 109, 111, 114, 101]⟩
theorem gr_new {t e s : Int} {p : ByteArray} {a : Option Addr} (hp : p.toList.isEmpty = false) (hps : p.size ≤ 1000) (hs : 1 ≤ s ∧ s ≤ 16) : GrOk t e ⟨p, rdI, 0, s, t, e, a, [kFx], 1⟩ := ⟨hp, hps, rfl, hs, rfl, rfl, rfl⟩
theorem gr_path {x : ByteArray} : (gD ++ x).toList.isEmpty = false := by
  rw [ByteArray.toList_eq]
  have : (gD ++ x).data.toList = gD.data.toList ++ x.data.toList := by simp
  rw [this]; rfl
theorem dig_len (n : Nat) (h : n < 100) : ((Lib.decDigits n).toArray).size ≤ 3 := by
  have h1 : (List.range 100).all (fun n => decide ((Lib.decDigits n).length ≤ 3)) = true := by kernel_rfl
  have h2 := List.all_eq_true.1 h1 n (List.mem_range.2 h)
  simpa using h2
/-- Two fresh blocks: a member's texts, and the member. -/
theorem gr_strs (w : World) (xs : Array Value) : Strs ((w.alloc (.cells #[.string kFx] 9)).alloc (.cells xs 58)) (some ⟨w.heap.size, 0, none⟩) 1 [kFx] := by
  have h1 : Strs (w.alloc (.cells #[.string kFx] 9)) (some ⟨w.heap.size, 0, none⟩) 1 [kFx] := Strs.of_block (l := [kFx]) (block_alloc _ _) (by unfold maxLen; simp)
  exact h1.no ((Fr.refl No _).alloc _) (fun _ => id)
theorem gr_blk (w : World) (xs : Array Value) : BlkT ((w.alloc (.cells #[.string kFx] 9)).alloc (.cells xs 58)) (some ⟨w.heap.size, 0, none⟩) 9 := fun ad e => by
  cases e
  exact ⟨_, ((Fr.refl No (w.alloc (.cells #[.string kFx] 9))).alloc (.cells xs 58)).heap (block_alloc w (.cells #[.string kFx] 9)) id⟩

set_option maxRecDepth 100000 in
set_option maxHeartbeats 2000000 in
theorem agrows_walk (pk tot lea : Int) (ba : Option Addr) (bc : Nat) (bl : List Bool) (ex xp : Bool) (w : World) (hw0 : (Lit.int .i64 pk).wf = true) (hw1 : (Lit.int .i64 tot).wf = true) (hw2 : (Lit.int .i64 lea).wf = true) (hB : Bools w ba bc bl) (hE : Env w) :
    Calls Tryz.prog 10 #[.int .i64 pk, .int .i64 tot, .int .i64 lea, .slice ba bl.length bc, .bool ex, .bool xp] w fun e w' => e = .returned (.bool true) ∧ Fr No w w' := by
  obtain ⟨i0, hi0, hz0, hz1, hz2⟩ := info_parts infoM
  have hbm := hB.lenmax
  have hsz := hE.sz
  have hfo := fold_any tot 16 w (by omega) (by omega) hw1
  go_enter Tryz.func10, Tryz.ntmps10
  go_wp2_with fail
  refine hfo.mono ?_
  rintro en w1 ⟨r1, rfl, ha1, hb1, rfl⟩
  clear hfo hw1
  obtain ⟨t, ht⟩ : ∃ t : Int, t = 1 + r1 := ⟨_, rfl⟩
  have ht1 : 1 ≤ t ∧ t ≤ 16 := by omega
  go_upto_region 2 with (fail)
  rw [← ht]
  clear ht ha1 hb1
  have hfo := fold_any lea t w (by omega) (by omega) hw2
  go_wp2_with fail
  refine hfo.mono ?_
  rintro en w1 ⟨r2, rfl, ha2, hb2, rfl⟩
  clear hfo hw2
  obtain ⟨e, he⟩ : ∃ e : Int, e = 1 + r2 := ⟨_, rfl⟩
  have he1 : 1 ≤ e ∧ e ≤ t := by omega
  go_upto_region 3 with (fail)
  rw [← he]
  clear he ha2 hb2
  go_wp2_with fail
  go_loopw [13, 14] (fun v i wr => ∃ (L : List Mem) (av : Option Addr) (cv k : Nat), v = .slice av L.length cv ∧ i = .int .i64 ((k : Int) + 1) ∧ L.length ≤ k ∧ (k : Int) ≤ t ∧ wr.ownsRow w.heap.size 58 7 (.slice av L.length cv) L.length (mflat L) ∧ MFresh wr w.heap.size L ∧ Hid (∀ m ∈ L, GrOk t e m) ∧ Fr No w wr) (fun _ i _ => 17 - (intOf i).toNat)
  case atStart => exact ⟨[], none, 0, 0, rfl, rfl, by simp, by omega, World.ownsRow_nil _ _ _ _, fun m hm => by simp at hm, fun m hm => by simp at hm, Fr.refl _ _⟩
  case round =>
    obtain ⟨L, av, cv, k, rfl, rfl, hLk, hkt, hown, hMF, HL, hfr⟩ := hrel
    have hsr := hfr.size
    by_cases hlt : (k : Int) + 1 ≤ t
    · by_cases hkb : k < bl.length
      · have hkb' : (k : Int) + 1 ≤ bl.length := by omega
        have hkb2 : (k : Int) < bl.length := by omega
        obtain ⟨bb, bo, x, rfl, _, cx⟩ := (hB.no hfr (fun _ => id)).at hkb
        cases x with
        | false =>
          go_wp2_with fail
          go_roundw
          case rel => exact ⟨L, av, cv, k + 1, rfl, by go_num, by omega, by omega, hown, hMF, HL, hfr⟩
          case measure => simp [intOf]; omega
        | true =>
          obtain ⟨I0, hI0⟩ : ∃ I0 : ByteArray, I0 = ⟨(Lib.decDigits (k + 1)).toArray⟩ := ⟨_, rfl⟩
          have hIs : I0.size ≤ 3 := by rw [hI0]; exact dig_len (k + 1) (by omega)
          have hit : Calls Tryz.prog 52 #[.int .i64 ((k : Int) + 1)] wr fun e w' => e = .returned (.string I0) ∧ w' = wr := by
            rw [hI0, show ((k : Int) + 1) = ((k + 1 : Nat) : Int) from by omega]
            exact Tryz.strconv_Itoa_small (k + 1) (by omega) wr
          clear hI0
          go_wp2_with fail
          refine hit.mono ?_
          rintro en w6 ⟨rfl, hw6⟩
          have hw6 := hw6.symm
          subst hw6
          clear hit cx
          have hgd : gD.size = 2 := rfl
          have hps : (gD ++ I0).size ≤ 1000 := by rw [ByteArray.size_append]; omega
          have hps2 : gD.size + I0.size ≤ 5 := by omega
          have Hown := Lib.hid hown
          go_wp2_with (at_builtin; refine wpList_append_own _ rfl _ _ 23 rfl (w.heap.size) 58 i0 (.agg #[.string ByteArray.empty, .string ByteArray.empty, .int .i64 0, .int .i64 0, .int .i64 0, .int .i64 0, .slice none 0 0]) 7 88 Tryz.underlying23 hi0 hz0 hz1 hz2 rfl (by decide) _ _ _ rfl ((hown.alloc _).alloc _) ⟨wr.heap.size + 1, 0, none⟩ 1 1 (Mem.vals (⟨gD ++ I0, rdI, 0, (k : Int) + 1, t, e, some ⟨wr.heap.size, 0, none⟩, [kFx], 1⟩ : Mem)).toList rfl rfl (cells_new _ (Mem.vals (⟨gD ++ I0, rdI, 0, (k : Int) + 1, t, e, some ⟨wr.heap.size, 0, none⟩, [kFx], 1⟩ : Mem)) _ (by simp)) (mvals_one _) (by unfold maxLen; omega) (by omega) (by first | omega | (simp; done) | (simp; omega)) ?_; intro v' w9 hown9 hgrow9 _; obtain ⟨av', cv', rfl⟩ := ownsRow_slice hown9)
          have hal : Fr No wr ((wr.alloc (.cells #[.string kFx] 9)).alloc (.cells #[.string (gD ++ I0), .string rdI, .int .i64 0, .int .i64 ((k : Int) + 1), .int .i64 t, .int .i64 e, .slice (some ⟨wr.heap.size, 0, none⟩) 1 1] 58)) := ((Fr.refl _ _).alloc _).alloc _
          have howa := (Hown.out.alloc (.cells #[.string kFx] 9)).alloc (.cells #[.string (gD ++ I0), .string rdI, .int .i64 0, .int .i64 ((k : Int) + 1), .int .i64 t, .int .i64 e, .slice (some ⟨wr.heap.size, 0, none⟩) 1 1] 58)
          have hgf : Fr (fun b => (Value.slice av L.length cv).ownBlock = some b) ((wr.alloc (.cells #[.string kFx] 9)).alloc (.cells #[.string (gD ++ I0), .string rdI, .int .i64 0, .int .i64 ((k : Int) + 1), .int .i64 t, .int .i64 e, .slice (some ⟨wr.heap.size, 0, none⟩) 1 1] 58)) w9 := Fr.of_grown hgrow9
          have hMF9 : MFresh w9 w.heap.size (L ++ [(⟨gD ++ I0, rdI, 0, (k : Int) + 1, t, e, some ⟨wr.heap.size, 0, none⟩, [kFx], 1⟩ : Mem)]) := MFresh.own (MFresh.snoc (hMF.fr hal (fun _ _ _ => id)) (gr_strs wr _) (gr_blk wr _) (fun ad e => by cases e; exact hsr)) howa hgf
          have hG9 : ∀ m ∈ L ++ [(⟨gD ++ I0, rdI, 0, (k : Int) + 1, t, e, some ⟨wr.heap.size, 0, none⟩, [kFx], 1⟩ : Mem)], GrOk t e m := fun m hm => by
            rcases List.mem_append.1 hm with h | h
            · exact HL.out m h
            · obtain rfl := List.mem_singleton.1 h
              exact gr_new gr_path hps (by omega)
          have hf9 : Fr No w w9 := (hfr.step hal (fun _ _ h => h)).trans hgf (fun _ _ h => h) (fun b hb h => by have := ownsRow_blk howa h; unfold From at this; omega)
          have HF9 := Lib.hid (And.intro hown9 (And.intro hMF9 (And.intro hG9 hf9)))
          clear hown9 hMF9 hG9 hf9 hgf howa hal hgrow9 hown hMF hfr
          go_wp2_with fail
          go_roundw
          case rel => exact ⟨L ++ [(⟨gD ++ I0, rdI, 0, (k : Int) + 1, t, e, some ⟨wr.heap.size, 0, none⟩, [kFx], 1⟩ : Mem)], av', cv', k + 1, by simp, by go_num, by simp; omega, by omega, by rw [List.length_append, mflat_snoc]; exact HF9.out.1, HF9.out.2.1, Lib.hid HF9.out.2.2.1, HF9.out.2.2.2⟩
          case measure => simp [intOf]; omega
      · have hkb' : ¬ (k : Int) + 1 ≤ bl.length := by omega
        go_wp2_with fail
        go_roundw
        case rel => exact ⟨L, av, cv, k + 1, rfl, by go_num, by omega, by omega, hown, hMF, HL, hfr⟩
        case measure => simp [intOf]; omega
    · have hLl : L.length ≤ 16 := by omega
      obtain ⟨a', c', hv, hL, _⟩ := Mems.of_own hown (fun m hm => (hMF m hm).1)
      cases hv
      have hfo := fold_any pk t wr (by omega) (by omega) hw0
      clear hown hMF hB
      go_wp2_with fail
      refine hfo.mono ?_
      rintro en w6 ⟨r3, rfl, ha3, hb3, hw6⟩
      subst hw6
      clear hfo hw0
      obtain ⟨sl, hsl⟩ : ∃ sl : Int, sl = 1 + r3 := ⟨_, rfl⟩
      have hsl1 : 1 ≤ sl ∧ sl ≤ 16 := by omega
      go_upto_region 10 with (fail)
      rw [← hsl]
      clear hsl ha3 hb3
      have hup := hL.upto L.length (Nat.le_refl _)
      rw [List.take_length] at hup
      have hlm := hL.lenmax
      have hgs : gMore.size = 5 := rfl
      go_wp2_with (first | (at_builtin; refine wpList_append_src rfl _ _ 23 rfl (wr.heap.size) 58 i0 (.agg #[.string ByteArray.empty, .string ByteArray.empty, .int .i64 0, .int .i64 0, .int .i64 0, .int .i64 0, .slice none 0 0]) 7 88 Tryz.underlying23 hi0 hz0 hz1 hz2 rfl (by decide) _ 0 [] rfl (World.ownsRow_nil _ _ _ _) _ L.length _ (mflat L) rfl hup.2 (by rw [mflat_len]) hup.1 (mflat_one _) (by unfold maxLen; omega) (by omega) (by first | omega | (simp; done) | (simp; omega)) ?_; intro v5 w5 own1 gr1; simp only [Nat.zero_add, List.nil_append] at own1; obtain ⟨av1, cv1, rfl⟩ := ownsRow_slice own1; have hs5 := (Fr.of_grown_none gr1).size) | (at_builtin; refine wpList_append_own _ rfl _ _ 23 rfl (wr.heap.size) 58 i0 (.agg #[.string ByteArray.empty, .string ByteArray.empty, .int .i64 0, .int .i64 0, .int .i64 0, .int .i64 0, .slice none 0 0]) 7 88 Tryz.underlying23 hi0 hz0 hz1 hz2 rfl (by decide) _ _ _ rfl ((own1.alloc _).alloc _) ⟨w5.heap.size + 1, 0, none⟩ 1 1 (Mem.vals (⟨gMore, rdI, 0, sl, t, e, some ⟨w5.heap.size, 0, none⟩, [kFx], 1⟩ : Mem)).toList rfl rfl (cells_new _ (Mem.vals (⟨gMore, rdI, 0, sl, t, e, some ⟨w5.heap.size, 0, none⟩, [kFx], 1⟩ : Mem)) _ (by simp)) (mvals_one _) (by unfold maxLen; omega) (by omega) (by first | omega | (simp; done) | (simp; omega)) ?_; intro v' w9 hown9 hgrow9 _; obtain ⟨av', cv', rfl⟩ := ownsRow_slice hown9))
      have hf5 : Fr No wr w5 := Fr.of_grown_none gr1
      have hL5 := hL.no hf5 (fun _ => id)
      have hfw5 := hfr.step hf5 (fun _ _ h => h)
      have Hown := Lib.hid own1
      clear gr1 hup hfr
      have hal : Fr No w5 ((w5.alloc (.cells #[.string kFx] 9)).alloc (.cells #[.string gMore, .string rdI, .int .i64 0, .int .i64 sl, .int .i64 t, .int .i64 e, .slice (some ⟨w5.heap.size, 0, none⟩) 1 1] 58)) := ((Fr.refl _ _).alloc _).alloc _
      have howa := (Hown.out.alloc (.cells #[.string kFx] 9)).alloc (.cells #[.string gMore, .string rdI, .int .i64 0, .int .i64 sl, .int .i64 t, .int .i64 e, .slice (some ⟨w5.heap.size, 0, none⟩) 1 1] 58)
      have hgf : Fr (fun b => (Value.slice av1 L.length cv1).ownBlock = some b) ((w5.alloc (.cells #[.string kFx] 9)).alloc (.cells #[.string gMore, .string rdI, .int .i64 0, .int .i64 sl, .int .i64 t, .int .i64 e, .slice (some ⟨w5.heap.size, 0, none⟩) 1 1] 58)) w9 := Fr.of_grown hgrow9
      have hfull : Fr (From wr.heap.size) wr w9 := ((hf5.mono (fun _ _ h => h.elim)).step hal (fun _ _ h => h.elim)).step hgf (fun b _ h => ownsRow_blk howa h)
      have hm1 : MFresh ((w5.alloc (.cells #[.string kFx] 9)).alloc (.cells #[.string gMore, .string rdI, .int .i64 0, .int .i64 sl, .int .i64 t, .int .i64 e, .slice (some ⟨w5.heap.size, 0, none⟩) 1 1] 58)) wr.heap.size [(⟨gMore, rdI, 0, sl, t, e, some ⟨w5.heap.size, 0, none⟩, [kFx], 1⟩ : Mem)] := fun m hm => by
        obtain rfl := List.mem_singleton.1 hm
        exact ⟨gr_strs w5 _, gr_blk w5 _, fun ad e => by cases e; exact hs5⟩
      have hfw9 : Fr No w w9 := (hfw5.step hal (fun _ _ h => h)).trans hgf (fun _ _ h => h) (fun b hb h => by have := ownsRow_blk howa h; unfold From at this; omega)
      have hLk : Mems w9 av cv L := hL.keep hfull (fun b hb h => by unfold From at h; omega)
      have hSx : Strs w9 (some ⟨w5.heap.size, 0, none⟩) 1 [kFx] := (hm1.own howa hgf (⟨gMore, rdI, 0, sl, t, e, some ⟨w5.heap.size, 0, none⟩, [kFx], 1⟩ : Mem) (List.mem_singleton.2 rfl)).1
      have hSQ : ∀ m ∈ L ++ [(⟨gMore, rdI, 0, sl, t, e, some ⟨w5.heap.size, 0, none⟩, [kFx], 1⟩ : Mem)], Strs w9 m.a m.c m.l := fun m hm => by
        rcases List.mem_append.1 hm with h | h
        · exact hLk.ok m h
        · obtain rfl := List.mem_singleton.1 h
          exact hSx
      have hG9 : ∀ m ∈ L ++ [(⟨gMore, rdI, 0, sl, t, e, some ⟨w5.heap.size, 0, none⟩, [kFx], 1⟩ : Mem)], GrOk t e m := fun m hm => by
        rcases List.mem_append.1 hm with h | h
        · exact HL.out m h
        · obtain rfl := List.mem_singleton.1 h
          exact gr_new (by rw [ByteArray.toList_eq]; rfl) (by omega) hsl1
      have hownQ : w9.ownsRow wr.heap.size 58 7 (.slice av' (L ++ [(⟨gMore, rdI, 0, sl, t, e, some ⟨w5.heap.size, 0, none⟩, [kFx], 1⟩ : Mem)]).length cv') (L ++ [(⟨gMore, rdI, 0, sl, t, e, some ⟨w5.heap.size, 0, none⟩, [kFx], 1⟩ : Mem)]).length (mflat (L ++ [(⟨gMore, rdI, 0, sl, t, e, some ⟨w5.heap.size, 0, none⟩, [kFx], 1⟩ : Mem)])) := by rw [List.length_append, mflat_snoc]; exact hown9
      obtain ⟨a6, c6, e6, hM9, _⟩ := Mems.of_own hownQ hSQ
      cases e6
      have hE9 := hE.no hfw9
      obtain ⟨m0, hm0⟩ := hE9.len
      have hsE := hE9.sz
      have hmono : Hid (∀ p, (best2 soundA L p).isSome = true → (best2 soundA (L ++ [(⟨gMore, rdI, 0, sl, t, e, some ⟨w5.heap.size, 0, none⟩, [kFx], 1⟩ : Mem)]) p).isSome = true) := fun p => later_some L (⟨gMore, rdI, 0, sl, t, e, some ⟨w5.heap.size, 0, none⟩, [kFx], 1⟩ : Mem) p
      obtain ⟨Q, hQ⟩ : ∃ Q, Q = L ++ [(⟨gMore, rdI, 0, sl, t, e, some ⟨w5.heap.size, 0, none⟩, [kFx], 1⟩ : Mem)] := ⟨_, rfl⟩
      have hQl : L.length + 1 = Q.length := by rw [hQ]; simp
      have hQne : Q ≠ [] := by rw [hQ]; simp
      rw [← hQ] at hM9 hG9 hmono
      have HG9 := Lib.hid hG9
      rw [hQl]
      clear hown9 hgrow9 hgf howa hal hownQ hSQ hSx hL5 hL hf5 hfw5 own1 Hown hE hG9 hQ hfull hm1
      have hga := a_group av cv L m0 w9 hLk (gr_small HL.out (by omega)) hm0 (by omega)
      go_wp2_with fail
      refine hga.mono ?_
      rintro en w10 ⟨⟨oa, oc, O, ids, rfl, hO, _, _, hids, hOe, hOl, _⟩, hf10⟩
      have hM10 := hM9.no hf10 (fun _ => id)
      have hm10 := hf10.cell hm0 id
      have hs10 := hf10.size
      have hE10 := hE9.no hf10
      have hfw10 := hfw9.step hf10 (fun _ _ h => h)
      have HO := Lib.hid (And.intro hids hOe)
      clear hga hf10 hM9 hm0 hLk hE9 hfw9 hids hOe hOl
      have hgb := a_group av' cv' Q m0 w10 hM10 (gr_small HG9.out (by omega)) hm10 (by omega)
      go_wp2_with fail
      refine hgb.mono ?_
      rintro en w11 ⟨⟨pa, pc, P, ids2, rfl, hP, _, _, hids2, hPe, hPl, _⟩, hf11⟩
      obtain ⟨B, rfl, hBt, hBe, hBn⟩ := gr_one ht1 HG9.out hQne hids2 hPe
      have hO11 := hO.no hf11 (fun _ => id)
      have hE11 := hE10.no hf11
      have hfw11 := hfw10.step hf11 (fun _ _ h => h)
      have hBle := cntB_le (best2 soundA Q) t (by omega)
      rw [← hBn] at hBle
      obtain ⟨⟨bi, bps, bt, be, bn, bll⟩, qa, qc, ia, ic⟩ := B
      simp only at hBt hBe hBn hBle
      have HBn := Lib.hid hBn
      clear hBn
      subst hBt hBe
      obtain ⟨rb, ro, B', rfl, hB', _, ⟨d0, d1, d2, d3, d4, d5⟩, _⟩ := hP.elem (k := 0) (by simp)
      obtain rfl : (⟨⟨bi, bps, bt, be, bn, bll⟩, qa, qc, ia, ic⟩ : ArrM) = B' := by simpa using hB'
      simp only [Nat.zero_mul, Nat.add_zero] at d0 d1 d2 d3 d4 d5
      clear hgb hM10 hm10 hO hE10 hfw10 hids2 hPe hPl hP hB'
      by_cases hLn : L = []
      · subst hLn
        obtain rfl := gr_none HO.out.1 HO.out.2
        clear HO hmono
        have hfwx := hfw11
        have hEx := hE11
        clear hfw11 hE11 hO11 HL hf11
        by_cases hn : bn = bt
        · have hn' : (bn == bt) = true := by simp [hn]
          have hmc := a_must bi bt be bn qa bps.length qc ia ic bll ex xp w11
          rw [show mustB bt be bn ex xp = true from by unfold mustB; simp [hn]] at hmc
          try clear hn
          go_wp2_with fail
          refine hmc.mono ?_
          rintro en w21 ⟨rfl, hf21⟩
          have hk := known32 w21 (hEx.no hf21)
          have hfz := hfwx.step hf21 (fun _ _ h => h)
          clear hmc hf21 hfwx hEx d0 d1 d2 d3 d4 d5
          go_wp2_with fail
          refine hk.mono ?_
          rintro en w22 ⟨rfl, hf22⟩
          have hfin := hfz.step hf22 (fun _ _ h => h)
          clear hk hf22 hfz
          go_wp2_with fail
          go_ret
          exact ⟨rfl, hfin⟩
        · have hn' : (bn == bt) = false := by simp [hn]
          by_cases hge : be ≤ bn
          · have hge2 : ¬ bn < be := by omega
            cases ex with
            | true =>
              have hmc := a_must bi bt be bn qa bps.length qc ia ic bll true xp w11
              rw [show mustB bt be bn true xp = true from by unfold mustB; simp [hn, hge]] at hmc
              try clear hn
              go_wp2_with fail
              refine hmc.mono ?_
              rintro en w21 ⟨rfl, hf21⟩
              have hk := known32 w21 (hEx.no hf21)
              have hfz := hfwx.step hf21 (fun _ _ h => h)
              clear hmc hf21 hfwx hEx d0 d1 d2 d3 d4 d5
              go_wp2_with fail
              refine hk.mono ?_
              rintro en w22 ⟨rfl, hf22⟩
              have hfin := hfz.step hf22 (fun _ _ h => h)
              clear hk hf22 hfz
              go_wp2_with fail
              go_ret
              exact ⟨rfl, hfin⟩
            | false =>
              cases xp with
              | true =>
                have hmc := a_must bi bt be bn qa bps.length qc ia ic bll false true w11
                rw [show mustB bt be bn false true = true from by unfold mustB; simp [hn, hge]] at hmc
                try clear hn
                go_wp2_with fail
                refine hmc.mono ?_
                rintro en w21 ⟨rfl, hf21⟩
                have hk := known32 w21 (hEx.no hf21)
                have hfz := hfwx.step hf21 (fun _ _ h => h)
                clear hmc hf21 hfwx hEx d0 d1 d2 d3 d4 d5
                go_wp2_with fail
                refine hk.mono ?_
                rintro en w22 ⟨rfl, hf22⟩
                have hfin := hfz.step hf22 (fun _ _ h => h)
                clear hk hf22 hfz
                go_wp2_with fail
                go_ret
                exact ⟨rfl, hfin⟩
              | false =>
                have hmc := a_must bi bt be bn qa bps.length qc ia ic bll false false w11
                rw [show mustB bt be bn false false = false from by unfold mustB; simp [hn]] at hmc
                try clear hn
                go_wp2_with fail
                refine hmc.mono ?_
                rintro en w21 ⟨rfl, hf21⟩
                have hk := known32 w21 (hEx.no hf21)
                have hfz := hfwx.step hf21 (fun _ _ h => h)
                clear hmc hf21 hfwx hEx d0 d1 d2 d3 d4 d5
                go_wp2_with fail
                refine hk.mono ?_
                rintro en w22 ⟨rfl, hf22⟩
                have hfin := hfz.step hf22 (fun _ _ h => h)
                clear hk hf22 hfz
                go_wp2_with fail
                go_ret
                exact ⟨rfl, hfin⟩
          · have hge2 : bn < be := by omega
            have hmc := a_must bi bt be bn qa bps.length qc ia ic bll ex xp w11
            rw [show mustB bt be bn ex xp = false from by unfold mustB; simp [hn, hge]] at hmc
            try clear hn
            go_wp2_with fail
            refine hmc.mono ?_
            rintro en w21 ⟨rfl, hf21⟩
            have hk := known32 w21 (hEx.no hf21)
            have hfz := hfwx.step hf21 (fun _ _ h => h)
            clear hmc hf21 hfwx hEx d0 d1 d2 d3 d4 d5
            go_wp2_with fail
            refine hk.mono ?_
            rintro en w22 ⟨rfl, hf22⟩
            have hfin := hfz.step hf22 (fun _ _ h => h)
            clear hk hf22 hfz
            go_wp2_with fail
            go_ret
            exact ⟨rfl, hfin⟩
      · obtain ⟨A, rfl, hAt, hAe, hAn⟩ := gr_one ht1 HL.out hLn HO.out.1 HO.out.2
        have hAB : A.n ≤ bn := by
          have h1 := cntB_mono hmono.out bt
          rw [hAn, HBn.out]
          omega
        clear hAn
        have hL1 : 1 ≤ L.length := List.length_pos_iff.2 hLn
        obtain ⟨⟨ai, aps, at_, ae, an, al⟩, ya, yc, za, zc⟩ := A
        simp only at hAt hAe hAB
        subst hAt hAe
        obtain ⟨sb, so, A', rfl, hA', _, ⟨c0, c1, c2, c3, c4, c5⟩, _⟩ := hO11.elem (k := 0) (by simp)
        obtain rfl : (⟨⟨ai, aps, at_, ae, an, al⟩, ya, yc, za, zc⟩ : ArrM) = A' := by simpa using hA'
        simp only [Nat.zero_mul, Nat.add_zero] at c0 c1 c2 c3 c4 c5
        clear HO hmono hA' hO11 hf11 HL
        have hma := a_must ai at_ ae an ya aps.length yc za zc al ex xp w11
        obtain ⟨u, hu⟩ : ∃ u, u = mustB at_ ae an ex xp := ⟨_, rfl⟩
        rw [← hu] at hma
        have HU : Hid (u = true → mustB at_ ae bn ex xp = true) := fun h => gr_must (by rw [← hu]; exact h) hAB hBle
        clear hu
        go_wp2_with fail
        refine hma.mono ?_
        rintro en w12 ⟨rfl, hf12⟩
        have hfw12 := hfw11.step hf12 (fun _ _ h => h)
        have hE12 := hE11.no hf12
        have d0 := hf12.cell d0 id
        have d1 := hf12.cell d1 id
        have d2 := hf12.cell d2 id
        have d3 := hf12.cell d3 id
        have d4 := hf12.cell d4 id
        have d5 := hf12.cell d5 id
        clear hma hf12 hfw11 hE11 c0 c1 c2 c3 c4 c5
        cases u with
        | false =>
          have hfwx := hfw12
          have hEx := hE12
          clear hfw12 hE12 HU
          by_cases hn : bn = at_
          · have hn' : (bn == at_) = true := by simp [hn]
            have hmc := a_must bi at_ ae bn qa bps.length qc ia ic bll ex xp w12
            rw [show mustB at_ ae bn ex xp = true from by unfold mustB; simp [hn]] at hmc
            try clear hn
            go_wp2_with fail
            refine hmc.mono ?_
            rintro en w21 ⟨rfl, hf21⟩
            have hk := known32 w21 (hEx.no hf21)
            have hfz := hfwx.step hf21 (fun _ _ h => h)
            clear hmc hf21 hfwx hEx d0 d1 d2 d3 d4 d5
            go_wp2_with fail
            refine hk.mono ?_
            rintro en w22 ⟨rfl, hf22⟩
            have hfin := hfz.step hf22 (fun _ _ h => h)
            clear hk hf22 hfz
            go_wp2_with fail
            go_ret
            exact ⟨rfl, hfin⟩
          · have hn' : (bn == at_) = false := by simp [hn]
            by_cases hge : ae ≤ bn
            · have hge2 : ¬ bn < ae := by omega
              cases ex with
              | true =>
                have hmc := a_must bi at_ ae bn qa bps.length qc ia ic bll true xp w12
                rw [show mustB at_ ae bn true xp = true from by unfold mustB; simp [hn, hge]] at hmc
                try clear hn
                go_wp2_with fail
                refine hmc.mono ?_
                rintro en w21 ⟨rfl, hf21⟩
                have hk := known32 w21 (hEx.no hf21)
                have hfz := hfwx.step hf21 (fun _ _ h => h)
                clear hmc hf21 hfwx hEx d0 d1 d2 d3 d4 d5
                go_wp2_with fail
                refine hk.mono ?_
                rintro en w22 ⟨rfl, hf22⟩
                have hfin := hfz.step hf22 (fun _ _ h => h)
                clear hk hf22 hfz
                go_wp2_with fail
                go_ret
                exact ⟨rfl, hfin⟩
              | false =>
                cases xp with
                | true =>
                  have hmc := a_must bi at_ ae bn qa bps.length qc ia ic bll false true w12
                  rw [show mustB at_ ae bn false true = true from by unfold mustB; simp [hn, hge]] at hmc
                  try clear hn
                  go_wp2_with fail
                  refine hmc.mono ?_
                  rintro en w21 ⟨rfl, hf21⟩
                  have hk := known32 w21 (hEx.no hf21)
                  have hfz := hfwx.step hf21 (fun _ _ h => h)
                  clear hmc hf21 hfwx hEx d0 d1 d2 d3 d4 d5
                  go_wp2_with fail
                  refine hk.mono ?_
                  rintro en w22 ⟨rfl, hf22⟩
                  have hfin := hfz.step hf22 (fun _ _ h => h)
                  clear hk hf22 hfz
                  go_wp2_with fail
                  go_ret
                  exact ⟨rfl, hfin⟩
                | false =>
                  have hmc := a_must bi at_ ae bn qa bps.length qc ia ic bll false false w12
                  rw [show mustB at_ ae bn false false = false from by unfold mustB; simp [hn]] at hmc
                  try clear hn
                  go_wp2_with fail
                  refine hmc.mono ?_
                  rintro en w21 ⟨rfl, hf21⟩
                  have hk := known32 w21 (hEx.no hf21)
                  have hfz := hfwx.step hf21 (fun _ _ h => h)
                  clear hmc hf21 hfwx hEx d0 d1 d2 d3 d4 d5
                  go_wp2_with fail
                  refine hk.mono ?_
                  rintro en w22 ⟨rfl, hf22⟩
                  have hfin := hfz.step hf22 (fun _ _ h => h)
                  clear hk hf22 hfz
                  go_wp2_with fail
                  go_ret
                  exact ⟨rfl, hfin⟩
            · have hge2 : bn < ae := by omega
              have hmc := a_must bi at_ ae bn qa bps.length qc ia ic bll ex xp w12
              rw [show mustB at_ ae bn ex xp = false from by unfold mustB; simp [hn, hge]] at hmc
              try clear hn
              go_wp2_with fail
              refine hmc.mono ?_
              rintro en w21 ⟨rfl, hf21⟩
              have hk := known32 w21 (hEx.no hf21)
              have hfz := hfwx.step hf21 (fun _ _ h => h)
              clear hmc hf21 hfwx hEx d0 d1 d2 d3 d4 d5
              go_wp2_with fail
              refine hk.mono ?_
              rintro en w22 ⟨rfl, hf22⟩
              have hfin := hfz.step hf22 (fun _ _ h => h)
              clear hk hf22 hfz
              go_wp2_with fail
              go_ret
              exact ⟨rfl, hfin⟩
        | true =>
          have hmb := a_must bi at_ ae bn qa bps.length qc ia ic bll ex xp w12
          rw [HU.out rfl] at hmb
          go_wp2_with fail
          refine hmb.mono ?_
          rintro en w13 ⟨rfl, hf13⟩
          have hfwx := hfw12.step hf13 (fun _ _ h => h)
          have hEx := hE12.no hf13
          have d0 := hf13.cell d0 id
          have d1 := hf13.cell d1 id
          have d2 := hf13.cell d2 id
          have d3 := hf13.cell d3 id
          have d4 := hf13.cell d4 id
          have d5 := hf13.cell d5 id
          clear hmb hf13 hfw12 hE12 HU
          by_cases hn : bn = at_
          · have hn' : (bn == at_) = true := by simp [hn]
            have hmc := a_must bi at_ ae bn qa bps.length qc ia ic bll ex xp w13
            rw [show mustB at_ ae bn ex xp = true from by unfold mustB; simp [hn]] at hmc
            try clear hn
            go_wp2_with fail
            refine hmc.mono ?_
            rintro en w21 ⟨rfl, hf21⟩
            have hk := known32 w21 (hEx.no hf21)
            have hfz := hfwx.step hf21 (fun _ _ h => h)
            clear hmc hf21 hfwx hEx d0 d1 d2 d3 d4 d5
            go_wp2_with fail
            refine hk.mono ?_
            rintro en w22 ⟨rfl, hf22⟩
            have hfin := hfz.step hf22 (fun _ _ h => h)
            clear hk hf22 hfz
            go_wp2_with fail
            go_ret
            exact ⟨rfl, hfin⟩
          · have hn' : (bn == at_) = false := by simp [hn]
            by_cases hge : ae ≤ bn
            · have hge2 : ¬ bn < ae := by omega
              cases ex with
              | true =>
                have hmc := a_must bi at_ ae bn qa bps.length qc ia ic bll true xp w13
                rw [show mustB at_ ae bn true xp = true from by unfold mustB; simp [hn, hge]] at hmc
                try clear hn
                go_wp2_with fail
                refine hmc.mono ?_
                rintro en w21 ⟨rfl, hf21⟩
                have hk := known32 w21 (hEx.no hf21)
                have hfz := hfwx.step hf21 (fun _ _ h => h)
                clear hmc hf21 hfwx hEx d0 d1 d2 d3 d4 d5
                go_wp2_with fail
                refine hk.mono ?_
                rintro en w22 ⟨rfl, hf22⟩
                have hfin := hfz.step hf22 (fun _ _ h => h)
                clear hk hf22 hfz
                go_wp2_with fail
                go_ret
                exact ⟨rfl, hfin⟩
              | false =>
                cases xp with
                | true =>
                  have hmc := a_must bi at_ ae bn qa bps.length qc ia ic bll false true w13
                  rw [show mustB at_ ae bn false true = true from by unfold mustB; simp [hn, hge]] at hmc
                  try clear hn
                  go_wp2_with fail
                  refine hmc.mono ?_
                  rintro en w21 ⟨rfl, hf21⟩
                  have hk := known32 w21 (hEx.no hf21)
                  have hfz := hfwx.step hf21 (fun _ _ h => h)
                  clear hmc hf21 hfwx hEx d0 d1 d2 d3 d4 d5
                  go_wp2_with fail
                  refine hk.mono ?_
                  rintro en w22 ⟨rfl, hf22⟩
                  have hfin := hfz.step hf22 (fun _ _ h => h)
                  clear hk hf22 hfz
                  go_wp2_with fail
                  go_ret
                  exact ⟨rfl, hfin⟩
                | false =>
                  have hmc := a_must bi at_ ae bn qa bps.length qc ia ic bll false false w13
                  rw [show mustB at_ ae bn false false = false from by unfold mustB; simp [hn]] at hmc
                  try clear hn
                  go_wp2_with fail
                  refine hmc.mono ?_
                  rintro en w21 ⟨rfl, hf21⟩
                  have hk := known32 w21 (hEx.no hf21)
                  have hfz := hfwx.step hf21 (fun _ _ h => h)
                  clear hmc hf21 hfwx hEx d0 d1 d2 d3 d4 d5
                  go_wp2_with fail
                  refine hk.mono ?_
                  rintro en w22 ⟨rfl, hf22⟩
                  have hfin := hfz.step hf22 (fun _ _ h => h)
                  clear hk hf22 hfz
                  go_wp2_with fail
                  go_ret
                  exact ⟨rfl, hfin⟩
            · have hge2 : bn < ae := by omega
              have hmc := a_must bi at_ ae bn qa bps.length qc ia ic bll ex xp w13
              rw [show mustB at_ ae bn ex xp = false from by unfold mustB; simp [hn, hge]] at hmc
              try clear hn
              go_wp2_with fail
              refine hmc.mono ?_
              rintro en w21 ⟨rfl, hf21⟩
              have hk := known32 w21 (hEx.no hf21)
              have hfz := hfwx.step hf21 (fun _ _ h => h)
              clear hmc hf21 hfwx hEx d0 d1 d2 d3 d4 d5
              go_wp2_with fail
              refine hk.mono ?_
              rintro en w22 ⟨rfl, hf22⟩
              have hfin := hfz.step hf22 (fun _ _ h => h)
              clear hk hf22 hfz
              go_wp2_with fail
              go_ret
              exact ⟨rfl, hfin⟩
end Go.Proofs.YtbblkknndaoefaaGreatDoor
namespace Go.Proofs.YtbblkknndaoefaaGreatDoor.arrayGrows
open Go.ChangeShapes Go.WideShapes Go.ChangeAt Go.RowKit
open Go.ChangeMaps (open_string shut_string)
set_option linter.unusedVariables false

theorem own : ownKnob Tryz.prog.godebug = none := by kernel_rfl
theorem laidOut : laidOutB Tryz.prog = true := by kernel_rfl

set_option maxRecDepth 100000 in
theorem lifted (os : Os) (started : os.Started) (H : Type) (enc : TypeId × Value → H) :
    ReturnsInHanded {} Tryz.checked os 10 .any (fun w args => (Rows.arrayGrowsSpec.pre enc Tryz.prog Tryz.f10 Rows.arrayGrowsRow.domain false w args ∧ laidMetH Tryz.prog Rows.arrayGrowsRow.laid w) ∧ sizedMet enc Tryz.prog Tryz.f10 (OpenSpec.ofChange Rows.arrayGrowsSpec) false w args)
      (Rows.arrayGrowsSpec.post enc Tryz.prog Tryz.f10 false true false false) := by
  refine returns_laid_sized (C := Tryz.checked) (X := fun w _ => laidMetH Tryz.prog Rows.arrayGrowsRow.laid w) (fun _ _ _ hh h => h.of_heap hh) own started (by kernel_rfl) Tryz.func10
    (ChangeSpec.witness_shaped (enc := enc) (C := Tryz.checked) (os := os) (X := fun w _ => laidMetH Tryz.prog Rows.arrayGrowsRow.laid w) false (World.laidAll Tryz.prog os Rows.arrayGrowsRow.laid) #[.int .i64 0, .int .i64 0, .int .i64 0, .slice none 0 0, .bool false, .bool false] 8 (World.laidAll_os _ _ _)
      (World.shaped_of_ZipB (by kernel_rfl) (by kernel_rfl)) (by kernel_rfl) (by kernel_rfl) (by kernel_rfl)
      (by rw [MakeChecks.laidMetH_plain _ _ _ (by kernel_rfl)]; exact laidMet_laidAll _ (by kernel_rfl) (by kernel_rfl))) ?_
  intro W base args ds gs before hval0 hW hz hL hsh
  have hval : ∀ (j : Nat) t v, Tryz.f10.params[j]? = some t → args[j]? = some v → Value.okWide Tryz.prog W .any base t v := hval0
  have hW' := hW
  obtain ⟨p, q, hA0, hV, rfl, hfz, hnd⟩ := hW
  have hA : DataW.TrodAll enc Tryz.prog W 0 (fun _ => true) true Tryz.f10.params.toList args.toList ds p := hA0
  have hsz : ∀ (j : Nat) (t : TypeId) (d : DataW H), (Tryz.f10.params.toList ++ (OpenSpec.ofChange Rows.arrayGrowsSpec).bare.plain.varTypes Tryz.prog)[j]? = some t → (ds ++ gs)[j]? = some d → Wt t d := fun j t d h1 h2 => wt_each hz h1 h2
  rw [Tryz.params10] at hA hval hsz
  obtain ⟨v0, vs0, d0, ds0, p0, q0, hargs, rfl, rfl, h0, r0⟩ := trodAll_cons hA
  obtain ⟨v1, vs1, d1, ds1, p1, q1, rfl, rfl, rfl, h1, r1⟩ := trodAll_cons r0
  obtain ⟨v2, vs2, d2, ds2, p2, q2, rfl, rfl, rfl, h2, r2⟩ := trodAll_cons r1
  obtain ⟨v3, vs3, d3, ds3, p3, q3, rfl, rfl, rfl, h3, r3⟩ := trodAll_cons r2
  obtain ⟨v4, vs4, d4, ds4, p4, q4, rfl, rfl, rfl, h4, r4⟩ := trodAll_cons r3
  obtain ⟨v5, vs5, d5, ds5, p5, q5, rfl, rfl, rfl, h5, r5⟩ := trodAll_cons r4
  obtain ⟨rfl, rfl, rfl⟩ := trodAll_nil r5
  obtain rfl : args = #[v0, v1, v2, v3, v4, v5] := by cases args; simp_all
  obtain ⟨rfl, rfl⟩ := trodVars_none hV
  have z0 : Wt 3 d0 := hsz 0 _ _ rfl rfl
  have z1 : Wt 3 d1 := hsz 1 _ _ rfl rfl
  have z2 : Wt 3 d2 := hsz 2 _ _ rfl rfl
  have z3 : Wt 74 d3 := hsz 3 _ _ rfl rfl
  have z4 : Wt 4 d4 := hsz 4 _ _ rfl rfl
  have z5 : Wt 4 d5 := hsz 5 _ _ rfl rfl
  clear hsz hz
  obtain ⟨a0, rfl, rfl, rfl, w0⟩ := open_int Tryz.underlying3 (hval 0 3 v0 rfl rfl) h0
  obtain ⟨a1, rfl, rfl, rfl, w1⟩ := open_int Tryz.underlying3 (hval 1 3 v1 rfl rfl) h1
  obtain ⟨a2, rfl, rfl, rfl, w2⟩ := open_int Tryz.underlying3 (hval 2 3 v2 rfl rfl) h2
  obtain ⟨a3, len3, cap3, rfl⟩ := okWide_slice Tryz.underlying74 (hval 3 74 v3 rfl rfl)
  have k3 := h3
  have lt3 : ∀ x ∈ p3, x.block < W.heap.size := by obtain ⟨m, hm⟩ := k3; exact DataW.trod_lt m _ _ _ hm
  obtain ⟨l3, rfl, hl3⟩ : ∃ l : List Bool, l.length = len3 ∧ Bools W a3 cap3 l := by
    obtain ⟨fuel, hf⟩ := h3
    obtain ⟨a, c, l, hcs, h1⟩ := open_bools_raw hf
    simp [Value.cells] at hcs
    obtain ⟨rfl, rfl, rfl⟩ := hcs
    exact ⟨l, rfl, h1⟩
  obtain ⟨a4, rfl, rfl, rfl⟩ := open_bool Tryz.underlying4 (hval 4 4 v4 rfl rfl) h4
  obtain ⟨a5, rfl, rfl, rfl⟩ := open_bool Tryz.underlying4 (hval 5 4 v5 rfl rfl) h5
  rw [MakeChecks.laidMetH_plain _ _ _ (by kernel_rfl)] at hL
  have hE := env_of hsh hL
  clear hA0 hval0
  refine (agrows_walk a0 a1 a2 a3 cap3 l3 a4 a5 W w0 w1 w2 hl3 hE).mono fun e W' ⟨he, hfr⟩ => ?_
  have bel : Below W.heap.size W W' := hfr.below (Nat.le_refl _) (fun b hb e => e)
  subst he
  exact ⟨_, rfl, _, _, _, [], _, [], hW', trodAll_mk1 (shut_bool Tryz.underlying4 _), (trodAll_cons_mk (shut_int Tryz.underlying3 w0) (trodAll_cons_mk (shut_int Tryz.underlying3 w1) (trodAll_cons_mk (shut_int Tryz.underlying3 w2) (trodAll_cons_mk (Below.trod laidOut (by kernel_rfl) (of_decide_eq_true (by kernel_rfl)) k3 bel lt3) (trodAll_cons_mk (shut_bool Tryz.underlying4 a4) (trodAll_cons_mk (shut_bool Tryz.underlying4 a5) trodAll_mk0)))))), rfl, bel.frame _, fun h => by cases h⟩

theorem isNamed : Tryz.pinned.checked.prog.funcNamed Rows.arrayGrowsRow.func = some 10 := by kernel_rfl
theorem and2 {a b : Bool} (h : a = true) (k : b = true) : (a && b) = true := by rw [h, k]; rfl
theorem c0 : (Rows.arrayGrowsRow.wf (OpenSpec.ofChange Rows.arrayGrowsSpec)) = true := by kernel_rfl
theorem c1 : (laidOutB Tryz.pinned.checked.prog) = true := by kernel_rfl
theorem c2 : (mapsRowed Tryz.pinned.checked.prog) = true := by kernel_rfl
theorem c3 : (Tryz.f10.params.all (Tryz.pinned.checked.prog.readableRec ·)) = true := by kernel_rfl
theorem c4 : (namedTie Tryz.pinned.checked.prog Rows.arrayGrowsRow.named Rows.arrayGrowsSpec.vars) = true := by kernel_rfl
theorem c5 : ((Rows.arrayGrowsRow.stops == [])) = true := by kernel_rfl
theorem c6 : ((Tryz.pinned.checked.prog.stops == [])) = true := by kernel_rfl
theorem c7 : ((Rows.arrayGrowsRow.knobs == [])) = true := by kernel_rfl
theorem c8 : ((Tryz.pinned.checked.prog.stopKnobs == [])) = true := by kernel_rfl
theorem c9 : ((Rows.arrayGrowsRow.inPlace == Tryz.pinned.checked.prog.inPlace 10)) = true := by kernel_rfl
theorem c10 : ((Rows.arrayGrowsRow.unfollowed == Tryz.pinned.checked.prog.unfollowed 10)) = true := by kernel_rfl
theorem c11 : ((Rows.arrayGrowsRow.recurses == Tryz.pinned.checked.prog.recurses 10)) = true := by kernel_rfl
theorem c12 : ((Rows.arrayGrowsRow.named == Tryz.pinned.checked.prog.varsNamed 10)) = true := by kernel_rfl
theorem c13 : ((Rows.arrayGrowsRow.maps == (Tryz.f10.params.toList ++ Rows.arrayGrowsSpec.plain.varTypes Tryz.pinned.checked.prog).any (Tryz.pinned.checked.prog.mapsRec ·))) = true := by kernel_rfl
theorem c14 : ((Rows.arrayGrowsRow.ifaces == (Tryz.f10.params.toList ++ Rows.arrayGrowsSpec.plain.varTypes Tryz.pinned.checked.prog).any (Tryz.pinned.checked.prog.ifacesRec ·))) = true := by kernel_rfl
theorem c15 : ((Rows.arrayGrowsRow.mapsOut == Tryz.pinned.checked.prog.mapsAmong Tryz.f10.resultTypes.toList)) = true := by kernel_rfl
theorem c16 : ((Rows.arrayGrowsRow.loops == (Tryz.f10.params.toList ++ Rows.arrayGrowsSpec.plain.varTypes Tryz.pinned.checked.prog).any (Tryz.pinned.checked.prog.loopsFrom ·))) = true := by kernel_rfl
theorem c17 : ((Rows.arrayGrowsRow.wideKeys == (Tryz.f10.params.toList ++ Rows.arrayGrowsSpec.plain.varTypes Tryz.pinned.checked.prog ++ Tryz.f10.resultTypes.toList).any (Tryz.pinned.checked.prog.wideKeysFrom ·))) = true := by kernel_rfl
theorem c18 : (Rows.arrayGrowsSpec.vars.all (Tryz.pinned.checked.prog.varReadable ·)) = true := by kernel_rfl
theorem c19 : (Tryz.f10.resultTypes.all (fun t => Tryz.pinned.checked.prog.readableRec t && decide (t < Tryz.pinned.checked.prog.types.size))) = true := by kernel_rfl
theorem c20 : ((Rows.arrayGrowsRow.ifacesOut == Tryz.f10.resultTypes.toList.any (Tryz.pinned.checked.prog.ifacesRec ·))) = true := by kernel_rfl
theorem c21 : ((Rows.arrayGrowsRow.loopsOut == Tryz.f10.resultTypes.toList.any (Tryz.pinned.checked.prog.loopsFrom ·))) = true := by kernel_rfl
theorem c22 : ((Rows.arrayGrowsRow.plainKeys == Tryz.pinned.checked.prog.plainKeys)) = true := by kernel_rfl
theorem c23 : (Rows.arrayGrowsRow.shortTexts.isNone) = true := by kernel_rfl
theorem c24 : (Tryz.pinned.checked.prog.stopsHeard) = true := by kernel_rfl
theorem c25 : (Tryz.pinned.checked.prog.mayEnter) = true := by kernel_rfl
theorem c26 : ((Rows.arrayGrowsRow.lifted == Tryz.pinned.checked.prog.liftsFinal)) = true := by kernel_rfl
theorem c27 : ((Tryz.pinned.checked.prog.make == some Rows.arrayGrowsRow.make)) = true := by kernel_rfl
theorem c28 : ((Rows.arrayGrowsRow.kinds == (if Rows.arrayGrowsRow.domain.isEmpty then [] else Tryz.f10.params.toList.map fun t => match Tryz.pinned.checked.prog.underlying t with | some (.int k) => some k | _ => none))) = true := by kernel_rfl
theorem c29 : ((Rows.arrayGrowsRow.pinned == Rows.arrayGrowsRow.pinnedBy)) = true := by kernel_rfl
theorem c30 : ((Rows.arrayGrowsRow.veiled == (Tryz.f10.params.toList ++ Rows.arrayGrowsSpec.plain.varTypes Tryz.pinned.checked.prog ++ Tryz.f10.resultTypes.toList).any (Tryz.pinned.checked.prog.veiledRec ·))) = true := by kernel_rfl
theorem c31 : (Rows.arrayGrowsRow.veiledFits Tryz.pinned.checked.prog Tryz.f10.params.toList (Tryz.f10.params.toList ++ Rows.arrayGrowsSpec.plain.varTypes Tryz.pinned.checked.prog ++ Tryz.f10.resultTypes.toList)) = true := by kernel_rfl
set_option maxRecDepth 100000 in
theorem closed : joinedFacts Tryz.pinned.checked.prog 10 Tryz.f10 Rows.arrayGrowsSpec Rows.arrayGrowsRow = true := by
  unfold joinedFacts
  exact (and2 (and2 (and2 (and2 (and2 (and2 (and2 (and2 (and2 (and2 (and2 (and2 (and2 (and2 (and2 (and2 (and2 (and2 (and2 (and2 (and2 (and2 (and2 (and2 (and2 (and2 (and2 (and2 (and2 (and2 (and2 c0 c1) c2) c3) c4) c5) c6) c7) c8) c9) c10) c11) c12) c13) c14) c15) c16) c17) c18) c19) c20) c21) c22) c23) c24) c25) c26) c27) c28) c29) c30) c31)
theorem inst : Tryz.f10.isInstance Tryz.pinned.checked.prog Rows.arrayGrowsRow.origin Rows.arrayGrowsRow.targs := of_decide_eq_true (by kernel_rfl)
theorem wrap : Tryz.f10.isWrapper Tryz.pinned.checked.prog Rows.arrayGrowsRow.wrapper Rows.arrayGrowsRow.mainSum := by
  unfold Func.isWrapper; first | (rw [if_pos (by decide +kernel)]; kernel_rfl) | (rw [if_neg (by decide +kernel)]; exact ⟨rfl, rfl⟩)
theorem over : Rows.arrayGrowsRow.holds Tryz.pinned (OpenSpec.ofChange Rows.arrayGrowsSpec) :=
  OpenClaim.holds_of_wide 10 Tryz.f10 rfl rfl rfl rfl rfl rfl rfl ⟨rfl, rfl, rfl, rfl, rfl⟩ rfl rfl rfl rfl rfl isNamed Tryz.func10 closed inst wrap
    (fun os started H enc _ => lifted os started H enc)

theorem t1 : Rows.arrayGrowsRow.wfByText (OpenSpec.ofChange Rows.arrayGrowsSpec) = true := by kernel_rfl
theorem t2 : Tryz.pinned.checked.prog.mainIs = some ((true, "7c35bbe876a6797357c7d4d4c7eda80dfa3d5b512daa5cf20d9229a0a48d5af4").1, (true, "7c35bbe876a6797357c7d4d4c7eda80dfa3d5b512daa5cf20d9229a0a48d5af4").2.toList) := by kernel_rfl
theorem t3 : true = Tryz.pinned.checked.prog.looks [] := by kernel_rfl
theorem t4 : false = Rows.arrayGrowsRow.goesBy Tryz.pinned.checked.prog := by kernel_rfl
theorem t5 : Tryz.prog.funcNamed "coldplug/coldpluglaw32.ArrayGrows" = some 10 := by kernel_rfl
theorem t6 : ([3, 3, 3, 74, 4, 4].all fun u => !Tryz.prog.wantsStandIn u) = true := by kernel_rfl
theorem proved : Rows.ArrayGrowsCardSaid :=
  Claim7.holds_tied_plain_at .later [] [.data, .data, .data, .data, .sentinel, .sentinel, .pinned, .pinned] true (true, "7c35bbe876a6797357c7d4d4c7eda80dfa3d5b512daa5cf20d9229a0a48d5af4") true over (fun _ h => by cases h) t1 (fun _ h => by cases h) arrayGrows_row_tie rfl ⟨rfl, rfl⟩ t2 rfl
    (fun f fn hf hfn => by
      obtain rfl : f = 10 := Option.some.inj (t5.symm.trans hf) |>.symm
      obtain rfl : fn = Tryz.f10 := (Option.some.inj (Tryz.func10.symm.trans hfn)).symm
      exact ⟨t3, fun j t ht => by
        rw [Tryz.params10] at ht
        have hm : t ∈ [3, 3, 3, 74, 4, 4] := by simpa using Array.mem_of_getElem? ht
        have hall : ([3, 3, 3, 74, 4, 4].all fun u => !Tryz.prog.wantsStandIn u) = true := t6
        exact (show Tryz.prog.wantsStandIn t = false by simpa using List.all_eq_true.1 hall t hm)⟩)
    t4
#print axioms proved
end Go.Proofs.YtbblkknndaoefaaGreatDoor.arrayGrows
