/- The law ArrayLater returns true at every input and leaves its arguments as they were. Conditions: none beyond the given statement's own. -/
import Derived.Test.YtbblkknndaoefaaGreatDoorZA13
import Derived.Test.YtbblkknndaoefaaGreatDoorZA23
import Derived.Test.YtbblkknndaoefaaGreatDoorZA24
import Derived.Test.YtbblkknndaoefaaGreatDoorZA25
import Derived.Test.YtbblkknndaoefaaGreatDoorZA2
import Derived.Test.YtbblkknndaoefaaGreatDoorZA20
import Derived.Test.YtbblkknndaoefaaGreatDoorCards
import Derived.Test.YtbblkknndaoefaaGreatDoorTie
import Derived.WalkKit
import Derived.ProofKit
import Derived.OpenShut
import Derived.ShutString
import Derived.ChangeOld
import Derived.Below
import Derived.LaidMore
import Derived.Lay
import Derived.SevenTiedAt
import Derived.Shelf.Vars
import Derived.Stop.LaidErr
import Derived.MakeChecks
import Derived.SizedLaws
namespace Go.Proofs.YtbblkknndaoefaaGreatDoor
open Go.RowKit Go.Maps
set_option linter.unusedVariables false

theorem mb_small {L : List Mem} (h : ∀ m ∈ L, MbOk m) (hl : L.length ≤ 100) : MemSmall2 L := by
  refine ⟨by omega, ?_, ?_, ?_, ?_⟩ <;> intro m hm
  · have := (h m hm).p; omega
  · have h1 := (h m hm).i
    have h2 : ∀ x ∈ mbIds, x.size ≤ 1000000 := by decide
    exact h2 _ h1
  · have := (h m hm).n; omega
  · have := (h m hm).s; exact WalkArith.wf_i64 (by omega)
theorem app_small3 {L R : List Mem} {K : List ByteArray} (hL : MemSmall2 L) (hl : L.length ≤ 100) (hR : FewOk R K) (hin : ∀ m ∈ R, MemIn m) : MemSmall2 (L ++ R) := by
  have h2 := hR.n
  refine ⟨by rw [List.length_append]; omega, ?_, ?_, ?_, ?_⟩ <;> intro m hm <;> rcases List.mem_append.1 hm with h | h
  · exact hL.p m h
  · have := (hR.m m h).1; omega
  · exact hL.i m h
  · have := (hR.m m h).2.1; omega
  · exact hL.l m h
  · have := (hR.m m h).2.2; omega
  · exact hL.s m h
  · exact (hin m h).s
theorem small_of3 {L : List Mem} (h : MemSmall2 L) : MemSmall L := ⟨h.len, h.p, h.i, h.l⟩

set_option maxRecDepth 100000 in
set_option maxHeartbeats 8000000 in
theorem agroups_walk (la : Option Addr) (lc : Nat) (l : List Int) (ra : Option Addr) (rc : Nat) (R : List Mem) (w : World) (hl : Ints w la lc l) (hR : Mems w ra rc R) (hin : ∀ m ∈ R, MemIn m) (hE : Env w) :
    Calls Tryz.prog 13 #[.slice la l.length lc, .slice ra R.length rc] w fun e w' => e = .returned (.bool true) ∧ Fr No w w' := by
  obtain ⟨i0, hi0, hz0, hz1, hz2⟩ := info_parts infoM
  have hfew := few32 ra rc R w hR hin
  have hrm := hR.lenmax
  go_enter Tryz.func13, Tryz.ntmps13
  go_wp2_with fail
  refine hfew.mono ?_
  rintro e w1 ⟨⟨b, rfl, hb⟩, hf1⟩
  have hE1 := hE.no hf1
  clear hfew
  cases b with
  | false =>
    go_wp2_with fail
    refine (known32 w1 hE1).mono ?_
    rintro e wf ⟨rfl, hff⟩
    have hfin := hf1.step hff (fun _ _ h => h)
    go_wp2_with fail
    go_ret
    exact ⟨rfl, hfin⟩
  | true =>
    have hok := hb rfl
    have hl1 := hl.no hf1 (fun _ => id)
    have hR1 := hR.no hf1 (fun _ => id)
    have hx : Fr No w1 (w1.alloc (.cells #[.slice la l.length lc, .int .i64 0] 29)) := (Fr.refl _ _).alloc _
    have ht := Tape.make hl1 29
    have hE0 := hE1.no hx
    have hs0 : (w1.alloc (.cells #[.slice la l.length lc, .int .i64 0] 29)).heap.size = w1.heap.size + 1 := by simp
    have hsz := hE1.sz
    obtain ⟨W0, hW0⟩ : ∃ W0, W0 = w1.alloc (.cells #[.slice la l.length lc, .int .i64 0] 29) := ⟨_, rfl⟩
    rw [← hW0] at hx ht hE0 hs0
    have hs0' : w1.heap.size + 1 ≤ W0.heap.size := by omega
    have hpv := made_mbs w1.heap.size w1.heap.size 0 9 W0 ht (by omega) (by omega)
    have Hx := Lib.hid (hf1.step hx (fun _ _ h => h))
    have hxk := hx
    have hs1 := hf1.size
    have HW0 := Lib.hid hW0.symm
    have Hok := Lib.hid hok
    have Hin := Lib.hid hin
    have hrl := hok.n
    clear hs0 hx hE hE1 hf1 hl1 hl hR ht hok hb hin hW0
    go_wp2_with fail
    rw [HW0.out]
    clear HW0
    refine hpv.mono ?_
    rintro e w2 ⟨⟨L, a1, c1, k1, rfl, hL, hLf, hLm, hLo, hLl, hk1, ht1, hown⟩, hf2⟩
    have hE2 := hE0.fr hf2 (fun b hb h => by unfold Is at h; omega)
    have hfx2 : Fr (From w1.heap.size) w1 w2 := (hxk.mono (fun _ _ h => h.elim)).step hf2 (fun b _ h => by unfold Is at h; unfold From; omega)
    have hR2 := hR1.keep hfx2 (fun b hb h => by unfold From at h; omega)
    have hfw2 : Fr No w w2 := Hx.out.trans hf2 (fun _ _ h => h) (fun b hb h => by unfold Is at h; omega)
    have hup := hR2.upto R.length (Nat.le_refl _)
    rw [List.take_length] at hup
    have hs2 := hf2.size
    clear hpv hL hLf hk1 ht1 hf2 hE0 hxk
    have Hown := Lib.hid hown
    go_wp2_with (at_builtin; refine wpList_append_src rfl _ _ 23 rfl W0.heap.size 58 i0 (.agg #[.string ByteArray.empty, .string ByteArray.empty, .int .i64 0, .int .i64 0, .int .i64 0, .int .i64 0, .slice none 0 0]) 7 88 Tryz.underlying23 hi0 hz0 hz1 hz2 rfl (by decide) _ _ _ rfl hown _ R.length _ (mflat R) rfl hup.2 (by rw [mflat_len]) hup.1 (mflat_one _) (by unfold maxLen; omega) (by omega) (by first | omega | (simp; done) | (simp; omega)) ?_; intro v3 w3 own3 gr3; obtain ⟨av, cv, rfl⟩ := ownsRow_slice own3)
    have hg3 : Fr (From W0.heap.size) w2 w3 := (Fr.of_grown gr3).mono (fun b _ h => ownsRow_blk Hown.out h)
    have hR3 := hR1.keep (hfx2.step hg3 (fun b _ h => by unfold From at *; omega)) (fun b hb h => by unfold From at h; omega)
    have hL3 : MFresh w3 W0.heap.size L := MFresh.own hLm Hown.out (Fr.of_grown gr3)
    obtain ⟨Q, hQ⟩ : ∃ Q, Q = L ++ R := ⟨_, rfl⟩
    have hQl : L.length + R.length = Q.length := by rw [hQ, List.length_append]
    have hsmQ : MemSmall2 Q := by rw [hQ]; exact app_small3 (mb_small hLo (by omega)) (by omega) Hok.out Hin.out
    have hSQ : ∀ m ∈ Q, Strs w3 m.a m.c m.l := fun m hm => by
      rw [hQ] at hm
      rcases List.mem_append.1 hm with h | h
      · exact (hL3 m h).1
      · exact hR3.ok m h
    have hownQ : w3.ownsRow W0.heap.size 58 7 (.slice av Q.length cv) Q.length (mflat Q) := by rw [← hQl, hQ, mflat_append]; exact own3
    obtain ⟨a6, c6, e6, hM3, _⟩ := Mems.of_own hownQ hSQ
    cases e6
    have hfw3 : Fr No w w3 := hfw2.trans hg3 (fun _ _ h => h) (fun b hb h => by unfold From at h; omega)
    have hE3 := hE2.fr hg3 (fun b hb h => by unfold From at h; omega)
    obtain ⟨m0, hm3⟩ := hE3.len
    have hs3 := hg3.size
    clear hg3 hR3 hL3 hSQ hownQ own3 gr3 hup hfx2 hR2 hR1 hfw2 hE2 hLm hown Hown hQ
    rw [hQl]
    clear hQl
    have hvg := a_group av cv Q m0 w3 hM3 hsmQ hm3 (by omega)
    go_wp2_with fail
    refine hvg.mono ?_
    rintro e w4 ⟨⟨oa, oc, O, ids, rfl, hO, _, _, hids, hOe, _, _⟩, hf4⟩
    have HOe := Lib.hid hOe
    have Hids := Lib.hid hids
    have hM4 := hM3.no hf4 (fun _ => id)
    have hm4 := hf4.cell hm3 id
    have hE4 := hE3.no hf4
    have hs4 := hf4.size
    have hfw4 := hfw3.step hf4 (fun _ _ h => h)
    clear hvg hf4 hOe hids hM3 hm3 hE3 hfw3
    have hrg := ref_group32 av cv Q m0 w4 hM4 (small_of3 hsmQ) hm4 (by omega)
    go_wp2_with fail
    refine hrg.mono ?_
    rintro e w5 ⟨⟨pa, pc, P, rfl, hP, hPe⟩, hf5⟩
    have hOP : O.map ArrM.toArr = P.map ArrM.toArr := by rw [HOe.out, hPe, Hids.out.unique (ids34 Q)]
    have hO5 := hO.no hf5 (fun _ => id)
    have hE5 := hE4.no hf5
    have hs5 := hf5.size
    have hfw5 := hfw4.step hf5 (fun _ _ h => h)
    have hsa := same_arrays_eq oa pa oc pc O P w5 hO5 hP hOP
    have HPe := Lib.hid hPe
    clear hrg hf5 hPe hM4 hm4 hE4 hfw4 hO hOP hO5
    go_wp2_with fail
    refine hsa.mono ?_
    rintro e w6 ⟨rfl, hf6⟩
    have hP6 := hP.no hf6 (fun _ => id)
    have hE6 := hE5.no hf6
    have hfw6 := hfw5.step hf6 (fun _ _ h => h)
    have hpm := hP6.lenmax
    clear hsa hf6 hP hP6 hE5 hfw5 HOe Hids hpm
    have hk := known32 w6 hE6
    go_wp2_with fail
    refine hk.mono ?_
    rintro e w7 ⟨rfl, hf7⟩
    have hfin := hfw6.step hf7 (fun _ _ h => h)
    clear hk hf7 hfw6 hE6
    go_wp2_with fail
    go_ret
    exact ⟨rfl, hfin⟩
end Go.Proofs.YtbblkknndaoefaaGreatDoor
namespace Go.Proofs.YtbblkknndaoefaaGreatDoor
open Go.RowKit Go.Maps
set_option linter.unusedVariables false

theorem cells_at {W : World} {b : Nat} {xs : Array Value} {T : TypeId} {fz : Nat × Nat} (q : W.heap[b]? = some (.cells xs T fz)) : ∀ j u, xs.toList[j]? = some u → W.cell? ((⟨b, 0, none⟩ : Addr).add j) = some u := by
  intro j u hj
  rw [Addr.add_lit, cell_of_block q]
  simpa using hj
theorem arrs_id {good : Mem → Bool} {L : List Mem} {ids : List ByteArray} {O : List ArrM} (h : MemSmall2 L) (hids : IsIds2 (best2 good L) ids) (hO : O.map ArrM.toArr = ids.map (buildA (best2 good L))) : ∀ m ∈ O, m.i.size ≤ 1000000 := fun m hm => by
  have h1 : m.toArr ∈ O.map ArrM.toArr := List.mem_map_of_mem hm
  rw [hO, List.mem_map] at h1
  obtain ⟨x, hx, he⟩ := h1
  obtain ⟨s, hs⟩ := (hids.mem x).1 hx
  obtain ⟨o, ho⟩ := Option.isSome_iff_exists.1 hs
  obtain ⟨h2, _, h3⟩ := best2_mem L _ o ho
  simp only [Prod.mk.injEq] at h3
  have h4 : m.i = o.i := by rw [h3.1, ← he]; rfl
  rw [h4]
  exact h.i o h2

end Go.Proofs.YtbblkknndaoefaaGreatDoor
namespace Go.Proofs.YtbblkknndaoefaaGreatDoor
open Go.RowKit Go.Maps
set_option linter.unusedVariables false

theorem later_ahead {x o : Mem} (hx : x.r = 9) (ho : o.r ≤ 2) : ahead x o = false := by
  unfold ahead aheadB
  rw [hx]
  have h1 : cmpI 9 o.r = 1 := by unfold cmpI; rw [if_neg (by omega), if_pos (by omega)]
  rw [h1]
  rfl
theorem later_same {good : Mem → Bool} {L : List Mem} {x o : Mem} (hr : ∀ m ∈ L, m.r ≤ 2) (hx : x.r = 9) (h : best2 good L (x.i, x.s) = some o) : best2 good (L ++ [x]) = best2 good L := by
  rw [best2_snoc]
  exact best2S_keep h (later_ahead hx (hr o (best2_mem L _ o h).1))
theorem later_some {good : Mem → Bool} (L : List Mem) (x : Mem) (p : ByteArray × Int) (h : (best2 good L p).isSome = true) : (best2 good (L ++ [x]) p).isSome = true := by
  rw [best2_snoc]
  rcases best2S_cases (good := good) (best2 good L) x p with ⟨h1, _⟩ | ⟨h1, _⟩
  · rw [h1]; rfl
  · rw [h1]; exact h
theorem nodup_len {α : Type} [BEq α] [LawfulBEq α] : ∀ {l l' : List α}, l.Nodup → (∀ x ∈ l, x ∈ l') → l.length ≤ l'.length
  | [], _, _, _ => by simp
  | x :: r, l', h, hs => by
    have h1 := List.nodup_cons.1 h
    have hm := hs x (by simp)
    have h2 := nodup_len (l := r) (l' := l'.erase x) h1.2 (fun y hy => (List.mem_erase_of_ne (fun (e : y = x) => h1.1 (by rw [← e]; exact hy))).2 (hs y (by simp [hy])))
    rw [List.length_erase_of_mem hm] at h2
    have h3 := List.length_pos_of_mem hm
    simp only [List.length_cons]
    omega
theorem asc_nodup {l : List (List UInt8)} (h : AscS l) : l.Nodup := List.Pairwise.imp (fun h => h.2) h
theorem later_len {b b' : ByteArray × Int → Option Mem} {ids ids' : List ByteArray} (h : IsIds2 b ids) (h' : IsIds2 b' ids') (hs : ∀ p, (b p).isSome = true → (b' p).isSome = true) : ids.length ≤ ids'.length := by
  have h1 := nodup_len (l := ids.map kb) (l' := ids'.map kb) (asc_nodup h.asc) (fun x hx => by
    obtain ⟨y, hy, rfl⟩ := List.mem_map.1 hx
    obtain ⟨s, hb⟩ := (h.mem y).1 hy
    exact List.mem_map_of_mem ((h'.mem y).2 ⟨s, hs _ hb⟩))
  simpa using h1
theorem arr_is {b : ByteArray × Int → Option Mem} {O : List ArrM} {ids : List ByteArray} (hO : O.map ArrM.toArr = ids.map (buildA b)) {m : ArrM} (hm : m ∈ O) : m.toArr = buildA b m.i := by
  have h1 : m.toArr ∈ O.map ArrM.toArr := List.mem_map_of_mem hm
  rw [hO, List.mem_map] at h1
  obtain ⟨x, hx, he⟩ := h1
  have h4 : m.i = x := by show m.toArr.i = x; rw [← he]; rfl
  rw [h4, he]
theorem later_eq {L : List Mem} {x : Mem} {O P : List ArrM} {ids ids' : List ByteArray} (hr : ∀ m ∈ L, m.r ≤ 2) (hx : x.r = 9) (hO : O.map ArrM.toArr = ids.map (buildA (best2 soundA L))) (hP : P.map ArrM.toArr = ids'.map (buildA (best2 soundA (L ++ [x]))))
    {A B : ArrM} (hA : A ∈ O) (hB : B ∈ P) (e1 : A.i = x.i) (e2 : B.i = x.i) {k : Nat} (hs : x.s = (k : Int) + 1) {q : ByteArray} (hq : A.ps[k]? = some q) (hne : q.toList.isEmpty = false) : A.toArr = B.toArr := by
  have hA1 := arr_is hO hA
  have hB1 := arr_is hP hB
  rw [e1] at hA1
  rw [e2] at hB1
  have h2 : A.ps = (buildA (best2 soundA L) x.i).ps := by show A.toArr.ps = _; rw [hA1]
  rw [h2] at hq
  unfold buildA at hq
  simp only [List.getElem?_map, Option.map_eq_some_iff] at hq
  obtain ⟨j, hj, he⟩ := hq
  have hjk : j = k := by
    have := List.getElem?_eq_some_iff.1 hj
    obtain ⟨h3, h4⟩ := this
    rw [List.getElem_range] at h4
    exact h4.symm
  subst hjk
  unfold pathAt at he
  rw [← hs] at he
  rcases hb : best2 soundA L (x.i, x.s) with _ | o
  · rw [hb] at he
    subst he
    simp [ByteArray.toList_eq] at hne
  · rw [hA1, hB1, later_same hr hx hb]
theorem later_small {L : List Mem} {y : Mem} (h : ∀ m ∈ L, MbOk m) (hl : L.length ≤ 100) (hy : MbOk y) : MemSmall2 (L ++ [⟨y.p, y.i, 9, y.s, y.t, y.e, y.a, y.l, y.c⟩]) := by
  have h0 := mb_small h hl
  have h1 := mb_small (L := [y]) (fun m hm => by obtain rfl := List.mem_singleton.1 hm; exact hy) (by simp)
  refine ⟨by rw [List.length_append]; simp; omega, ?_, ?_, ?_, ?_⟩ <;> intro m hm <;> rcases List.mem_append.1 hm with h2 | h2
  · exact h0.p m h2
  · obtain rfl := List.mem_singleton.1 h2; exact h1.p y (by simp)
  · exact h0.i m h2
  · obtain rfl := List.mem_singleton.1 h2; exact h1.i y (by simp)
  · exact h0.l m h2
  · obtain rfl := List.mem_singleton.1 h2; exact h1.l y (by simp)
  · exact h0.s m h2
  · obtain rfl := List.mem_singleton.1 h2; exact h1.s y (by simp)
end Go.Proofs.YtbblkknndaoefaaGreatDoor
namespace Go.Proofs.YtbblkknndaoefaaGreatDoor
open Go.RowKit Go.Maps
set_option linter.unusedVariables false

theorem one_arrs {W : World} {b : Nat} {A : ArrM} (h : W.heap[b]? = some (.cells #[.string A.i, .slice A.pa A.ps.length A.pc, .int .i64 A.t, .int .i64 A.e, .int .i64 A.n, .slice A.la A.l.length A.lc] 42)) (hS : Strs W A.pa A.pc A.ps ∧ Strs W A.la A.lc A.l) : Arrs W (some ⟨b, 0, none⟩) 1 [A] := by
  refine ⟨by simp, by unfold maxLen; simp, (fun e => by cases e), fun m hm => by obtain rfl := List.mem_singleton.1 hm; exact hS, fun ad e _ => ?_⟩
  cases e
  refine ⟨rfl, lt_of_block h, fun i m hi j hj => ?_⟩
  rw [cell_of_block h]
  rcases i with _ | i
  · obtain rfl : A = m := by simpa using hi
    simp only [Nat.zero_mul, Nat.zero_add]
    rfl
  · simp at hi

set_option maxRecDepth 100000 in
set_option maxHeartbeats 8000000 in
theorem alater_walk (za : Option Addr) (zc : Nat) (zl : List Int) (w : World) (hl : Ints w za zc zl) (hE : Env w) :
    Calls Tryz.prog 9 #[.slice za zl.length zc] w fun e w' => e = .returned (.bool true) ∧ Fr No w w' := by
  obtain ⟨i0, hi0, hz0, hz1, hz2⟩ := info_parts infoM
  have hx : Fr No w (w.alloc (.cells #[.slice za zl.length zc, .int .i64 0] 29)) := (Fr.refl _ _).alloc _
  have ht := Tape.make hl 29
  have hE0 := hE.no hx
  have hsz := hE.sz
  have hs0 : (w.alloc (.cells #[.slice za zl.length zc, .int .i64 0] 29)).heap.size = w.heap.size + 1 := by simp
  obtain ⟨W0, hW0⟩ : ∃ W0, W0 = w.alloc (.cells #[.slice za zl.length zc, .int .i64 0] 29) := ⟨_, rfl⟩
  rw [← hW0] at hx ht hE0 hs0
  have hs0' : w.heap.size + 1 ≤ W0.heap.size := by omega
  clear hs0 hE hl
  have hpv := made_mbs w.heap.size w.heap.size 0 7 W0 ht (by omega) (by omega)
  go_enter Tryz.func9, Tryz.ntmps9
  go_wp2_with fail
  rw [← hW0]
  clear hW0
  refine hpv.mono ?_
  rintro en w1 ⟨⟨L, a1, c1, k1, rfl, hL1, hLa, hLf, hLo, hLl, hk1, ht1, hLown⟩, hf1⟩
  have hE1 := hE0.fr hf1 (fun b hb h => by unfold Is at h; omega)
  have hfw1 : Fr No w w1 := hx.trans hf1 (fun _ _ h => h) (fun b hb h => by unfold Is at h; omega)
  have hs1 := hf1.size
  clear hpv ht hE0 hx hf1
  have hmm := made_mb w.heap.size w.heap.size k1 w1 ht1 (by omega)
  go_wp2_with fail
  refine hmm.mono ?_
  rintro en w2 ⟨⟨m, k2, rfl, ⟨hSm2, _⟩, _, hmo, _, _⟩, hf2⟩
  have hE2 := hE1.fr hf2 (fun b hb h => by unfold Is at h; omega)
  have hfw2 : Fr No w w2 := hfw1.trans hf2 (fun _ _ h => h) (fun b hb h => by unfold Is at h; omega)
  have hL2 := hL1.fr hf2 (fun ad e _ h => by have := hLa ad e; unfold Is at h; omega) (fun m hm ad e _ h => by have := (hLf m hm).2.2 ad e; unfold Is at h; omega)
  have HsmQ := Lib.hid (later_small hLo (by omega) hmo)
  have Hr9 : Hid (∀ m ∈ L, m.r ≤ 2) := fun m hm => (hLo m hm).r.2
  have hmn := hmo.n
  have hs2 := hf2.size
  clear hmm ht1 hE1 hfw1 hf2 hL1 hLa hLf hLown hmo
  obtain ⟨mp, mi, mr, ms, mt, me, ma, ml, mc⟩ := m
  simp only at HsmQ hSm2 hmn
  unfold Mem.vals
  simp only
  have hxm : Fr No w2 (w2.alloc (.cells #[.string mp, .string mi, .int .i64 9, .int .i64 ms, .int .i64 mt, .int .i64 me, .slice ma ml.length mc] 58)) := (Fr.refl _ _).alloc _
  have q5w := block_alloc w2 (.cells #[.string mp, .string mi, .int .i64 9, .int .i64 ms, .int .i64 mt, .int .i64 me, .slice ma ml.length mc] 58)
  obtain ⟨W5, hW5⟩ : ∃ W5, W5 = w2.alloc (.cells #[.string mp, .string mi, .int .i64 9, .int .i64 ms, .int .i64 mt, .int .i64 me, .slice ma ml.length mc] 58) := ⟨_, rfl⟩
  rw [← hW5] at hxm q5w
  have hE5 := hE2.no hxm
  have hL5 := hL2.no hxm (fun _ => id)
  have hSm5 := hSm2.no hxm (fun _ => id)
  have hfw5 := hfw2.step hxm (fun _ _ h => h)
  have hs5 := hxm.size
  have hl5' := lt_of_block q5w
  clear hE2 hL2 hSm2 hfw2 hxm
  go_upto_region 5 with (fail)
  rw [← hW5]
  clear hW5
  refine region_tree (From W5.heap.size) (.q 0 (.q 2 (.q 4 (.m2 1 (.m2 3 (.m1 5 (.m1 6 (.m1 7 (.q 8 (.q 9 .fin))))) 5 (.m1 3 (.m1 6 (.m1 7 (.q 8 (.q 9 .fin)))))) 5 (.m1 1 (.m1 3 (.m1 6 (.m1 7 (.q 8 (.q 9 .fin)))))))))) _ (by kernel_rfl) (by kernel_rfl) (fun w0 hf0 => ?_) (fun _ _ h => h)
  have hE6 := hE5.no hf0
  have hL := hL5.no hf0 (fun _ => id)
  have hSm := hSm5.no hf0 (fun _ => id)
  have q5w := hf0.heap q5w id
  have Hw0 := Lib.hid (hfw5.step hf0 (fun _ _ h => h))
  have HE := Lib.hid hE6
  obtain ⟨m0, hm0⟩ := hE6.len
  have hsz0 := hf0.size
  have hl5 := lt_of_block q5w
  have g0 : ∀ g : Gr (From W5.heap.size) w0, g.W.cell? ⟨w2.heap.size, 0, none⟩ = some (.string mp) := fun g => g.fr.cell (cell_of_block q5w 0) (by intro h; unfold From at h; simp only at h; omega)
  have g1 : ∀ g : Gr (From W5.heap.size) w0, g.W.cell? ⟨w2.heap.size, 1, none⟩ = some (.string mi) := fun g => g.fr.cell (cell_of_block q5w 1) (by intro h; unfold From at h; simp only at h; omega)
  have g2 : ∀ g : Gr (From W5.heap.size) w0, g.W.cell? ⟨w2.heap.size, 2, none⟩ = some (.int .i64 9) := fun g => g.fr.cell (cell_of_block q5w 2) (by intro h; unfold From at h; simp only at h; omega)
  have g3 : ∀ g : Gr (From W5.heap.size) w0, g.W.cell? ⟨w2.heap.size, 3, none⟩ = some (.int .i64 ms) := fun g => g.fr.cell (cell_of_block q5w 3) (by intro h; unfold From at h; simp only at h; omega)
  have g4 : ∀ g : Gr (From W5.heap.size) w0, g.W.cell? ⟨w2.heap.size, 4, none⟩ = some (.int .i64 mt) := fun g => g.fr.cell (cell_of_block q5w 4) (by intro h; unfold From at h; simp only at h; omega)
  have g5 : ∀ g : Gr (From W5.heap.size) w0, g.W.cell? ⟨w2.heap.size, 5, none⟩ = some (.int .i64 me) := fun g => g.fr.cell (cell_of_block q5w 5) (by intro h; unfold From at h; simp only at h; omega)
  have g6 : ∀ g : Gr (From W5.heap.size) w0, g.W.cell? ⟨w2.heap.size, 6, none⟩ = some (.slice ma ml.length mc) := fun g => g.fr.cell (cell_of_block q5w 6) (by intro h; unfold From at h; simp only at h; omega)
  have HF : Fr No w0 w0 := Fr.refl _ _
  have hsE := hE6.sz
  clear hf0 hE5 hL5 hSm5 hfw5 hE6
  repeat (first | (apply tree_q; exact rfl; exact rfl; exact rfl; intro K hK; go_big_quiet_op; go_big_quiet_on) | (apply tree_skip; exact rfl; exact rfl; exact rfl; intro K hK; go_big_quiet_op; go_big_quiet_on))
  clear g0 g1 g2 g3 g4 g5 g6
  refine tree_m2 rfl rfl ?_ ?_
  · have hgr := a_group a1 c1 L m0 w0 (hL.no HF (fun _ => id)) (mb_small hLo (by omega)) (HF.cell hm0 id) (by have := HF.size; omega)
    go_wp2_with fail
    refine hgr.mono ?_
    rintro en X1 ⟨⟨oa, oc, O, ids, rfl, hO, _, _, hids, hOe, hOl, _⟩, hxx⟩
    have HOe := Lib.hid hOe
    clear hgr
    go_wp2_with fail
    refine OnlyN.mk ⟨hxx.mono (fun _ _ h => h.elim), ?_⟩
    have HF : Fr No w0 X1 := HF.step hxx (fun _ _ h => h)
    clear hxx
    repeat (first | (apply tree_q; exact rfl; exact rfl; exact rfl; intro K hK; go_big_quiet_op; go_big_quiet_on) | (apply tree_skip; exact rfl; exact rfl; exact rfl; intro K hK; go_big_quiet_op; go_big_quiet_on))
    refine tree_m2 rfl rfl ?_ ?_
    · have hL3 := hL.no HF (fun _ => id)
      have hup := hL3.upto L.length (Nat.le_refl _)
      rw [List.take_length] at hup
      have hX3 := HF.size
      go_wp2_with (at_builtin; refine wpList_append_src rfl _ _ 23 rfl (X1.heap.size) 58 i0 (.agg #[.string ByteArray.empty, .string ByteArray.empty, .int .i64 0, .int .i64 0, .int .i64 0, .int .i64 0, .slice none 0 0]) 7 88 Tryz.underlying23 hi0 hz0 hz1 hz2 rfl (by decide) _ 0 [] rfl (World.ownsRow_nil _ _ _ _) _ L.length _ (mflat L) rfl hup.2 (by rw [mflat_len]) hup.1 (mflat_one _) (by unfold maxLen; omega) (by omega) (by first | omega | (simp; done) | (simp; omega)) ?_; intro v5 X2 own1 gr1; simp only [Nat.zero_add, List.nil_append] at own1; obtain ⟨av1, cv1, rfl⟩ := ownsRow_slice own1)
      have hxx : Fr No X1 X2 := Fr.of_grown_none gr1
      refine OnlyN.mk ⟨hxx.mono (fun _ _ h => h.elim), ?_⟩
      have hO3 := hO
      have HF3 := hxx
      have HF : Fr No w0 X2 := HF.step hxx (fun _ _ h => h)
      clear hxx gr1 hup hL3
      repeat (first | (apply tree_q; exact rfl; exact rfl; exact rfl; intro K hK; go_big_quiet_op; go_big_quiet_on) | (apply tree_skip; exact rfl; exact rfl; exact rfl; intro K hK; go_big_quiet_op; go_big_quiet_on))
      refine tree_m1 rfl ?_
      have hxx : Fr No X2 (X2.alloc (.cells #[.string mp, .string mi, .int .i64 9, .int .i64 ms, .int .i64 mt, .int .i64 me, .slice ma ml.length mc] 58)) := (Fr.refl _ _).alloc _
      have q5 := block_alloc X2 (.cells #[.string mp, .string mi, .int .i64 9, .int .i64 ms, .int .i64 mt, .int .i64 me, .slice ma ml.length mc] 58)
      go_wp2_with fail
      refine OnlyN.mk ⟨(Fr.refl _ _).alloc _, ?_⟩
      obtain ⟨X3, hY⟩ : ∃ Y, Y = X2.alloc (.cells #[.string mp, .string mi, .int .i64 9, .int .i64 ms, .int .i64 mt, .int .i64 me, .slice ma ml.length mc] 58) := ⟨_, rfl⟩
      rw [← hY] at hxx q5 ⊢
      have HF3 := HF3.step hxx (fun _ _ h => h)
      have own1 := ownsRow_at own1 hxx (fun _ _ h => h)
      have HF : Fr No w0 X3 := HF.step hxx (fun _ _ h => h)
      clear hxx hY
      repeat (first | (apply tree_q; exact rfl; exact rfl; exact rfl; intro K hK; go_big_quiet_op; go_big_quiet_on) | (apply tree_skip; exact rfl; exact rfl; exact rfl; intro K hK; go_big_quiet_op; go_big_quiet_on))
      refine tree_m1 rfl ?_
      have hszz := HF3.size
      have Hown := Lib.hid own1
      go_wp2_with (at_builtin; refine wpList_append_own _ rfl _ _ 23 rfl (X1.heap.size) 58 i0 (.agg #[.string ByteArray.empty, .string ByteArray.empty, .int .i64 0, .int .i64 0, .int .i64 0, .int .i64 0, .slice none 0 0]) 7 88 Tryz.underlying23 hi0 hz0 hz1 hz2 rfl (by decide) _ _ _ rfl own1 ⟨X2.heap.size, 0, none⟩ 1 1 (Mem.vals (⟨mp, mi, 9, ms, mt, me, ma, ml, mc⟩ : Mem)).toList rfl rfl (cells_at q5) (mvals_one _) (by unfold maxLen; omega) (by omega) (by first | omega | (simp; done) | (simp; omega)) ?_; intro v' X4 hown9 hgrow9 _; obtain ⟨av', cv', rfl⟩ := ownsRow_slice hown9)
      have hgf : Fr (fun b => (Value.slice av1 L.length cv1).ownBlock = some b) X3 X4 := Fr.of_grown hgrow9
      refine OnlyN.mk ⟨hgf.mono (fun b _ h => by have := ownsRow_blk Hown.out h; unfold From at *; omega), ?_⟩
      have hO := hO3.keep (S := From X1.heap.size) ((HF3.mono (fun _ _ h => h.elim)).step hgf (fun b _ h => ownsRow_blk Hown.out h)) (fun b hb h => by unfold From at h; omega)
      have HF : Fr No w0 X4 := HF.trans hgf (fun _ _ h => h) (fun b hb h => by have := ownsRow_blk Hown.out h; unfold From at this; omega)
      have hS9 : ∀ m ∈ L ++ [(⟨mp, mi, 9, ms, mt, me, ma, ml, mc⟩ : Mem)], Strs X4 m.a m.c m.l := fun m hm => by
        rcases List.mem_append.1 hm with h | h
        · exact (hL.no HF (fun _ => id)).ok m h
        · obtain rfl := List.mem_singleton.1 h
          exact hSm.no HF (fun _ => id)
      have hownQ : X4.ownsRow (X1.heap.size) 58 7 (.slice av' (L ++ [(⟨mp, mi, 9, ms, mt, me, ma, ml, mc⟩ : Mem)]).length cv') (L ++ [(⟨mp, mi, 9, ms, mt, me, ma, ml, mc⟩ : Mem)]).length (mflat (L ++ [(⟨mp, mi, 9, ms, mt, me, ma, ml, mc⟩ : Mem)])) := by rw [List.length_append, mflat_snoc]; exact hown9
      obtain ⟨a6, c6, e6, hM9, _⟩ := Mems.of_own hownQ hS9
      cases e6
      clear hgf hgrow9 hown9 own1 Hown hownQ hS9 q5 hszz hO3 HF3
      repeat (first | (apply tree_q; exact rfl; exact rfl; exact rfl; intro K hK; go_big_quiet_op; go_big_quiet_on) | (apply tree_skip; exact rfl; exact rfl; exact rfl; intro K hK; go_big_quiet_op; go_big_quiet_on))
      refine tree_m1 rfl ?_
      have hgr := a_group av' cv' (L ++ [(⟨mp, mi, 9, ms, mt, me, ma, ml, mc⟩ : Mem)]) m0 X4 hM9 HsmQ.out (HF.cell hm0 id) (by have := HF.size; omega)
      rw [show (L ++ [(⟨mp, mi, 9, ms, mt, me, ma, ml, mc⟩ : Mem)]).length = L.length + 1 from by simp] at hgr
      go_wp2_with fail
      refine hgr.mono ?_
      rintro en X5 ⟨⟨pa, pc, P, ids2, rfl, hP, _, _, hids2, hPe, hPl, _⟩, hxx⟩
      have HPe := Lib.hid hPe
      have Hids := Lib.hid (And.intro hids hids2)
      clear hgr hM9
      go_wp2_with fail
      refine OnlyN.mk ⟨hxx.mono (fun _ _ h => h.elim), ?_⟩
      have hO := hO.no hxx (fun _ => id)
      have HF : Fr No w0 X5 := HF.step hxx (fun _ _ h => h)
      clear hxx hids hids2 hOe hPe hOl hPl hm0
      repeat (first | (apply tree_q; exact rfl; exact rfl; exact rfl; intro K hK; go_big_quiet_op; go_big_quiet_on) | (apply tree_skip; exact rfl; exact rfl; exact rfl; intro K hK; go_big_quiet_op; go_big_quiet_on))
      refine tree_end ?_
      have HE2 := Lib.hid (HE.out.no HF)
      have HFw := Lib.hid (Hw0.out.step HF (fun _ _ h => h))
      have hqx := HF.heap q5w id
      have hOm := hO.lenmax
      have hPm := hP.lenmax
      clear HF
      go_wp2_with fail
      go_loopw [8] (fun i wr => ∃ q : Nat, q ≤ O.length ∧ i = .int .i64 (q : Int) ∧ Fr No X5 wr) (fun i _ => O.length - (intOf i).toNat)
      case atStart => exact ⟨0, by omega, rfl, Fr.refl _ _⟩
      case round =>
        obtain ⟨q, hq, rfl, hfr⟩ := hrel
        by_cases hlt : q < O.length
        · have hlt' : (q : Int) < O.length := by omega
          go_upto_region 9 with (fail)
          refine region_sig No [(0, false), (1, false), (2, false), (3, false), (4, false), (5, false), (6, false), (7, false), (8, false), (9, false), (10, false), (11, false), (12, false), (13, false), (14, false), (15, false), (16, false), (17, false), (18, false), (19, false), (20, false), (21, false), (22, false), (23, false), (24, false), (25, false), (26, false), (27, false), (28, false), (29, false), (30, false), (31, false), (32, false), (33, false), (34, false), (35, false), (36, false)] (by kernel_rfl) (by kernel_rfl) (fun w9 hf9 => ?_)
          have hfx := hfr.step hf9 (fun _ _ h => h)
          have hqy := hfx.heap hqx id
          obtain ⟨pb, po, A, rfl, hAq, ⟨hS1, _⟩, ⟨c0, c1, _, _, _, _⟩, _⟩ := (hO.no hfx (fun _ => id)).elem hlt
          have HA : Hid (A ∈ O) := List.mem_of_getElem? hAq
          have HAq := Lib.hid hAq
          have g0 : ∀ g : Gr No w9, g.W.cell? ⟨pb, po + q * 6, none⟩ = some (.string A.i) := fun g => g.fr.cell c0 id
          have g1 : ∀ g : Gr No w9, g.W.cell? ⟨pb, po + q * 6 + 1, none⟩ = some (.slice A.pa A.ps.length A.pc) := fun g => g.fr.cell c1 id
          have k1 : ∀ g : Gr No w9, g.W.cell? ⟨w2.heap.size, 1, none⟩ = some (.string mi) := fun g => g.fr.cell (cell_of_block hqy 1) id
          have k3 : ∀ g : Gr No w9, g.W.cell? ⟨w2.heap.size, 3, none⟩ = some (.int .i64 ms) := fun g => g.fr.cell (cell_of_block hqy 3) id
          have hpl := hS1.len
          have hpm := hS1.max
          have hpm' : A.ps.length ≤ 9223372036854775807 := by unfold maxLen at hpm; omega
          clear hAq c0 c1 hf9 hpm
          rcases hi : (A.i.toList == mi.toList) with _ | _
          · repeat (first | (apply sig_q; exact rfl; exact rfl; exact rfl; intro K hK; go_big_quiet_op; go_big_quiet_on) | (apply sig_skip; exact rfl; exact rfl; exact rfl; intro K hK; go_big_quiet_op; go_big_quiet_on))
            clear g0 g1 k1 k3 hi hS1 hqy
            refine sig_end ?_
            go_wp2_with fail
            go_roundw
            case rel => exact ⟨q + 1, by omega, by go_num, hfx⟩
            case measure => simp [intOf]; omega
          · have Hi := Lib.hid (kb_inj (by rw [ByteArray.toList_eq, ByteArray.toList_eq] at hi; exact eq_of_beq hi) : A.i = mi)
            by_cases hs1 : 1 ≤ ms
            · have hs1' : ¬ ms < 1 := by omega
              by_cases hs2 : ms ≤ A.ps.length
              · have hs2' : ¬ (A.ps.length : Int) < ms := by omega
                obtain ⟨k, hk⟩ : ∃ k : Nat, ms = (k : Int) + 1 := ⟨(ms - 1).toNat, by omega⟩
                have Hk := Lib.hid hk
                have hkl : k < A.ps.length := by omega
                have hk1 : ms - 1 = (k : Int) := by omega
                have hkl' : (k : Int) < A.ps.length := by omega
                obtain ⟨sb, so, pth, e9, hpth, s0⟩ := hS1.at hkl
                have g2 : ∀ g : Gr No w9, g.W.cell? ⟨sb, so + k, none⟩ = some (.string pth) := fun g => g.fr.cell s0 id
                have Hpth := Lib.hid hpth
                rw [e9] at g1
                clear hS1 s0 hk hpth
                rcases hne : pth.toList.isEmpty with _ | _
                · have Hne := Lib.hid hne
                  repeat (first | (apply sig_q; exact rfl; exact rfl; exact rfl; intro K hK; go_big_quiet_op; go_big_quiet_on) | (apply sig_skip; exact rfl; exact rfl; exact rfl; intro K hK; go_big_quiet_op; go_big_quiet_on))
                  clear g0 g1 g2 k1 k3 hi hne e9
                  refine sig_end ?_
                  have hfx2 := hfx
                  clear hfr
                  go_wp2_with fail
                  go_loopw [9] (fun i wz => ∃ j : Nat, j ≤ P.length ∧ i = .int .i64 (j : Int) ∧ Fr No X5 wz) (fun i _ => P.length - (intOf i).toNat)
                  case atStart => exact ⟨0, by omega, rfl, hfx⟩
                  case round =>
                    obtain ⟨j, hj, rfl, hfz⟩ := hrel
                    by_cases hltj : j < P.length
                    · have hltj' : (j : Int) < P.length := by omega
                      go_upto_region 13 with (fail)
                      refine region_tree No (.q 0 (.q 1 (.q 2 (.q 3 (.q 4 (.q 5 (.q 6 (.q 7 (.q 8 (.q 9 (.q 10 (.q 11 (.q 12 (.q 14 (.q 15 (.q 16 (.q 17 (.m2 13 (.m1 18 (.m1 19 (.q 20 (.q 21 .fin)))) 18 (.m1 13 (.m1 19 (.q 20 (.q 21 .fin)))))))))))))))))))))) _ (by kernel_rfl) (by kernel_rfl) (fun w8 hf8 => ?_) (fun _ _ h => h)
                      have hfy := hfz.step hf8 (fun _ _ h => h)
                      have hqz := hfy.heap hqx id
                      obtain ⟨pb', po', A', e8, hAq', ⟨a1, a2⟩, ⟨c0, c1, c2, c3, c4, c5⟩, _⟩ := (hO.no hfy (fun _ => id)).elem hlt
                      cases e8
                      obtain ⟨rb, ro, B, rfl, hBj, ⟨b1, b2⟩, ⟨d0, d1, d2, d3, d4, d5⟩, _⟩ := (hP.no hfy (fun _ => id)).elem hltj
                      have k1 : ∀ g : Gr No w8, g.W.cell? ⟨w2.heap.size, 1, none⟩ = some (.string mi) := fun g => g.fr.cell (cell_of_block hqz 1) id
                      have HB : Hid (B ∈ P) := List.mem_of_getElem? hBj
                      have HA' : Hid (A' = A) := by
                        unfold Hid
                        have h1 := HAq.out
                        rw [hAq'] at h1
                        exact (Option.some.inj h1)
                      have g0 : ∀ g : Gr No w8, g.W.cell? ⟨pb, po + q * 6, none⟩ = some (.string A'.i) := fun g => g.fr.cell c0 id
                      have g1 : ∀ g : Gr No w8, g.W.cell? ⟨pb, po + q * 6 + 1, none⟩ = some (.slice A'.pa A'.ps.length A'.pc) := fun g => g.fr.cell c1 id
                      have g2 : ∀ g : Gr No w8, g.W.cell? ⟨pb, po + q * 6 + 2, none⟩ = some (.int .i64 A'.t) := fun g => g.fr.cell c2 id
                      have g3 : ∀ g : Gr No w8, g.W.cell? ⟨pb, po + q * 6 + 3, none⟩ = some (.int .i64 A'.e) := fun g => g.fr.cell c3 id
                      have g4 : ∀ g : Gr No w8, g.W.cell? ⟨pb, po + q * 6 + 4, none⟩ = some (.int .i64 A'.n) := fun g => g.fr.cell c4 id
                      have g5 : ∀ g : Gr No w8, g.W.cell? ⟨pb, po + q * 6 + 5, none⟩ = some (.slice A'.la A'.l.length A'.lc) := fun g => g.fr.cell c5 id
                      have h0 : ∀ g : Gr No w8, g.W.cell? ⟨rb, ro + j * 6, none⟩ = some (.string B.i) := fun g => g.fr.cell d0 id
                      have h1 : ∀ g : Gr No w8, g.W.cell? ⟨rb, ro + j * 6 + 1, none⟩ = some (.slice B.pa B.ps.length B.pc) := fun g => g.fr.cell d1 id
                      have h2 : ∀ g : Gr No w8, g.W.cell? ⟨rb, ro + j * 6 + 2, none⟩ = some (.int .i64 B.t) := fun g => g.fr.cell d2 id
                      have h3 : ∀ g : Gr No w8, g.W.cell? ⟨rb, ro + j * 6 + 3, none⟩ = some (.int .i64 B.e) := fun g => g.fr.cell d3 id
                      have h4 : ∀ g : Gr No w8, g.W.cell? ⟨rb, ro + j * 6 + 4, none⟩ = some (.int .i64 B.n) := fun g => g.fr.cell d4 id
                      have h5 : ∀ g : Gr No w8, g.W.cell? ⟨rb, ro + j * 6 + 5, none⟩ = some (.slice B.la B.l.length B.lc) := fun g => g.fr.cell d5 id
                      have HS := Lib.hid (And.intro (And.intro a1 a2) (And.intro b1 b2))
                      clear hAq' hBj c0 c1 c2 c3 c4 c5 d0 d1 d2 d3 d4 d5 a1 a2 b1 b2 hf8 hqz hfz
                      rcases hbi : (B.i.toList == mi.toList) with _ | _
                      · repeat (first | (apply tree_q; exact rfl; exact rfl; exact rfl; intro K hK; go_big_quiet_op; go_big_quiet_on) | (apply tree_skip; exact rfl; exact rfl; exact rfl; intro K hK; go_big_quiet_op; go_big_quiet_on))
                        clear g0 g1 g2 g3 g4 g5 h0 h1 h2 h3 h4 h5 k1
                        refine tree_m2 rfl rfl ?_ ?_
                        · go_wp2_with fail
                          refine OnlyN.mk ⟨Fr.refl _ _, ?_⟩
                          refine tree_m1 rfl ?_
                          go_wp2_with fail
                          refine OnlyN.mk ⟨Fr.refl _ _, ?_⟩
                          refine tree_m1 rfl ?_
                          go_wp2_with fail
                          refine OnlyN.mk ⟨Fr.refl _ _, ?_⟩
                          repeat (first | (apply tree_q; exact rfl; exact rfl; exact rfl; intro K hK; go_big_quiet_op; go_big_quiet_on) | (apply tree_skip; exact rfl; exact rfl; exact rfl; intro K hK; go_big_quiet_op; go_big_quiet_on))
                          refine tree_end ?_
                          clear hbi
                          go_wp2_with fail
                          go_roundw
                          case rel => exact ⟨j + 1, by omega, by go_num, hfy⟩
                          case measure => simp [intOf]; omega
                        · go_wp2_with fail
                          refine OnlyN.mk ⟨Fr.refl _ _, ?_⟩
                          refine tree_m1 rfl ?_
                          go_wp2_with fail
                          refine OnlyN.mk ⟨Fr.refl _ _, ?_⟩
                          refine tree_m1 rfl ?_
                          go_wp2_with fail
                          refine OnlyN.mk ⟨Fr.refl _ _, ?_⟩
                          repeat (first | (apply tree_q; exact rfl; exact rfl; exact rfl; intro K hK; go_big_quiet_op; go_big_quiet_on) | (apply tree_skip; exact rfl; exact rfl; exact rfl; intro K hK; go_big_quiet_op; go_big_quiet_on))
                          refine tree_end ?_
                          clear hbi
                          go_wp2_with fail
                          go_roundw
                          case rel => exact ⟨j + 1, by omega, by go_num, hfy⟩
                          case measure => simp [intOf]; omega
                      · have Hbi := Lib.hid (kb_inj (by rw [ByteArray.toList_eq, ByteArray.toList_eq] at hbi; exact eq_of_beq hbi) : B.i = mi)
                        have Hee : Hid (A'.toArr = B.toArr) := by unfold Hid; rw [HA'.out]; exact later_eq (x := (⟨mp, mi, 9, ms, mt, me, ma, ml, mc⟩ : Mem)) Hr9.out rfl HOe.out HPe.out HA.out HB.out Hi.out Hbi.out Hk.out Hpth.out Hne.out
                        repeat (first | (apply tree_q; exact rfl; exact rfl; exact rfl; intro K hK; go_big_quiet_op; go_big_quiet_on) | (apply tree_skip; exact rfl; exact rfl; exact rfl; intro K hK; go_big_quiet_op; go_big_quiet_on))
                        clear g0 g1 g2 g3 g4 g5 h0 h1 h2 h3 h4 h5 k1
                        refine tree_m2 rfl rfl ?_ ?_
                        · have x1 : Fr No w8 (w8.alloc (.cells #[.string A'.i, .slice A'.pa A'.ps.length A'.pc, .int .i64 A'.t, .int .i64 A'.e, .int .i64 A'.n, .slice A'.la A'.l.length A'.lc] 42)) := (Fr.refl _ _).alloc _
                          have p1 := block_alloc w8 (.cells #[.string A'.i, .slice A'.pa A'.ps.length A'.pc, .int .i64 A'.t, .int .i64 A'.e, .int .i64 A'.n, .slice A'.la A'.l.length A'.lc] 42)
                          obtain ⟨Y1, hY1⟩ : ∃ Y, Y = w8.alloc (.cells #[.string A'.i, .slice A'.pa A'.ps.length A'.pc, .int .i64 A'.t, .int .i64 A'.e, .int .i64 A'.n, .slice A'.la A'.l.length A'.lc] 42) := ⟨_, rfl⟩
                          go_wp2_with fail
                          rw [← hY1] at x1 p1 ⊢
                          refine OnlyN.mk ⟨x1, ?_⟩
                          clear hY1
                          have x2 : Fr No Y1 (Y1.alloc (.cells #[.string B.i, .slice B.pa B.ps.length B.pc, .int .i64 B.t, .int .i64 B.e, .int .i64 B.n, .slice B.la B.l.length B.lc] 42)) := (Fr.refl _ _).alloc _
                          have p2 := block_alloc Y1 (.cells #[.string B.i, .slice B.pa B.ps.length B.pc, .int .i64 B.t, .int .i64 B.e, .int .i64 B.n, .slice B.la B.l.length B.lc] 42)
                          obtain ⟨Y2, hY2⟩ : ∃ Y, Y = Y1.alloc (.cells #[.string B.i, .slice B.pa B.ps.length B.pc, .int .i64 B.t, .int .i64 B.e, .int .i64 B.n, .slice B.la B.l.length B.lc] 42) := ⟨_, rfl⟩
                          refine tree_m1 rfl ?_
                          go_wp2_with fail
                          rw [← hY2] at x2 p2 ⊢
                          refine OnlyN.mk ⟨x2, ?_⟩
                          clear hY2
                          have x12 := x1.step x2 (fun _ _ h => h)
                          have m1 := one_arrs (A := A') (x2.heap p1 id) ⟨HS.out.1.1.no x12 (fun _ => id), HS.out.1.2.no x12 (fun _ => id)⟩
                          have m2 := one_arrs (A := B) p2 ⟨HS.out.2.1.no x12 (fun _ => id), HS.out.2.2.no x12 (fun _ => id)⟩
                          have hsm := same_arrays_eq (some ⟨w8.heap.size, 0, none⟩) (some ⟨Y1.heap.size, 0, none⟩) 1 1 [A'] [B] Y2 m1 m2 (by simp only [List.map_cons, List.map_nil, Hee.out])
                          refine tree_m1 rfl ?_
                          clear p1 p2 m1 m2 x1 x2
                          go_wp2_with fail
                          refine hsm.mono ?_
                          rintro en w7 ⟨rfl, hf7⟩
                          have hfz2 := (hfy.step x12 (fun _ _ h => h)).step hf7 (fun _ _ h => h)
                          clear hsm
                          go_wp2_with fail
                          refine OnlyN.mk ⟨hf7, ?_⟩
                          clear hf7 x12
                          repeat (first | (apply tree_q; exact rfl; exact rfl; exact rfl; intro K hK; go_big_quiet_op; go_big_quiet_on) | (apply tree_skip; exact rfl; exact rfl; exact rfl; intro K hK; go_big_quiet_op; go_big_quiet_on))
                          refine tree_end ?_
                          clear hbi
                          go_wp2_with fail
                          go_roundw
                          case rel => exact ⟨j + 1, by omega, by go_num, hfz2⟩
                          case measure => simp [intOf]; omega
                        · have x1 : Fr No w8 (w8.alloc (.cells #[.string B.i, .slice B.pa B.ps.length B.pc, .int .i64 B.t, .int .i64 B.e, .int .i64 B.n, .slice B.la B.l.length B.lc] 42)) := (Fr.refl _ _).alloc _
                          have p1 := block_alloc w8 (.cells #[.string B.i, .slice B.pa B.ps.length B.pc, .int .i64 B.t, .int .i64 B.e, .int .i64 B.n, .slice B.la B.l.length B.lc] 42)
                          obtain ⟨Y1, hY1⟩ : ∃ Y, Y = w8.alloc (.cells #[.string B.i, .slice B.pa B.ps.length B.pc, .int .i64 B.t, .int .i64 B.e, .int .i64 B.n, .slice B.la B.l.length B.lc] 42) := ⟨_, rfl⟩
                          go_wp2_with fail
                          rw [← hY1] at x1 p1 ⊢
                          refine OnlyN.mk ⟨x1, ?_⟩
                          clear hY1
                          have x2 : Fr No Y1 (Y1.alloc (.cells #[.string A'.i, .slice A'.pa A'.ps.length A'.pc, .int .i64 A'.t, .int .i64 A'.e, .int .i64 A'.n, .slice A'.la A'.l.length A'.lc] 42)) := (Fr.refl _ _).alloc _
                          have p2 := block_alloc Y1 (.cells #[.string A'.i, .slice A'.pa A'.ps.length A'.pc, .int .i64 A'.t, .int .i64 A'.e, .int .i64 A'.n, .slice A'.la A'.l.length A'.lc] 42)
                          obtain ⟨Y2, hY2⟩ : ∃ Y, Y = Y1.alloc (.cells #[.string A'.i, .slice A'.pa A'.ps.length A'.pc, .int .i64 A'.t, .int .i64 A'.e, .int .i64 A'.n, .slice A'.la A'.l.length A'.lc] 42) := ⟨_, rfl⟩
                          refine tree_m1 rfl ?_
                          go_wp2_with fail
                          rw [← hY2] at x2 p2 ⊢
                          refine OnlyN.mk ⟨x2, ?_⟩
                          clear hY2
                          have x12 := x1.step x2 (fun _ _ h => h)
                          have m1 := one_arrs (A := B) (x2.heap p1 id) ⟨HS.out.2.1.no x12 (fun _ => id), HS.out.2.2.no x12 (fun _ => id)⟩
                          have m2 := one_arrs (A := A') p2 ⟨HS.out.1.1.no x12 (fun _ => id), HS.out.1.2.no x12 (fun _ => id)⟩
                          have hsm := same_arrays_eq (some ⟨Y1.heap.size, 0, none⟩) (some ⟨w8.heap.size, 0, none⟩) 1 1 [A'] [B] Y2 m2 m1 (by simp only [List.map_cons, List.map_nil, Hee.out])
                          refine tree_m1 rfl ?_
                          clear p1 p2 m1 m2 x1 x2
                          go_wp2_with fail
                          refine hsm.mono ?_
                          rintro en w7 ⟨rfl, hf7⟩
                          have hfz2 := (hfy.step x12 (fun _ _ h => h)).step hf7 (fun _ _ h => h)
                          clear hsm
                          go_wp2_with fail
                          refine OnlyN.mk ⟨hf7, ?_⟩
                          clear hf7 x12
                          repeat (first | (apply tree_q; exact rfl; exact rfl; exact rfl; intro K hK; go_big_quiet_op; go_big_quiet_on) | (apply tree_skip; exact rfl; exact rfl; exact rfl; intro K hK; go_big_quiet_op; go_big_quiet_on))
                          refine tree_end ?_
                          clear hbi
                          go_wp2_with fail
                          go_roundw
                          case rel => exact ⟨j + 1, by omega, by go_num, hfz2⟩
                          case measure => simp [intOf]; omega
                    · obtain rfl : j = P.length := by omega
                      have hgj : ¬ (P.length : Int) < P.length := by omega
                      have hfx := hfz
                      go_wp2_with fail
                      go_roundw
                      case rel => exact ⟨q + 1, by omega, by go_num, hfx⟩
                      case measure => simp [intOf]; omega
                · repeat (first | (apply sig_q; exact rfl; exact rfl; exact rfl; intro K hK; go_big_quiet_op; go_big_quiet_on) | (apply sig_skip; exact rfl; exact rfl; exact rfl; intro K hK; go_big_quiet_op; go_big_quiet_on))
                  clear g0 g1 g2 k1 k3 hi hne e9
                  refine sig_end ?_
                  go_wp2_with fail
                  go_roundw
                  case rel => exact ⟨q + 1, by omega, by go_num, hfx⟩
                  case measure => simp [intOf]; omega
              · have hs2' : (A.ps.length : Int) < ms := by omega
                repeat (first | (apply sig_q; exact rfl; exact rfl; exact rfl; intro K hK; go_big_quiet_op; go_big_quiet_on) | (apply sig_skip; exact rfl; exact rfl; exact rfl; intro K hK; go_big_quiet_op; go_big_quiet_on))
                clear g0 g1 k1 k3 hi hS1 hqy
                refine sig_end ?_
                go_wp2_with fail
                go_roundw
                case rel => exact ⟨q + 1, by omega, by go_num, hfx⟩
                case measure => simp [intOf]; omega
            · have hs1' : ms < 1 := by omega
              repeat (first | (apply sig_q; exact rfl; exact rfl; exact rfl; intro K hK; go_big_quiet_op; go_big_quiet_on) | (apply sig_skip; exact rfl; exact rfl; exact rfl; intro K hK; go_big_quiet_op; go_big_quiet_on))
              clear g0 g1 k1 k3 hi hS1 hqy
              refine sig_end ?_
              go_wp2_with fail
              go_roundw
              case rel => exact ⟨q + 1, by omega, by go_num, hfx⟩
              case measure => simp [intOf]; omega
        · obtain rfl : q = O.length := by omega
          have hge : ¬ (O.length : Int) < O.length := by omega
          have hlen : O.length ≤ P.length := by
            have h1 := congrArg List.length HOe.out
            have h2 := congrArg List.length HPe.out
            simp only [List.length_map] at h1 h2
            rw [h1, h2]
            exact later_len Hids.out.1 Hids.out.2 (fun p => later_some L (⟨mp, mi, 9, ms, mt, me, ma, ml, mc⟩ : Mem) p)
          have hlen' : (O.length : Int) ≤ P.length := by omega
          have hk := known32 wr (HE2.out.no hfr)
          have hfw := HFw.out.step hfr (fun _ _ h => h)
          clear hO hP hfr hlen hqx
          go_wp2_with fail
          refine hk.mono ?_
          rintro en w7 ⟨rfl, hf7⟩
          have hfin := hfw.step hf7 (fun _ _ h => h)
          clear hk hf7 hfw
          go_wp2_with fail
          go_ret
          exact ⟨rfl, hfin⟩
    · have hxx : Fr No X1 (X1.alloc (.cells #[.string mp, .string mi, .int .i64 9, .int .i64 ms, .int .i64 mt, .int .i64 me, .slice ma ml.length mc] 58)) := (Fr.refl _ _).alloc _
      have q5 := block_alloc X1 (.cells #[.string mp, .string mi, .int .i64 9, .int .i64 ms, .int .i64 mt, .int .i64 me, .slice ma ml.length mc] 58)
      go_wp2_with fail
      refine OnlyN.mk ⟨(Fr.refl _ _).alloc _, ?_⟩
      obtain ⟨X2, hY⟩ : ∃ Y, Y = X1.alloc (.cells #[.string mp, .string mi, .int .i64 9, .int .i64 ms, .int .i64 mt, .int .i64 me, .slice ma ml.length mc] 58) := ⟨_, rfl⟩
      rw [← hY] at hxx q5 ⊢
      have hO := hO.no hxx (fun _ => id)
      have HF : Fr No w0 X2 := HF.step hxx (fun _ _ h => h)
      clear hxx hY
      repeat (first | (apply tree_q; exact rfl; exact rfl; exact rfl; intro K hK; go_big_quiet_op; go_big_quiet_on) | (apply tree_skip; exact rfl; exact rfl; exact rfl; intro K hK; go_big_quiet_op; go_big_quiet_on))
      refine tree_m1 rfl ?_
      have hL3 := hL.no HF (fun _ => id)
      have hup := hL3.upto L.length (Nat.le_refl _)
      rw [List.take_length] at hup
      have hX3 := HF.size
      go_wp2_with (at_builtin; refine wpList_append_src rfl _ _ 23 rfl (X2.heap.size) 58 i0 (.agg #[.string ByteArray.empty, .string ByteArray.empty, .int .i64 0, .int .i64 0, .int .i64 0, .int .i64 0, .slice none 0 0]) 7 88 Tryz.underlying23 hi0 hz0 hz1 hz2 rfl (by decide) _ 0 [] rfl (World.ownsRow_nil _ _ _ _) _ L.length _ (mflat L) rfl hup.2 (by rw [mflat_len]) hup.1 (mflat_one _) (by unfold maxLen; omega) (by omega) (by first | omega | (simp; done) | (simp; omega)) ?_; intro v5 X3 own1 gr1; simp only [Nat.zero_add, List.nil_append] at own1; obtain ⟨av1, cv1, rfl⟩ := ownsRow_slice own1)
      have hxx : Fr No X2 X3 := Fr.of_grown_none gr1
      refine OnlyN.mk ⟨hxx.mono (fun _ _ h => h.elim), ?_⟩
      have q5 := hxx.heap q5 id
      have hO3 := hO
      have HF3 := hxx
      have HF : Fr No w0 X3 := HF.step hxx (fun _ _ h => h)
      clear hxx gr1 hup hL3
      repeat (first | (apply tree_q; exact rfl; exact rfl; exact rfl; intro K hK; go_big_quiet_op; go_big_quiet_on) | (apply tree_skip; exact rfl; exact rfl; exact rfl; intro K hK; go_big_quiet_op; go_big_quiet_on))
      refine tree_m1 rfl ?_
      have hszz := HF3.size
      have Hown := Lib.hid own1
      go_wp2_with (at_builtin; refine wpList_append_own _ rfl _ _ 23 rfl (X2.heap.size) 58 i0 (.agg #[.string ByteArray.empty, .string ByteArray.empty, .int .i64 0, .int .i64 0, .int .i64 0, .int .i64 0, .slice none 0 0]) 7 88 Tryz.underlying23 hi0 hz0 hz1 hz2 rfl (by decide) _ _ _ rfl own1 ⟨X1.heap.size, 0, none⟩ 1 1 (Mem.vals (⟨mp, mi, 9, ms, mt, me, ma, ml, mc⟩ : Mem)).toList rfl rfl (cells_at q5) (mvals_one _) (by unfold maxLen; omega) (by omega) (by first | omega | (simp; done) | (simp; omega)) ?_; intro v' X4 hown9 hgrow9 _; obtain ⟨av', cv', rfl⟩ := ownsRow_slice hown9)
      have hgf : Fr (fun b => (Value.slice av1 L.length cv1).ownBlock = some b) X3 X4 := Fr.of_grown hgrow9
      refine OnlyN.mk ⟨hgf.mono (fun b _ h => by have := ownsRow_blk Hown.out h; unfold From at *; omega), ?_⟩
      have hO := hO3.keep (S := From X2.heap.size) ((HF3.mono (fun _ _ h => h.elim)).step hgf (fun b _ h => ownsRow_blk Hown.out h)) (fun b hb h => by unfold From at h; omega)
      have HF : Fr No w0 X4 := HF.trans hgf (fun _ _ h => h) (fun b hb h => by have := ownsRow_blk Hown.out h; unfold From at this; omega)
      have hS9 : ∀ m ∈ L ++ [(⟨mp, mi, 9, ms, mt, me, ma, ml, mc⟩ : Mem)], Strs X4 m.a m.c m.l := fun m hm => by
        rcases List.mem_append.1 hm with h | h
        · exact (hL.no HF (fun _ => id)).ok m h
        · obtain rfl := List.mem_singleton.1 h
          exact hSm.no HF (fun _ => id)
      have hownQ : X4.ownsRow (X2.heap.size) 58 7 (.slice av' (L ++ [(⟨mp, mi, 9, ms, mt, me, ma, ml, mc⟩ : Mem)]).length cv') (L ++ [(⟨mp, mi, 9, ms, mt, me, ma, ml, mc⟩ : Mem)]).length (mflat (L ++ [(⟨mp, mi, 9, ms, mt, me, ma, ml, mc⟩ : Mem)])) := by rw [List.length_append, mflat_snoc]; exact hown9
      obtain ⟨a6, c6, e6, hM9, _⟩ := Mems.of_own hownQ hS9
      cases e6
      clear hgf hgrow9 hown9 own1 Hown hownQ hS9 q5 hszz hO3 HF3
      repeat (first | (apply tree_q; exact rfl; exact rfl; exact rfl; intro K hK; go_big_quiet_op; go_big_quiet_on) | (apply tree_skip; exact rfl; exact rfl; exact rfl; intro K hK; go_big_quiet_op; go_big_quiet_on))
      refine tree_m1 rfl ?_
      have hgr := a_group av' cv' (L ++ [(⟨mp, mi, 9, ms, mt, me, ma, ml, mc⟩ : Mem)]) m0 X4 hM9 HsmQ.out (HF.cell hm0 id) (by have := HF.size; omega)
      rw [show (L ++ [(⟨mp, mi, 9, ms, mt, me, ma, ml, mc⟩ : Mem)]).length = L.length + 1 from by simp] at hgr
      go_wp2_with fail
      refine hgr.mono ?_
      rintro en X5 ⟨⟨pa, pc, P, ids2, rfl, hP, _, _, hids2, hPe, hPl, _⟩, hxx⟩
      have HPe := Lib.hid hPe
      have Hids := Lib.hid (And.intro hids hids2)
      clear hgr hM9
      go_wp2_with fail
      refine OnlyN.mk ⟨hxx.mono (fun _ _ h => h.elim), ?_⟩
      have hO := hO.no hxx (fun _ => id)
      have HF : Fr No w0 X5 := HF.step hxx (fun _ _ h => h)
      clear hxx hids hids2 hOe hPe hOl hPl hm0
      repeat (first | (apply tree_q; exact rfl; exact rfl; exact rfl; intro K hK; go_big_quiet_op; go_big_quiet_on) | (apply tree_skip; exact rfl; exact rfl; exact rfl; intro K hK; go_big_quiet_op; go_big_quiet_on))
      refine tree_end ?_
      have HE2 := Lib.hid (HE.out.no HF)
      have HFw := Lib.hid (Hw0.out.step HF (fun _ _ h => h))
      have hqx := HF.heap q5w id
      have hOm := hO.lenmax
      have hPm := hP.lenmax
      clear HF
      go_wp2_with fail
      go_loopw [8] (fun i wr => ∃ q : Nat, q ≤ O.length ∧ i = .int .i64 (q : Int) ∧ Fr No X5 wr) (fun i _ => O.length - (intOf i).toNat)
      case atStart => exact ⟨0, by omega, rfl, Fr.refl _ _⟩
      case round =>
        obtain ⟨q, hq, rfl, hfr⟩ := hrel
        by_cases hlt : q < O.length
        · have hlt' : (q : Int) < O.length := by omega
          go_upto_region 9 with (fail)
          refine region_sig No [(0, false), (1, false), (2, false), (3, false), (4, false), (5, false), (6, false), (7, false), (8, false), (9, false), (10, false), (11, false), (12, false), (13, false), (14, false), (15, false), (16, false), (17, false), (18, false), (19, false), (20, false), (21, false), (22, false), (23, false), (24, false), (25, false), (26, false), (27, false), (28, false), (29, false), (30, false), (31, false), (32, false), (33, false), (34, false), (35, false), (36, false)] (by kernel_rfl) (by kernel_rfl) (fun w9 hf9 => ?_)
          have hfx := hfr.step hf9 (fun _ _ h => h)
          have hqy := hfx.heap hqx id
          obtain ⟨pb, po, A, rfl, hAq, ⟨hS1, _⟩, ⟨c0, c1, _, _, _, _⟩, _⟩ := (hO.no hfx (fun _ => id)).elem hlt
          have HA : Hid (A ∈ O) := List.mem_of_getElem? hAq
          have HAq := Lib.hid hAq
          have g0 : ∀ g : Gr No w9, g.W.cell? ⟨pb, po + q * 6, none⟩ = some (.string A.i) := fun g => g.fr.cell c0 id
          have g1 : ∀ g : Gr No w9, g.W.cell? ⟨pb, po + q * 6 + 1, none⟩ = some (.slice A.pa A.ps.length A.pc) := fun g => g.fr.cell c1 id
          have k1 : ∀ g : Gr No w9, g.W.cell? ⟨w2.heap.size, 1, none⟩ = some (.string mi) := fun g => g.fr.cell (cell_of_block hqy 1) id
          have k3 : ∀ g : Gr No w9, g.W.cell? ⟨w2.heap.size, 3, none⟩ = some (.int .i64 ms) := fun g => g.fr.cell (cell_of_block hqy 3) id
          have hpl := hS1.len
          have hpm := hS1.max
          have hpm' : A.ps.length ≤ 9223372036854775807 := by unfold maxLen at hpm; omega
          clear hAq c0 c1 hf9 hpm
          rcases hi : (A.i.toList == mi.toList) with _ | _
          · repeat (first | (apply sig_q; exact rfl; exact rfl; exact rfl; intro K hK; go_big_quiet_op; go_big_quiet_on) | (apply sig_skip; exact rfl; exact rfl; exact rfl; intro K hK; go_big_quiet_op; go_big_quiet_on))
            clear g0 g1 k1 k3 hi hS1 hqy
            refine sig_end ?_
            go_wp2_with fail
            go_roundw
            case rel => exact ⟨q + 1, by omega, by go_num, hfx⟩
            case measure => simp [intOf]; omega
          · have Hi := Lib.hid (kb_inj (by rw [ByteArray.toList_eq, ByteArray.toList_eq] at hi; exact eq_of_beq hi) : A.i = mi)
            by_cases hs1 : 1 ≤ ms
            · have hs1' : ¬ ms < 1 := by omega
              by_cases hs2 : ms ≤ A.ps.length
              · have hs2' : ¬ (A.ps.length : Int) < ms := by omega
                obtain ⟨k, hk⟩ : ∃ k : Nat, ms = (k : Int) + 1 := ⟨(ms - 1).toNat, by omega⟩
                have Hk := Lib.hid hk
                have hkl : k < A.ps.length := by omega
                have hk1 : ms - 1 = (k : Int) := by omega
                have hkl' : (k : Int) < A.ps.length := by omega
                obtain ⟨sb, so, pth, e9, hpth, s0⟩ := hS1.at hkl
                have g2 : ∀ g : Gr No w9, g.W.cell? ⟨sb, so + k, none⟩ = some (.string pth) := fun g => g.fr.cell s0 id
                have Hpth := Lib.hid hpth
                rw [e9] at g1
                clear hS1 s0 hk hpth
                rcases hne : pth.toList.isEmpty with _ | _
                · have Hne := Lib.hid hne
                  repeat (first | (apply sig_q; exact rfl; exact rfl; exact rfl; intro K hK; go_big_quiet_op; go_big_quiet_on) | (apply sig_skip; exact rfl; exact rfl; exact rfl; intro K hK; go_big_quiet_op; go_big_quiet_on))
                  clear g0 g1 g2 k1 k3 hi hne e9
                  refine sig_end ?_
                  have hfx2 := hfx
                  clear hfr
                  go_wp2_with fail
                  go_loopw [9] (fun i wz => ∃ j : Nat, j ≤ P.length ∧ i = .int .i64 (j : Int) ∧ Fr No X5 wz) (fun i _ => P.length - (intOf i).toNat)
                  case atStart => exact ⟨0, by omega, rfl, hfx⟩
                  case round =>
                    obtain ⟨j, hj, rfl, hfz⟩ := hrel
                    by_cases hltj : j < P.length
                    · have hltj' : (j : Int) < P.length := by omega
                      go_upto_region 13 with (fail)
                      refine region_tree No (.q 0 (.q 1 (.q 2 (.q 3 (.q 4 (.q 5 (.q 6 (.q 7 (.q 8 (.q 9 (.q 10 (.q 11 (.q 12 (.q 14 (.q 15 (.q 16 (.q 17 (.m2 13 (.m1 18 (.m1 19 (.q 20 (.q 21 .fin)))) 18 (.m1 13 (.m1 19 (.q 20 (.q 21 .fin)))))))))))))))))))))) _ (by kernel_rfl) (by kernel_rfl) (fun w8 hf8 => ?_) (fun _ _ h => h)
                      have hfy := hfz.step hf8 (fun _ _ h => h)
                      have hqz := hfy.heap hqx id
                      obtain ⟨pb', po', A', e8, hAq', ⟨a1, a2⟩, ⟨c0, c1, c2, c3, c4, c5⟩, _⟩ := (hO.no hfy (fun _ => id)).elem hlt
                      cases e8
                      obtain ⟨rb, ro, B, rfl, hBj, ⟨b1, b2⟩, ⟨d0, d1, d2, d3, d4, d5⟩, _⟩ := (hP.no hfy (fun _ => id)).elem hltj
                      have k1 : ∀ g : Gr No w8, g.W.cell? ⟨w2.heap.size, 1, none⟩ = some (.string mi) := fun g => g.fr.cell (cell_of_block hqz 1) id
                      have HB : Hid (B ∈ P) := List.mem_of_getElem? hBj
                      have HA' : Hid (A' = A) := by
                        unfold Hid
                        have h1 := HAq.out
                        rw [hAq'] at h1
                        exact (Option.some.inj h1)
                      have g0 : ∀ g : Gr No w8, g.W.cell? ⟨pb, po + q * 6, none⟩ = some (.string A'.i) := fun g => g.fr.cell c0 id
                      have g1 : ∀ g : Gr No w8, g.W.cell? ⟨pb, po + q * 6 + 1, none⟩ = some (.slice A'.pa A'.ps.length A'.pc) := fun g => g.fr.cell c1 id
                      have g2 : ∀ g : Gr No w8, g.W.cell? ⟨pb, po + q * 6 + 2, none⟩ = some (.int .i64 A'.t) := fun g => g.fr.cell c2 id
                      have g3 : ∀ g : Gr No w8, g.W.cell? ⟨pb, po + q * 6 + 3, none⟩ = some (.int .i64 A'.e) := fun g => g.fr.cell c3 id
                      have g4 : ∀ g : Gr No w8, g.W.cell? ⟨pb, po + q * 6 + 4, none⟩ = some (.int .i64 A'.n) := fun g => g.fr.cell c4 id
                      have g5 : ∀ g : Gr No w8, g.W.cell? ⟨pb, po + q * 6 + 5, none⟩ = some (.slice A'.la A'.l.length A'.lc) := fun g => g.fr.cell c5 id
                      have h0 : ∀ g : Gr No w8, g.W.cell? ⟨rb, ro + j * 6, none⟩ = some (.string B.i) := fun g => g.fr.cell d0 id
                      have h1 : ∀ g : Gr No w8, g.W.cell? ⟨rb, ro + j * 6 + 1, none⟩ = some (.slice B.pa B.ps.length B.pc) := fun g => g.fr.cell d1 id
                      have h2 : ∀ g : Gr No w8, g.W.cell? ⟨rb, ro + j * 6 + 2, none⟩ = some (.int .i64 B.t) := fun g => g.fr.cell d2 id
                      have h3 : ∀ g : Gr No w8, g.W.cell? ⟨rb, ro + j * 6 + 3, none⟩ = some (.int .i64 B.e) := fun g => g.fr.cell d3 id
                      have h4 : ∀ g : Gr No w8, g.W.cell? ⟨rb, ro + j * 6 + 4, none⟩ = some (.int .i64 B.n) := fun g => g.fr.cell d4 id
                      have h5 : ∀ g : Gr No w8, g.W.cell? ⟨rb, ro + j * 6 + 5, none⟩ = some (.slice B.la B.l.length B.lc) := fun g => g.fr.cell d5 id
                      have HS := Lib.hid (And.intro (And.intro a1 a2) (And.intro b1 b2))
                      clear hAq' hBj c0 c1 c2 c3 c4 c5 d0 d1 d2 d3 d4 d5 a1 a2 b1 b2 hf8 hqz hfz
                      rcases hbi : (B.i.toList == mi.toList) with _ | _
                      · repeat (first | (apply tree_q; exact rfl; exact rfl; exact rfl; intro K hK; go_big_quiet_op; go_big_quiet_on) | (apply tree_skip; exact rfl; exact rfl; exact rfl; intro K hK; go_big_quiet_op; go_big_quiet_on))
                        clear g0 g1 g2 g3 g4 g5 h0 h1 h2 h3 h4 h5 k1
                        refine tree_m2 rfl rfl ?_ ?_
                        · go_wp2_with fail
                          refine OnlyN.mk ⟨Fr.refl _ _, ?_⟩
                          refine tree_m1 rfl ?_
                          go_wp2_with fail
                          refine OnlyN.mk ⟨Fr.refl _ _, ?_⟩
                          refine tree_m1 rfl ?_
                          go_wp2_with fail
                          refine OnlyN.mk ⟨Fr.refl _ _, ?_⟩
                          repeat (first | (apply tree_q; exact rfl; exact rfl; exact rfl; intro K hK; go_big_quiet_op; go_big_quiet_on) | (apply tree_skip; exact rfl; exact rfl; exact rfl; intro K hK; go_big_quiet_op; go_big_quiet_on))
                          refine tree_end ?_
                          clear hbi
                          go_wp2_with fail
                          go_roundw
                          case rel => exact ⟨j + 1, by omega, by go_num, hfy⟩
                          case measure => simp [intOf]; omega
                        · go_wp2_with fail
                          refine OnlyN.mk ⟨Fr.refl _ _, ?_⟩
                          refine tree_m1 rfl ?_
                          go_wp2_with fail
                          refine OnlyN.mk ⟨Fr.refl _ _, ?_⟩
                          refine tree_m1 rfl ?_
                          go_wp2_with fail
                          refine OnlyN.mk ⟨Fr.refl _ _, ?_⟩
                          repeat (first | (apply tree_q; exact rfl; exact rfl; exact rfl; intro K hK; go_big_quiet_op; go_big_quiet_on) | (apply tree_skip; exact rfl; exact rfl; exact rfl; intro K hK; go_big_quiet_op; go_big_quiet_on))
                          refine tree_end ?_
                          clear hbi
                          go_wp2_with fail
                          go_roundw
                          case rel => exact ⟨j + 1, by omega, by go_num, hfy⟩
                          case measure => simp [intOf]; omega
                      · have Hbi := Lib.hid (kb_inj (by rw [ByteArray.toList_eq, ByteArray.toList_eq] at hbi; exact eq_of_beq hbi) : B.i = mi)
                        have Hee : Hid (A'.toArr = B.toArr) := by unfold Hid; rw [HA'.out]; exact later_eq (x := (⟨mp, mi, 9, ms, mt, me, ma, ml, mc⟩ : Mem)) Hr9.out rfl HOe.out HPe.out HA.out HB.out Hi.out Hbi.out Hk.out Hpth.out Hne.out
                        repeat (first | (apply tree_q; exact rfl; exact rfl; exact rfl; intro K hK; go_big_quiet_op; go_big_quiet_on) | (apply tree_skip; exact rfl; exact rfl; exact rfl; intro K hK; go_big_quiet_op; go_big_quiet_on))
                        clear g0 g1 g2 g3 g4 g5 h0 h1 h2 h3 h4 h5 k1
                        refine tree_m2 rfl rfl ?_ ?_
                        · have x1 : Fr No w8 (w8.alloc (.cells #[.string A'.i, .slice A'.pa A'.ps.length A'.pc, .int .i64 A'.t, .int .i64 A'.e, .int .i64 A'.n, .slice A'.la A'.l.length A'.lc] 42)) := (Fr.refl _ _).alloc _
                          have p1 := block_alloc w8 (.cells #[.string A'.i, .slice A'.pa A'.ps.length A'.pc, .int .i64 A'.t, .int .i64 A'.e, .int .i64 A'.n, .slice A'.la A'.l.length A'.lc] 42)
                          obtain ⟨Y1, hY1⟩ : ∃ Y, Y = w8.alloc (.cells #[.string A'.i, .slice A'.pa A'.ps.length A'.pc, .int .i64 A'.t, .int .i64 A'.e, .int .i64 A'.n, .slice A'.la A'.l.length A'.lc] 42) := ⟨_, rfl⟩
                          go_wp2_with fail
                          rw [← hY1] at x1 p1 ⊢
                          refine OnlyN.mk ⟨x1, ?_⟩
                          clear hY1
                          have x2 : Fr No Y1 (Y1.alloc (.cells #[.string B.i, .slice B.pa B.ps.length B.pc, .int .i64 B.t, .int .i64 B.e, .int .i64 B.n, .slice B.la B.l.length B.lc] 42)) := (Fr.refl _ _).alloc _
                          have p2 := block_alloc Y1 (.cells #[.string B.i, .slice B.pa B.ps.length B.pc, .int .i64 B.t, .int .i64 B.e, .int .i64 B.n, .slice B.la B.l.length B.lc] 42)
                          obtain ⟨Y2, hY2⟩ : ∃ Y, Y = Y1.alloc (.cells #[.string B.i, .slice B.pa B.ps.length B.pc, .int .i64 B.t, .int .i64 B.e, .int .i64 B.n, .slice B.la B.l.length B.lc] 42) := ⟨_, rfl⟩
                          refine tree_m1 rfl ?_
                          go_wp2_with fail
                          rw [← hY2] at x2 p2 ⊢
                          refine OnlyN.mk ⟨x2, ?_⟩
                          clear hY2
                          have x12 := x1.step x2 (fun _ _ h => h)
                          have m1 := one_arrs (A := A') (x2.heap p1 id) ⟨HS.out.1.1.no x12 (fun _ => id), HS.out.1.2.no x12 (fun _ => id)⟩
                          have m2 := one_arrs (A := B) p2 ⟨HS.out.2.1.no x12 (fun _ => id), HS.out.2.2.no x12 (fun _ => id)⟩
                          have hsm := same_arrays_eq (some ⟨w8.heap.size, 0, none⟩) (some ⟨Y1.heap.size, 0, none⟩) 1 1 [A'] [B] Y2 m1 m2 (by simp only [List.map_cons, List.map_nil, Hee.out])
                          refine tree_m1 rfl ?_
                          clear p1 p2 m1 m2 x1 x2
                          go_wp2_with fail
                          refine hsm.mono ?_
                          rintro en w7 ⟨rfl, hf7⟩
                          have hfz2 := (hfy.step x12 (fun _ _ h => h)).step hf7 (fun _ _ h => h)
                          clear hsm
                          go_wp2_with fail
                          refine OnlyN.mk ⟨hf7, ?_⟩
                          clear hf7 x12
                          repeat (first | (apply tree_q; exact rfl; exact rfl; exact rfl; intro K hK; go_big_quiet_op; go_big_quiet_on) | (apply tree_skip; exact rfl; exact rfl; exact rfl; intro K hK; go_big_quiet_op; go_big_quiet_on))
                          refine tree_end ?_
                          clear hbi
                          go_wp2_with fail
                          go_roundw
                          case rel => exact ⟨j + 1, by omega, by go_num, hfz2⟩
                          case measure => simp [intOf]; omega
                        · have x1 : Fr No w8 (w8.alloc (.cells #[.string B.i, .slice B.pa B.ps.length B.pc, .int .i64 B.t, .int .i64 B.e, .int .i64 B.n, .slice B.la B.l.length B.lc] 42)) := (Fr.refl _ _).alloc _
                          have p1 := block_alloc w8 (.cells #[.string B.i, .slice B.pa B.ps.length B.pc, .int .i64 B.t, .int .i64 B.e, .int .i64 B.n, .slice B.la B.l.length B.lc] 42)
                          obtain ⟨Y1, hY1⟩ : ∃ Y, Y = w8.alloc (.cells #[.string B.i, .slice B.pa B.ps.length B.pc, .int .i64 B.t, .int .i64 B.e, .int .i64 B.n, .slice B.la B.l.length B.lc] 42) := ⟨_, rfl⟩
                          go_wp2_with fail
                          rw [← hY1] at x1 p1 ⊢
                          refine OnlyN.mk ⟨x1, ?_⟩
                          clear hY1
                          have x2 : Fr No Y1 (Y1.alloc (.cells #[.string A'.i, .slice A'.pa A'.ps.length A'.pc, .int .i64 A'.t, .int .i64 A'.e, .int .i64 A'.n, .slice A'.la A'.l.length A'.lc] 42)) := (Fr.refl _ _).alloc _
                          have p2 := block_alloc Y1 (.cells #[.string A'.i, .slice A'.pa A'.ps.length A'.pc, .int .i64 A'.t, .int .i64 A'.e, .int .i64 A'.n, .slice A'.la A'.l.length A'.lc] 42)
                          obtain ⟨Y2, hY2⟩ : ∃ Y, Y = Y1.alloc (.cells #[.string A'.i, .slice A'.pa A'.ps.length A'.pc, .int .i64 A'.t, .int .i64 A'.e, .int .i64 A'.n, .slice A'.la A'.l.length A'.lc] 42) := ⟨_, rfl⟩
                          refine tree_m1 rfl ?_
                          go_wp2_with fail
                          rw [← hY2] at x2 p2 ⊢
                          refine OnlyN.mk ⟨x2, ?_⟩
                          clear hY2
                          have x12 := x1.step x2 (fun _ _ h => h)
                          have m1 := one_arrs (A := B) (x2.heap p1 id) ⟨HS.out.2.1.no x12 (fun _ => id), HS.out.2.2.no x12 (fun _ => id)⟩
                          have m2 := one_arrs (A := A') p2 ⟨HS.out.1.1.no x12 (fun _ => id), HS.out.1.2.no x12 (fun _ => id)⟩
                          have hsm := same_arrays_eq (some ⟨Y1.heap.size, 0, none⟩) (some ⟨w8.heap.size, 0, none⟩) 1 1 [A'] [B] Y2 m2 m1 (by simp only [List.map_cons, List.map_nil, Hee.out])
                          refine tree_m1 rfl ?_
                          clear p1 p2 m1 m2 x1 x2
                          go_wp2_with fail
                          refine hsm.mono ?_
                          rintro en w7 ⟨rfl, hf7⟩
                          have hfz2 := (hfy.step x12 (fun _ _ h => h)).step hf7 (fun _ _ h => h)
                          clear hsm
                          go_wp2_with fail
                          refine OnlyN.mk ⟨hf7, ?_⟩
                          clear hf7 x12
                          repeat (first | (apply tree_q; exact rfl; exact rfl; exact rfl; intro K hK; go_big_quiet_op; go_big_quiet_on) | (apply tree_skip; exact rfl; exact rfl; exact rfl; intro K hK; go_big_quiet_op; go_big_quiet_on))
                          refine tree_end ?_
                          clear hbi
                          go_wp2_with fail
                          go_roundw
                          case rel => exact ⟨j + 1, by omega, by go_num, hfz2⟩
                          case measure => simp [intOf]; omega
                    · obtain rfl : j = P.length := by omega
                      have hgj : ¬ (P.length : Int) < P.length := by omega
                      have hfx := hfz
                      go_wp2_with fail
                      go_roundw
                      case rel => exact ⟨q + 1, by omega, by go_num, hfx⟩
                      case measure => simp [intOf]; omega
                · repeat (first | (apply sig_q; exact rfl; exact rfl; exact rfl; intro K hK; go_big_quiet_op; go_big_quiet_on) | (apply sig_skip; exact rfl; exact rfl; exact rfl; intro K hK; go_big_quiet_op; go_big_quiet_on))
                  clear g0 g1 g2 k1 k3 hi hne e9
                  refine sig_end ?_
                  go_wp2_with fail
                  go_roundw
                  case rel => exact ⟨q + 1, by omega, by go_num, hfx⟩
                  case measure => simp [intOf]; omega
              · have hs2' : (A.ps.length : Int) < ms := by omega
                repeat (first | (apply sig_q; exact rfl; exact rfl; exact rfl; intro K hK; go_big_quiet_op; go_big_quiet_on) | (apply sig_skip; exact rfl; exact rfl; exact rfl; intro K hK; go_big_quiet_op; go_big_quiet_on))
                clear g0 g1 k1 k3 hi hS1 hqy
                refine sig_end ?_
                go_wp2_with fail
                go_roundw
                case rel => exact ⟨q + 1, by omega, by go_num, hfx⟩
                case measure => simp [intOf]; omega
            · have hs1' : ms < 1 := by omega
              repeat (first | (apply sig_q; exact rfl; exact rfl; exact rfl; intro K hK; go_big_quiet_op; go_big_quiet_on) | (apply sig_skip; exact rfl; exact rfl; exact rfl; intro K hK; go_big_quiet_op; go_big_quiet_on))
              clear g0 g1 k1 k3 hi hS1 hqy
              refine sig_end ?_
              go_wp2_with fail
              go_roundw
              case rel => exact ⟨q + 1, by omega, by go_num, hfx⟩
              case measure => simp [intOf]; omega
        · obtain rfl : q = O.length := by omega
          have hge : ¬ (O.length : Int) < O.length := by omega
          have hlen : O.length ≤ P.length := by
            have h1 := congrArg List.length HOe.out
            have h2 := congrArg List.length HPe.out
            simp only [List.length_map] at h1 h2
            rw [h1, h2]
            exact later_len Hids.out.1 Hids.out.2 (fun p => later_some L (⟨mp, mi, 9, ms, mt, me, ma, ml, mc⟩ : Mem) p)
          have hlen' : (O.length : Int) ≤ P.length := by omega
          have hk := known32 wr (HE2.out.no hfr)
          have hfw := HFw.out.step hfr (fun _ _ h => h)
          clear hO hP hfr hlen hqx
          go_wp2_with fail
          refine hk.mono ?_
          rintro en w7 ⟨rfl, hf7⟩
          have hfin := hfw.step hf7 (fun _ _ h => h)
          clear hk hf7 hfw
          go_wp2_with fail
          go_ret
          exact ⟨rfl, hfin⟩
  · have hxx : Fr No w0 (w0.alloc (.cells #[.string mp, .string mi, .int .i64 9, .int .i64 ms, .int .i64 mt, .int .i64 me, .slice ma ml.length mc] 58)) := (Fr.refl _ _).alloc _
    have q5 := block_alloc w0 (.cells #[.string mp, .string mi, .int .i64 9, .int .i64 ms, .int .i64 mt, .int .i64 me, .slice ma ml.length mc] 58)
    go_wp2_with fail
    refine OnlyN.mk ⟨(Fr.refl _ _).alloc _, ?_⟩
    obtain ⟨X1, hY⟩ : ∃ Y, Y = w0.alloc (.cells #[.string mp, .string mi, .int .i64 9, .int .i64 ms, .int .i64 mt, .int .i64 me, .slice ma ml.length mc] 58) := ⟨_, rfl⟩
    rw [← hY] at hxx q5 ⊢
    have HF : Fr No w0 X1 := HF.step hxx (fun _ _ h => h)
    clear hxx hY
    repeat (first | (apply tree_q; exact rfl; exact rfl; exact rfl; intro K hK; go_big_quiet_op; go_big_quiet_on) | (apply tree_skip; exact rfl; exact rfl; exact rfl; intro K hK; go_big_quiet_op; go_big_quiet_on))
    refine tree_m1 rfl ?_
    have hgr := a_group a1 c1 L m0 X1 (hL.no HF (fun _ => id)) (mb_small hLo (by omega)) (HF.cell hm0 id) (by have := HF.size; omega)
    go_wp2_with fail
    refine hgr.mono ?_
    rintro en X2 ⟨⟨oa, oc, O, ids, rfl, hO, _, _, hids, hOe, hOl, _⟩, hxx⟩
    have HOe := Lib.hid hOe
    clear hgr
    go_wp2_with fail
    refine OnlyN.mk ⟨hxx.mono (fun _ _ h => h.elim), ?_⟩
    have q5 := hxx.heap q5 id
    have HF : Fr No w0 X2 := HF.step hxx (fun _ _ h => h)
    clear hxx
    repeat (first | (apply tree_q; exact rfl; exact rfl; exact rfl; intro K hK; go_big_quiet_op; go_big_quiet_on) | (apply tree_skip; exact rfl; exact rfl; exact rfl; intro K hK; go_big_quiet_op; go_big_quiet_on))
    refine tree_m1 rfl ?_
    have hL3 := hL.no HF (fun _ => id)
    have hup := hL3.upto L.length (Nat.le_refl _)
    rw [List.take_length] at hup
    have hX3 := HF.size
    go_wp2_with (at_builtin; refine wpList_append_src rfl _ _ 23 rfl (X2.heap.size) 58 i0 (.agg #[.string ByteArray.empty, .string ByteArray.empty, .int .i64 0, .int .i64 0, .int .i64 0, .int .i64 0, .slice none 0 0]) 7 88 Tryz.underlying23 hi0 hz0 hz1 hz2 rfl (by decide) _ 0 [] rfl (World.ownsRow_nil _ _ _ _) _ L.length _ (mflat L) rfl hup.2 (by rw [mflat_len]) hup.1 (mflat_one _) (by unfold maxLen; omega) (by omega) (by first | omega | (simp; done) | (simp; omega)) ?_; intro v5 X3 own1 gr1; simp only [Nat.zero_add, List.nil_append] at own1; obtain ⟨av1, cv1, rfl⟩ := ownsRow_slice own1)
    have hxx : Fr No X2 X3 := Fr.of_grown_none gr1
    refine OnlyN.mk ⟨hxx.mono (fun _ _ h => h.elim), ?_⟩
    have q5 := hxx.heap q5 id
    have hO3 := hO
    have HF3 := hxx
    have HF : Fr No w0 X3 := HF.step hxx (fun _ _ h => h)
    clear hxx gr1 hup hL3
    repeat (first | (apply tree_q; exact rfl; exact rfl; exact rfl; intro K hK; go_big_quiet_op; go_big_quiet_on) | (apply tree_skip; exact rfl; exact rfl; exact rfl; intro K hK; go_big_quiet_op; go_big_quiet_on))
    refine tree_m1 rfl ?_
    have hszz := HF3.size
    have Hown := Lib.hid own1
    go_wp2_with (at_builtin; refine wpList_append_own _ rfl _ _ 23 rfl (X2.heap.size) 58 i0 (.agg #[.string ByteArray.empty, .string ByteArray.empty, .int .i64 0, .int .i64 0, .int .i64 0, .int .i64 0, .slice none 0 0]) 7 88 Tryz.underlying23 hi0 hz0 hz1 hz2 rfl (by decide) _ _ _ rfl own1 ⟨w0.heap.size, 0, none⟩ 1 1 (Mem.vals (⟨mp, mi, 9, ms, mt, me, ma, ml, mc⟩ : Mem)).toList rfl rfl (cells_at q5) (mvals_one _) (by unfold maxLen; omega) (by omega) (by first | omega | (simp; done) | (simp; omega)) ?_; intro v' X4 hown9 hgrow9 _; obtain ⟨av', cv', rfl⟩ := ownsRow_slice hown9)
    have hgf : Fr (fun b => (Value.slice av1 L.length cv1).ownBlock = some b) X3 X4 := Fr.of_grown hgrow9
    refine OnlyN.mk ⟨hgf.mono (fun b _ h => by have := ownsRow_blk Hown.out h; unfold From at *; omega), ?_⟩
    have hO := hO3.keep (S := From X2.heap.size) ((HF3.mono (fun _ _ h => h.elim)).step hgf (fun b _ h => ownsRow_blk Hown.out h)) (fun b hb h => by unfold From at h; omega)
    have HF : Fr No w0 X4 := HF.trans hgf (fun _ _ h => h) (fun b hb h => by have := ownsRow_blk Hown.out h; unfold From at this; omega)
    have hS9 : ∀ m ∈ L ++ [(⟨mp, mi, 9, ms, mt, me, ma, ml, mc⟩ : Mem)], Strs X4 m.a m.c m.l := fun m hm => by
      rcases List.mem_append.1 hm with h | h
      · exact (hL.no HF (fun _ => id)).ok m h
      · obtain rfl := List.mem_singleton.1 h
        exact hSm.no HF (fun _ => id)
    have hownQ : X4.ownsRow (X2.heap.size) 58 7 (.slice av' (L ++ [(⟨mp, mi, 9, ms, mt, me, ma, ml, mc⟩ : Mem)]).length cv') (L ++ [(⟨mp, mi, 9, ms, mt, me, ma, ml, mc⟩ : Mem)]).length (mflat (L ++ [(⟨mp, mi, 9, ms, mt, me, ma, ml, mc⟩ : Mem)])) := by rw [List.length_append, mflat_snoc]; exact hown9
    obtain ⟨a6, c6, e6, hM9, _⟩ := Mems.of_own hownQ hS9
    cases e6
    clear hgf hgrow9 hown9 own1 Hown hownQ hS9 q5 hszz hO3 HF3
    repeat (first | (apply tree_q; exact rfl; exact rfl; exact rfl; intro K hK; go_big_quiet_op; go_big_quiet_on) | (apply tree_skip; exact rfl; exact rfl; exact rfl; intro K hK; go_big_quiet_op; go_big_quiet_on))
    refine tree_m1 rfl ?_
    have hgr := a_group av' cv' (L ++ [(⟨mp, mi, 9, ms, mt, me, ma, ml, mc⟩ : Mem)]) m0 X4 hM9 HsmQ.out (HF.cell hm0 id) (by have := HF.size; omega)
    rw [show (L ++ [(⟨mp, mi, 9, ms, mt, me, ma, ml, mc⟩ : Mem)]).length = L.length + 1 from by simp] at hgr
    go_wp2_with fail
    refine hgr.mono ?_
    rintro en X5 ⟨⟨pa, pc, P, ids2, rfl, hP, _, _, hids2, hPe, hPl, _⟩, hxx⟩
    have HPe := Lib.hid hPe
    have Hids := Lib.hid (And.intro hids hids2)
    clear hgr hM9
    go_wp2_with fail
    refine OnlyN.mk ⟨hxx.mono (fun _ _ h => h.elim), ?_⟩
    have hO := hO.no hxx (fun _ => id)
    have HF : Fr No w0 X5 := HF.step hxx (fun _ _ h => h)
    clear hxx hids hids2 hOe hPe hOl hPl hm0
    repeat (first | (apply tree_q; exact rfl; exact rfl; exact rfl; intro K hK; go_big_quiet_op; go_big_quiet_on) | (apply tree_skip; exact rfl; exact rfl; exact rfl; intro K hK; go_big_quiet_op; go_big_quiet_on))
    refine tree_end ?_
    have HE2 := Lib.hid (HE.out.no HF)
    have HFw := Lib.hid (Hw0.out.step HF (fun _ _ h => h))
    have hqx := HF.heap q5w id
    have hOm := hO.lenmax
    have hPm := hP.lenmax
    clear HF
    go_wp2_with fail
    go_loopw [8] (fun i wr => ∃ q : Nat, q ≤ O.length ∧ i = .int .i64 (q : Int) ∧ Fr No X5 wr) (fun i _ => O.length - (intOf i).toNat)
    case atStart => exact ⟨0, by omega, rfl, Fr.refl _ _⟩
    case round =>
      obtain ⟨q, hq, rfl, hfr⟩ := hrel
      by_cases hlt : q < O.length
      · have hlt' : (q : Int) < O.length := by omega
        go_upto_region 9 with (fail)
        refine region_sig No [(0, false), (1, false), (2, false), (3, false), (4, false), (5, false), (6, false), (7, false), (8, false), (9, false), (10, false), (11, false), (12, false), (13, false), (14, false), (15, false), (16, false), (17, false), (18, false), (19, false), (20, false), (21, false), (22, false), (23, false), (24, false), (25, false), (26, false), (27, false), (28, false), (29, false), (30, false), (31, false), (32, false), (33, false), (34, false), (35, false), (36, false)] (by kernel_rfl) (by kernel_rfl) (fun w9 hf9 => ?_)
        have hfx := hfr.step hf9 (fun _ _ h => h)
        have hqy := hfx.heap hqx id
        obtain ⟨pb, po, A, rfl, hAq, ⟨hS1, _⟩, ⟨c0, c1, _, _, _, _⟩, _⟩ := (hO.no hfx (fun _ => id)).elem hlt
        have HA : Hid (A ∈ O) := List.mem_of_getElem? hAq
        have HAq := Lib.hid hAq
        have g0 : ∀ g : Gr No w9, g.W.cell? ⟨pb, po + q * 6, none⟩ = some (.string A.i) := fun g => g.fr.cell c0 id
        have g1 : ∀ g : Gr No w9, g.W.cell? ⟨pb, po + q * 6 + 1, none⟩ = some (.slice A.pa A.ps.length A.pc) := fun g => g.fr.cell c1 id
        have k1 : ∀ g : Gr No w9, g.W.cell? ⟨w2.heap.size, 1, none⟩ = some (.string mi) := fun g => g.fr.cell (cell_of_block hqy 1) id
        have k3 : ∀ g : Gr No w9, g.W.cell? ⟨w2.heap.size, 3, none⟩ = some (.int .i64 ms) := fun g => g.fr.cell (cell_of_block hqy 3) id
        have hpl := hS1.len
        have hpm := hS1.max
        have hpm' : A.ps.length ≤ 9223372036854775807 := by unfold maxLen at hpm; omega
        clear hAq c0 c1 hf9 hpm
        rcases hi : (A.i.toList == mi.toList) with _ | _
        · repeat (first | (apply sig_q; exact rfl; exact rfl; exact rfl; intro K hK; go_big_quiet_op; go_big_quiet_on) | (apply sig_skip; exact rfl; exact rfl; exact rfl; intro K hK; go_big_quiet_op; go_big_quiet_on))
          clear g0 g1 k1 k3 hi hS1 hqy
          refine sig_end ?_
          go_wp2_with fail
          go_roundw
          case rel => exact ⟨q + 1, by omega, by go_num, hfx⟩
          case measure => simp [intOf]; omega
        · have Hi := Lib.hid (kb_inj (by rw [ByteArray.toList_eq, ByteArray.toList_eq] at hi; exact eq_of_beq hi) : A.i = mi)
          by_cases hs1 : 1 ≤ ms
          · have hs1' : ¬ ms < 1 := by omega
            by_cases hs2 : ms ≤ A.ps.length
            · have hs2' : ¬ (A.ps.length : Int) < ms := by omega
              obtain ⟨k, hk⟩ : ∃ k : Nat, ms = (k : Int) + 1 := ⟨(ms - 1).toNat, by omega⟩
              have Hk := Lib.hid hk
              have hkl : k < A.ps.length := by omega
              have hk1 : ms - 1 = (k : Int) := by omega
              have hkl' : (k : Int) < A.ps.length := by omega
              obtain ⟨sb, so, pth, e9, hpth, s0⟩ := hS1.at hkl
              have g2 : ∀ g : Gr No w9, g.W.cell? ⟨sb, so + k, none⟩ = some (.string pth) := fun g => g.fr.cell s0 id
              have Hpth := Lib.hid hpth
              rw [e9] at g1
              clear hS1 s0 hk hpth
              rcases hne : pth.toList.isEmpty with _ | _
              · have Hne := Lib.hid hne
                repeat (first | (apply sig_q; exact rfl; exact rfl; exact rfl; intro K hK; go_big_quiet_op; go_big_quiet_on) | (apply sig_skip; exact rfl; exact rfl; exact rfl; intro K hK; go_big_quiet_op; go_big_quiet_on))
                clear g0 g1 g2 k1 k3 hi hne e9
                refine sig_end ?_
                have hfx2 := hfx
                clear hfr
                go_wp2_with fail
                go_loopw [9] (fun i wz => ∃ j : Nat, j ≤ P.length ∧ i = .int .i64 (j : Int) ∧ Fr No X5 wz) (fun i _ => P.length - (intOf i).toNat)
                case atStart => exact ⟨0, by omega, rfl, hfx⟩
                case round =>
                  obtain ⟨j, hj, rfl, hfz⟩ := hrel
                  by_cases hltj : j < P.length
                  · have hltj' : (j : Int) < P.length := by omega
                    go_upto_region 13 with (fail)
                    refine region_tree No (.q 0 (.q 1 (.q 2 (.q 3 (.q 4 (.q 5 (.q 6 (.q 7 (.q 8 (.q 9 (.q 10 (.q 11 (.q 12 (.q 14 (.q 15 (.q 16 (.q 17 (.m2 13 (.m1 18 (.m1 19 (.q 20 (.q 21 .fin)))) 18 (.m1 13 (.m1 19 (.q 20 (.q 21 .fin)))))))))))))))))))))) _ (by kernel_rfl) (by kernel_rfl) (fun w8 hf8 => ?_) (fun _ _ h => h)
                    have hfy := hfz.step hf8 (fun _ _ h => h)
                    have hqz := hfy.heap hqx id
                    obtain ⟨pb', po', A', e8, hAq', ⟨a1, a2⟩, ⟨c0, c1, c2, c3, c4, c5⟩, _⟩ := (hO.no hfy (fun _ => id)).elem hlt
                    cases e8
                    obtain ⟨rb, ro, B, rfl, hBj, ⟨b1, b2⟩, ⟨d0, d1, d2, d3, d4, d5⟩, _⟩ := (hP.no hfy (fun _ => id)).elem hltj
                    have k1 : ∀ g : Gr No w8, g.W.cell? ⟨w2.heap.size, 1, none⟩ = some (.string mi) := fun g => g.fr.cell (cell_of_block hqz 1) id
                    have HB : Hid (B ∈ P) := List.mem_of_getElem? hBj
                    have HA' : Hid (A' = A) := by
                      unfold Hid
                      have h1 := HAq.out
                      rw [hAq'] at h1
                      exact (Option.some.inj h1)
                    have g0 : ∀ g : Gr No w8, g.W.cell? ⟨pb, po + q * 6, none⟩ = some (.string A'.i) := fun g => g.fr.cell c0 id
                    have g1 : ∀ g : Gr No w8, g.W.cell? ⟨pb, po + q * 6 + 1, none⟩ = some (.slice A'.pa A'.ps.length A'.pc) := fun g => g.fr.cell c1 id
                    have g2 : ∀ g : Gr No w8, g.W.cell? ⟨pb, po + q * 6 + 2, none⟩ = some (.int .i64 A'.t) := fun g => g.fr.cell c2 id
                    have g3 : ∀ g : Gr No w8, g.W.cell? ⟨pb, po + q * 6 + 3, none⟩ = some (.int .i64 A'.e) := fun g => g.fr.cell c3 id
                    have g4 : ∀ g : Gr No w8, g.W.cell? ⟨pb, po + q * 6 + 4, none⟩ = some (.int .i64 A'.n) := fun g => g.fr.cell c4 id
                    have g5 : ∀ g : Gr No w8, g.W.cell? ⟨pb, po + q * 6 + 5, none⟩ = some (.slice A'.la A'.l.length A'.lc) := fun g => g.fr.cell c5 id
                    have h0 : ∀ g : Gr No w8, g.W.cell? ⟨rb, ro + j * 6, none⟩ = some (.string B.i) := fun g => g.fr.cell d0 id
                    have h1 : ∀ g : Gr No w8, g.W.cell? ⟨rb, ro + j * 6 + 1, none⟩ = some (.slice B.pa B.ps.length B.pc) := fun g => g.fr.cell d1 id
                    have h2 : ∀ g : Gr No w8, g.W.cell? ⟨rb, ro + j * 6 + 2, none⟩ = some (.int .i64 B.t) := fun g => g.fr.cell d2 id
                    have h3 : ∀ g : Gr No w8, g.W.cell? ⟨rb, ro + j * 6 + 3, none⟩ = some (.int .i64 B.e) := fun g => g.fr.cell d3 id
                    have h4 : ∀ g : Gr No w8, g.W.cell? ⟨rb, ro + j * 6 + 4, none⟩ = some (.int .i64 B.n) := fun g => g.fr.cell d4 id
                    have h5 : ∀ g : Gr No w8, g.W.cell? ⟨rb, ro + j * 6 + 5, none⟩ = some (.slice B.la B.l.length B.lc) := fun g => g.fr.cell d5 id
                    have HS := Lib.hid (And.intro (And.intro a1 a2) (And.intro b1 b2))
                    clear hAq' hBj c0 c1 c2 c3 c4 c5 d0 d1 d2 d3 d4 d5 a1 a2 b1 b2 hf8 hqz hfz
                    rcases hbi : (B.i.toList == mi.toList) with _ | _
                    · repeat (first | (apply tree_q; exact rfl; exact rfl; exact rfl; intro K hK; go_big_quiet_op; go_big_quiet_on) | (apply tree_skip; exact rfl; exact rfl; exact rfl; intro K hK; go_big_quiet_op; go_big_quiet_on))
                      clear g0 g1 g2 g3 g4 g5 h0 h1 h2 h3 h4 h5 k1
                      refine tree_m2 rfl rfl ?_ ?_
                      · go_wp2_with fail
                        refine OnlyN.mk ⟨Fr.refl _ _, ?_⟩
                        refine tree_m1 rfl ?_
                        go_wp2_with fail
                        refine OnlyN.mk ⟨Fr.refl _ _, ?_⟩
                        refine tree_m1 rfl ?_
                        go_wp2_with fail
                        refine OnlyN.mk ⟨Fr.refl _ _, ?_⟩
                        repeat (first | (apply tree_q; exact rfl; exact rfl; exact rfl; intro K hK; go_big_quiet_op; go_big_quiet_on) | (apply tree_skip; exact rfl; exact rfl; exact rfl; intro K hK; go_big_quiet_op; go_big_quiet_on))
                        refine tree_end ?_
                        clear hbi
                        go_wp2_with fail
                        go_roundw
                        case rel => exact ⟨j + 1, by omega, by go_num, hfy⟩
                        case measure => simp [intOf]; omega
                      · go_wp2_with fail
                        refine OnlyN.mk ⟨Fr.refl _ _, ?_⟩
                        refine tree_m1 rfl ?_
                        go_wp2_with fail
                        refine OnlyN.mk ⟨Fr.refl _ _, ?_⟩
                        refine tree_m1 rfl ?_
                        go_wp2_with fail
                        refine OnlyN.mk ⟨Fr.refl _ _, ?_⟩
                        repeat (first | (apply tree_q; exact rfl; exact rfl; exact rfl; intro K hK; go_big_quiet_op; go_big_quiet_on) | (apply tree_skip; exact rfl; exact rfl; exact rfl; intro K hK; go_big_quiet_op; go_big_quiet_on))
                        refine tree_end ?_
                        clear hbi
                        go_wp2_with fail
                        go_roundw
                        case rel => exact ⟨j + 1, by omega, by go_num, hfy⟩
                        case measure => simp [intOf]; omega
                    · have Hbi := Lib.hid (kb_inj (by rw [ByteArray.toList_eq, ByteArray.toList_eq] at hbi; exact eq_of_beq hbi) : B.i = mi)
                      have Hee : Hid (A'.toArr = B.toArr) := by unfold Hid; rw [HA'.out]; exact later_eq (x := (⟨mp, mi, 9, ms, mt, me, ma, ml, mc⟩ : Mem)) Hr9.out rfl HOe.out HPe.out HA.out HB.out Hi.out Hbi.out Hk.out Hpth.out Hne.out
                      repeat (first | (apply tree_q; exact rfl; exact rfl; exact rfl; intro K hK; go_big_quiet_op; go_big_quiet_on) | (apply tree_skip; exact rfl; exact rfl; exact rfl; intro K hK; go_big_quiet_op; go_big_quiet_on))
                      clear g0 g1 g2 g3 g4 g5 h0 h1 h2 h3 h4 h5 k1
                      refine tree_m2 rfl rfl ?_ ?_
                      · have x1 : Fr No w8 (w8.alloc (.cells #[.string A'.i, .slice A'.pa A'.ps.length A'.pc, .int .i64 A'.t, .int .i64 A'.e, .int .i64 A'.n, .slice A'.la A'.l.length A'.lc] 42)) := (Fr.refl _ _).alloc _
                        have p1 := block_alloc w8 (.cells #[.string A'.i, .slice A'.pa A'.ps.length A'.pc, .int .i64 A'.t, .int .i64 A'.e, .int .i64 A'.n, .slice A'.la A'.l.length A'.lc] 42)
                        obtain ⟨Y1, hY1⟩ : ∃ Y, Y = w8.alloc (.cells #[.string A'.i, .slice A'.pa A'.ps.length A'.pc, .int .i64 A'.t, .int .i64 A'.e, .int .i64 A'.n, .slice A'.la A'.l.length A'.lc] 42) := ⟨_, rfl⟩
                        go_wp2_with fail
                        rw [← hY1] at x1 p1 ⊢
                        refine OnlyN.mk ⟨x1, ?_⟩
                        clear hY1
                        have x2 : Fr No Y1 (Y1.alloc (.cells #[.string B.i, .slice B.pa B.ps.length B.pc, .int .i64 B.t, .int .i64 B.e, .int .i64 B.n, .slice B.la B.l.length B.lc] 42)) := (Fr.refl _ _).alloc _
                        have p2 := block_alloc Y1 (.cells #[.string B.i, .slice B.pa B.ps.length B.pc, .int .i64 B.t, .int .i64 B.e, .int .i64 B.n, .slice B.la B.l.length B.lc] 42)
                        obtain ⟨Y2, hY2⟩ : ∃ Y, Y = Y1.alloc (.cells #[.string B.i, .slice B.pa B.ps.length B.pc, .int .i64 B.t, .int .i64 B.e, .int .i64 B.n, .slice B.la B.l.length B.lc] 42) := ⟨_, rfl⟩
                        refine tree_m1 rfl ?_
                        go_wp2_with fail
                        rw [← hY2] at x2 p2 ⊢
                        refine OnlyN.mk ⟨x2, ?_⟩
                        clear hY2
                        have x12 := x1.step x2 (fun _ _ h => h)
                        have m1 := one_arrs (A := A') (x2.heap p1 id) ⟨HS.out.1.1.no x12 (fun _ => id), HS.out.1.2.no x12 (fun _ => id)⟩
                        have m2 := one_arrs (A := B) p2 ⟨HS.out.2.1.no x12 (fun _ => id), HS.out.2.2.no x12 (fun _ => id)⟩
                        have hsm := same_arrays_eq (some ⟨w8.heap.size, 0, none⟩) (some ⟨Y1.heap.size, 0, none⟩) 1 1 [A'] [B] Y2 m1 m2 (by simp only [List.map_cons, List.map_nil, Hee.out])
                        refine tree_m1 rfl ?_
                        clear p1 p2 m1 m2 x1 x2
                        go_wp2_with fail
                        refine hsm.mono ?_
                        rintro en w7 ⟨rfl, hf7⟩
                        have hfz2 := (hfy.step x12 (fun _ _ h => h)).step hf7 (fun _ _ h => h)
                        clear hsm
                        go_wp2_with fail
                        refine OnlyN.mk ⟨hf7, ?_⟩
                        clear hf7 x12
                        repeat (first | (apply tree_q; exact rfl; exact rfl; exact rfl; intro K hK; go_big_quiet_op; go_big_quiet_on) | (apply tree_skip; exact rfl; exact rfl; exact rfl; intro K hK; go_big_quiet_op; go_big_quiet_on))
                        refine tree_end ?_
                        clear hbi
                        go_wp2_with fail
                        go_roundw
                        case rel => exact ⟨j + 1, by omega, by go_num, hfz2⟩
                        case measure => simp [intOf]; omega
                      · have x1 : Fr No w8 (w8.alloc (.cells #[.string B.i, .slice B.pa B.ps.length B.pc, .int .i64 B.t, .int .i64 B.e, .int .i64 B.n, .slice B.la B.l.length B.lc] 42)) := (Fr.refl _ _).alloc _
                        have p1 := block_alloc w8 (.cells #[.string B.i, .slice B.pa B.ps.length B.pc, .int .i64 B.t, .int .i64 B.e, .int .i64 B.n, .slice B.la B.l.length B.lc] 42)
                        obtain ⟨Y1, hY1⟩ : ∃ Y, Y = w8.alloc (.cells #[.string B.i, .slice B.pa B.ps.length B.pc, .int .i64 B.t, .int .i64 B.e, .int .i64 B.n, .slice B.la B.l.length B.lc] 42) := ⟨_, rfl⟩
                        go_wp2_with fail
                        rw [← hY1] at x1 p1 ⊢
                        refine OnlyN.mk ⟨x1, ?_⟩
                        clear hY1
                        have x2 : Fr No Y1 (Y1.alloc (.cells #[.string A'.i, .slice A'.pa A'.ps.length A'.pc, .int .i64 A'.t, .int .i64 A'.e, .int .i64 A'.n, .slice A'.la A'.l.length A'.lc] 42)) := (Fr.refl _ _).alloc _
                        have p2 := block_alloc Y1 (.cells #[.string A'.i, .slice A'.pa A'.ps.length A'.pc, .int .i64 A'.t, .int .i64 A'.e, .int .i64 A'.n, .slice A'.la A'.l.length A'.lc] 42)
                        obtain ⟨Y2, hY2⟩ : ∃ Y, Y = Y1.alloc (.cells #[.string A'.i, .slice A'.pa A'.ps.length A'.pc, .int .i64 A'.t, .int .i64 A'.e, .int .i64 A'.n, .slice A'.la A'.l.length A'.lc] 42) := ⟨_, rfl⟩
                        refine tree_m1 rfl ?_
                        go_wp2_with fail
                        rw [← hY2] at x2 p2 ⊢
                        refine OnlyN.mk ⟨x2, ?_⟩
                        clear hY2
                        have x12 := x1.step x2 (fun _ _ h => h)
                        have m1 := one_arrs (A := B) (x2.heap p1 id) ⟨HS.out.2.1.no x12 (fun _ => id), HS.out.2.2.no x12 (fun _ => id)⟩
                        have m2 := one_arrs (A := A') p2 ⟨HS.out.1.1.no x12 (fun _ => id), HS.out.1.2.no x12 (fun _ => id)⟩
                        have hsm := same_arrays_eq (some ⟨Y1.heap.size, 0, none⟩) (some ⟨w8.heap.size, 0, none⟩) 1 1 [A'] [B] Y2 m2 m1 (by simp only [List.map_cons, List.map_nil, Hee.out])
                        refine tree_m1 rfl ?_
                        clear p1 p2 m1 m2 x1 x2
                        go_wp2_with fail
                        refine hsm.mono ?_
                        rintro en w7 ⟨rfl, hf7⟩
                        have hfz2 := (hfy.step x12 (fun _ _ h => h)).step hf7 (fun _ _ h => h)
                        clear hsm
                        go_wp2_with fail
                        refine OnlyN.mk ⟨hf7, ?_⟩
                        clear hf7 x12
                        repeat (first | (apply tree_q; exact rfl; exact rfl; exact rfl; intro K hK; go_big_quiet_op; go_big_quiet_on) | (apply tree_skip; exact rfl; exact rfl; exact rfl; intro K hK; go_big_quiet_op; go_big_quiet_on))
                        refine tree_end ?_
                        clear hbi
                        go_wp2_with fail
                        go_roundw
                        case rel => exact ⟨j + 1, by omega, by go_num, hfz2⟩
                        case measure => simp [intOf]; omega
                  · obtain rfl : j = P.length := by omega
                    have hgj : ¬ (P.length : Int) < P.length := by omega
                    have hfx := hfz
                    go_wp2_with fail
                    go_roundw
                    case rel => exact ⟨q + 1, by omega, by go_num, hfx⟩
                    case measure => simp [intOf]; omega
              · repeat (first | (apply sig_q; exact rfl; exact rfl; exact rfl; intro K hK; go_big_quiet_op; go_big_quiet_on) | (apply sig_skip; exact rfl; exact rfl; exact rfl; intro K hK; go_big_quiet_op; go_big_quiet_on))
                clear g0 g1 g2 k1 k3 hi hne e9
                refine sig_end ?_
                go_wp2_with fail
                go_roundw
                case rel => exact ⟨q + 1, by omega, by go_num, hfx⟩
                case measure => simp [intOf]; omega
            · have hs2' : (A.ps.length : Int) < ms := by omega
              repeat (first | (apply sig_q; exact rfl; exact rfl; exact rfl; intro K hK; go_big_quiet_op; go_big_quiet_on) | (apply sig_skip; exact rfl; exact rfl; exact rfl; intro K hK; go_big_quiet_op; go_big_quiet_on))
              clear g0 g1 k1 k3 hi hS1 hqy
              refine sig_end ?_
              go_wp2_with fail
              go_roundw
              case rel => exact ⟨q + 1, by omega, by go_num, hfx⟩
              case measure => simp [intOf]; omega
          · have hs1' : ms < 1 := by omega
            repeat (first | (apply sig_q; exact rfl; exact rfl; exact rfl; intro K hK; go_big_quiet_op; go_big_quiet_on) | (apply sig_skip; exact rfl; exact rfl; exact rfl; intro K hK; go_big_quiet_op; go_big_quiet_on))
            clear g0 g1 k1 k3 hi hS1 hqy
            refine sig_end ?_
            go_wp2_with fail
            go_roundw
            case rel => exact ⟨q + 1, by omega, by go_num, hfx⟩
            case measure => simp [intOf]; omega
      · obtain rfl : q = O.length := by omega
        have hge : ¬ (O.length : Int) < O.length := by omega
        have hlen : O.length ≤ P.length := by
          have h1 := congrArg List.length HOe.out
          have h2 := congrArg List.length HPe.out
          simp only [List.length_map] at h1 h2
          rw [h1, h2]
          exact later_len Hids.out.1 Hids.out.2 (fun p => later_some L (⟨mp, mi, 9, ms, mt, me, ma, ml, mc⟩ : Mem) p)
        have hlen' : (O.length : Int) ≤ P.length := by omega
        have hk := known32 wr (HE2.out.no hfr)
        have hfw := HFw.out.step hfr (fun _ _ h => h)
        clear hO hP hfr hlen hqx
        go_wp2_with fail
        refine hk.mono ?_
        rintro en w7 ⟨rfl, hf7⟩
        have hfin := hfw.step hf7 (fun _ _ h => h)
        clear hk hf7 hfw
        go_wp2_with fail
        go_ret
        exact ⟨rfl, hfin⟩
end Go.Proofs.YtbblkknndaoefaaGreatDoor
namespace Go.Proofs.YtbblkknndaoefaaGreatDoor.arrayLater
open Go.ChangeShapes Go.WideShapes Go.ChangeAt Go.RowKit
open Go.ChangeMaps (open_string shut_string)
set_option linter.unusedVariables false

theorem own : ownKnob Tryz.prog.godebug = none := by kernel_rfl
theorem laidOut : laidOutB Tryz.prog = true := by kernel_rfl

set_option maxRecDepth 100000 in
theorem lifted (os : Os) (started : os.Started) (H : Type) (enc : TypeId × Value → H) :
    ReturnsInHanded {} Tryz.checked os 9 .any (fun w args => (Rows.arrayLaterSpec.pre enc Tryz.prog Tryz.f9 Rows.arrayLaterRow.domain false w args ∧ laidMetH Tryz.prog Rows.arrayLaterRow.laid w) ∧ sizedMet enc Tryz.prog Tryz.f9 (OpenSpec.ofChange Rows.arrayLaterSpec) false w args)
      (Rows.arrayLaterSpec.post enc Tryz.prog Tryz.f9 false true false false) := by
  refine returns_laid_sized (C := Tryz.checked) (X := fun w _ => laidMetH Tryz.prog Rows.arrayLaterRow.laid w) (fun _ _ _ hh h => h.of_heap hh) own started (by kernel_rfl) Tryz.func9
    (ChangeSpec.witness_shaped (enc := enc) (C := Tryz.checked) (os := os) (X := fun w _ => laidMetH Tryz.prog Rows.arrayLaterRow.laid w) false (World.laidAll Tryz.prog os Rows.arrayLaterRow.laid) #[.slice none 0 0] 8 (World.laidAll_os _ _ _)
      (World.shaped_of_ZipB (by kernel_rfl) (by kernel_rfl)) (by kernel_rfl) (by kernel_rfl) (by kernel_rfl)
      (by rw [MakeChecks.laidMetH_plain _ _ _ (by kernel_rfl)]; exact laidMet_laidAll _ (by kernel_rfl) (by kernel_rfl))) ?_
  intro W base args ds gs before hval0 hW hz hL hsh
  have hval : ∀ (j : Nat) t v, Tryz.f9.params[j]? = some t → args[j]? = some v → Value.okWide Tryz.prog W .any base t v := hval0
  have hW' := hW
  obtain ⟨p, q, hA0, hV, rfl, hfz, hnd⟩ := hW
  have hA : DataW.TrodAll enc Tryz.prog W 0 (fun _ => true) true Tryz.f9.params.toList args.toList ds p := hA0
  have hsz : ∀ (j : Nat) (t : TypeId) (d : DataW H), (Tryz.f9.params.toList ++ (OpenSpec.ofChange Rows.arrayLaterSpec).bare.plain.varTypes Tryz.prog)[j]? = some t → (ds ++ gs)[j]? = some d → Wt t d := fun j t d h1 h2 => wt_each hz h1 h2
  rw [Tryz.params9] at hA hval hsz
  obtain ⟨v0, vs0, d0, ds0, p0, q0, hargs, rfl, rfl, h0, r0⟩ := trodAll_cons hA
  obtain ⟨rfl, rfl, rfl⟩ := trodAll_nil r0
  obtain rfl : args = #[v0] := by cases args; simp_all
  obtain ⟨rfl, rfl⟩ := trodVars_none hV
  have z0 : Wt 22 d0 := hsz 0 _ _ rfl rfl
  clear hsz hz
  obtain ⟨a0, len0, cap0, rfl⟩ := okWide_slice Tryz.underlying22 (hval 0 22 v0 rfl rfl)
  have k0 := h0
  have lt0 : ∀ x ∈ p0, x.block < W.heap.size := by obtain ⟨m, hm⟩ := k0; exact DataW.trod_lt m _ _ _ hm
  obtain ⟨l0, rfl, hl0⟩ : ∃ l : List Int, l.length = len0 ∧ Ints W a0 cap0 l := by
    obtain ⟨fuel, hf⟩ := h0
    rcases open_ints Tryz.underlying22 Tryz.underlying3 (by kernel_rfl) hf with ⟨hcs, _⟩ | ⟨x, l, c, zs, hcs, _, hl, hm, hz, _, hcell, hwz⟩
    · simp [Value.cells] at hcs
      obtain ⟨rfl, rfl, rfl⟩ := hcs
      exact Ints.of_isRow (zs := []) (.inl ⟨rfl, rfl, rfl, rfl⟩)
    · simp [Value.cells] at hcs
      obtain ⟨rfl, rfl, rfl⟩ := hcs
      exact Ints.of_isRow (zs := zs) (.inr ⟨_, rfl, hl, hm, by simpa using hz, hcell, hwz⟩)
  rw [MakeChecks.laidMetH_plain _ _ _ (by kernel_rfl)] at hL
  have hE := env_of hsh hL
  clear hA0 hval0
  refine (alater_walk a0 cap0 l0 W hl0 hE).mono fun e W' ⟨he, hfr⟩ => ?_
  have bel : Below W.heap.size W W' := hfr.below (Nat.le_refl _) (fun b hb e => e)
  subst he
  exact ⟨_, rfl, _, _, _, [], _, [], hW', trodAll_mk1 (shut_bool Tryz.underlying4 _), (trodAll_cons_mk (Below.trod laidOut (by kernel_rfl) (of_decide_eq_true (by kernel_rfl)) k0 bel lt0) trodAll_mk0), rfl, bel.frame _, fun h => by cases h⟩

theorem isNamed : Tryz.pinned.checked.prog.funcNamed Rows.arrayLaterRow.func = some 9 := by kernel_rfl
theorem and2 {a b : Bool} (h : a = true) (k : b = true) : (a && b) = true := by rw [h, k]; rfl
theorem c0 : (Rows.arrayLaterRow.wf (OpenSpec.ofChange Rows.arrayLaterSpec)) = true := by kernel_rfl
theorem c1 : (laidOutB Tryz.pinned.checked.prog) = true := by kernel_rfl
theorem c2 : (mapsRowed Tryz.pinned.checked.prog) = true := by kernel_rfl
theorem c3 : (Tryz.f9.params.all (Tryz.pinned.checked.prog.readableRec ·)) = true := by kernel_rfl
theorem c4 : (namedTie Tryz.pinned.checked.prog Rows.arrayLaterRow.named Rows.arrayLaterSpec.vars) = true := by kernel_rfl
theorem c5 : ((Rows.arrayLaterRow.stops == [])) = true := by kernel_rfl
theorem c6 : ((Tryz.pinned.checked.prog.stops == [])) = true := by kernel_rfl
theorem c7 : ((Rows.arrayLaterRow.knobs == [])) = true := by kernel_rfl
theorem c8 : ((Tryz.pinned.checked.prog.stopKnobs == [])) = true := by kernel_rfl
theorem c9 : ((Rows.arrayLaterRow.inPlace == Tryz.pinned.checked.prog.inPlace 9)) = true := by kernel_rfl
theorem c10 : ((Rows.arrayLaterRow.unfollowed == Tryz.pinned.checked.prog.unfollowed 9)) = true := by kernel_rfl
theorem c11 : ((Rows.arrayLaterRow.recurses == Tryz.pinned.checked.prog.recurses 9)) = true := by kernel_rfl
theorem c12 : ((Rows.arrayLaterRow.named == Tryz.pinned.checked.prog.varsNamed 9)) = true := by kernel_rfl
theorem c13 : ((Rows.arrayLaterRow.maps == (Tryz.f9.params.toList ++ Rows.arrayLaterSpec.plain.varTypes Tryz.pinned.checked.prog).any (Tryz.pinned.checked.prog.mapsRec ·))) = true := by kernel_rfl
theorem c14 : ((Rows.arrayLaterRow.ifaces == (Tryz.f9.params.toList ++ Rows.arrayLaterSpec.plain.varTypes Tryz.pinned.checked.prog).any (Tryz.pinned.checked.prog.ifacesRec ·))) = true := by kernel_rfl
theorem c15 : ((Rows.arrayLaterRow.mapsOut == Tryz.pinned.checked.prog.mapsAmong Tryz.f9.resultTypes.toList)) = true := by kernel_rfl
theorem c16 : ((Rows.arrayLaterRow.loops == (Tryz.f9.params.toList ++ Rows.arrayLaterSpec.plain.varTypes Tryz.pinned.checked.prog).any (Tryz.pinned.checked.prog.loopsFrom ·))) = true := by kernel_rfl
theorem c17 : ((Rows.arrayLaterRow.wideKeys == (Tryz.f9.params.toList ++ Rows.arrayLaterSpec.plain.varTypes Tryz.pinned.checked.prog ++ Tryz.f9.resultTypes.toList).any (Tryz.pinned.checked.prog.wideKeysFrom ·))) = true := by kernel_rfl
theorem c18 : (Rows.arrayLaterSpec.vars.all (Tryz.pinned.checked.prog.varReadable ·)) = true := by kernel_rfl
theorem c19 : (Tryz.f9.resultTypes.all (fun t => Tryz.pinned.checked.prog.readableRec t && decide (t < Tryz.pinned.checked.prog.types.size))) = true := by kernel_rfl
theorem c20 : ((Rows.arrayLaterRow.ifacesOut == Tryz.f9.resultTypes.toList.any (Tryz.pinned.checked.prog.ifacesRec ·))) = true := by kernel_rfl
theorem c21 : ((Rows.arrayLaterRow.loopsOut == Tryz.f9.resultTypes.toList.any (Tryz.pinned.checked.prog.loopsFrom ·))) = true := by kernel_rfl
theorem c22 : ((Rows.arrayLaterRow.plainKeys == Tryz.pinned.checked.prog.plainKeys)) = true := by kernel_rfl
theorem c23 : (Rows.arrayLaterRow.shortTexts.isNone) = true := by kernel_rfl
theorem c24 : (Tryz.pinned.checked.prog.stopsHeard) = true := by kernel_rfl
theorem c25 : (Tryz.pinned.checked.prog.mayEnter) = true := by kernel_rfl
theorem c26 : ((Rows.arrayLaterRow.lifted == Tryz.pinned.checked.prog.liftsFinal)) = true := by kernel_rfl
theorem c27 : ((Tryz.pinned.checked.prog.make == some Rows.arrayLaterRow.make)) = true := by kernel_rfl
theorem c28 : ((Rows.arrayLaterRow.kinds == (if Rows.arrayLaterRow.domain.isEmpty then [] else Tryz.f9.params.toList.map fun t => match Tryz.pinned.checked.prog.underlying t with | some (.int k) => some k | _ => none))) = true := by kernel_rfl
theorem c29 : ((Rows.arrayLaterRow.pinned == Rows.arrayLaterRow.pinnedBy)) = true := by kernel_rfl
theorem c30 : ((Rows.arrayLaterRow.veiled == (Tryz.f9.params.toList ++ Rows.arrayLaterSpec.plain.varTypes Tryz.pinned.checked.prog ++ Tryz.f9.resultTypes.toList).any (Tryz.pinned.checked.prog.veiledRec ·))) = true := by kernel_rfl
theorem c31 : (Rows.arrayLaterRow.veiledFits Tryz.pinned.checked.prog Tryz.f9.params.toList (Tryz.f9.params.toList ++ Rows.arrayLaterSpec.plain.varTypes Tryz.pinned.checked.prog ++ Tryz.f9.resultTypes.toList)) = true := by kernel_rfl
set_option maxRecDepth 100000 in
theorem closed : joinedFacts Tryz.pinned.checked.prog 9 Tryz.f9 Rows.arrayLaterSpec Rows.arrayLaterRow = true := by
  unfold joinedFacts
  exact (and2 (and2 (and2 (and2 (and2 (and2 (and2 (and2 (and2 (and2 (and2 (and2 (and2 (and2 (and2 (and2 (and2 (and2 (and2 (and2 (and2 (and2 (and2 (and2 (and2 (and2 (and2 (and2 (and2 (and2 (and2 c0 c1) c2) c3) c4) c5) c6) c7) c8) c9) c10) c11) c12) c13) c14) c15) c16) c17) c18) c19) c20) c21) c22) c23) c24) c25) c26) c27) c28) c29) c30) c31)
theorem inst : Tryz.f9.isInstance Tryz.pinned.checked.prog Rows.arrayLaterRow.origin Rows.arrayLaterRow.targs := of_decide_eq_true (by kernel_rfl)
theorem wrap : Tryz.f9.isWrapper Tryz.pinned.checked.prog Rows.arrayLaterRow.wrapper Rows.arrayLaterRow.mainSum := by
  unfold Func.isWrapper; first | (rw [if_pos (by decide +kernel)]; kernel_rfl) | (rw [if_neg (by decide +kernel)]; exact ⟨rfl, rfl⟩)
theorem over : Rows.arrayLaterRow.holds Tryz.pinned (OpenSpec.ofChange Rows.arrayLaterSpec) :=
  OpenClaim.holds_of_wide 9 Tryz.f9 rfl rfl rfl rfl rfl rfl rfl ⟨rfl, rfl, rfl, rfl, rfl⟩ rfl rfl rfl rfl rfl isNamed Tryz.func9 closed inst wrap
    (fun os started H enc _ => lifted os started H enc)

theorem t1 : Rows.arrayLaterRow.wfByText (OpenSpec.ofChange Rows.arrayLaterSpec) = true := by kernel_rfl
theorem t2 : Tryz.pinned.checked.prog.mainIs = some ((true, "7c35bbe876a6797357c7d4d4c7eda80dfa3d5b512daa5cf20d9229a0a48d5af4").1, (true, "7c35bbe876a6797357c7d4d4c7eda80dfa3d5b512daa5cf20d9229a0a48d5af4").2.toList) := by kernel_rfl
theorem t3 : true = Tryz.pinned.checked.prog.looks [] := by kernel_rfl
theorem t4 : false = Rows.arrayLaterRow.goesBy Tryz.pinned.checked.prog := by kernel_rfl
theorem t5 : Tryz.prog.funcNamed "coldplug/coldpluglaw32.ArrayLater" = some 9 := by kernel_rfl
theorem t6 : ([22].all fun u => !Tryz.prog.wantsStandIn u) = true := by kernel_rfl
theorem proved : Rows.ArrayLaterCardSaid :=
  Claim7.holds_tied_plain_at .later [] [.data, .data, .data, .data, .sentinel, .sentinel, .pinned, .pinned] true (true, "7c35bbe876a6797357c7d4d4c7eda80dfa3d5b512daa5cf20d9229a0a48d5af4") true over (fun _ h => by cases h) t1 (fun _ h => by cases h) arrayLater_row_tie rfl ⟨rfl, rfl⟩ t2 rfl
    (fun f fn hf hfn => by
      obtain rfl : f = 9 := Option.some.inj (t5.symm.trans hf) |>.symm
      obtain rfl : fn = Tryz.f9 := (Option.some.inj (Tryz.func9.symm.trans hfn)).symm
      exact ⟨t3, fun j t ht => by
        rw [Tryz.params9] at ht
        have hm : t ∈ [22] := by simpa using Array.mem_of_getElem? ht
        have hall : ([22].all fun u => !Tryz.prog.wantsStandIn u) = true := t6
        exact (show Tryz.prog.wantsStandIn t = false by simpa using List.all_eq_true.1 hall t hm)⟩)
    t4
#print axioms proved
end Go.Proofs.YtbblkknndaoefaaGreatDoor.arrayLater
