/- The law ArrayWatches returns true at every input and leaves its arguments as they were. Conditions: none beyond the given statement's own. -/
import Derived.Test.YtbblkknndaoefaaGreatDoorZA13
import Derived.Test.YtbblkknndaoefaaGreatDoorZA23
import Derived.Test.YtbblkknndaoefaaGreatDoorZA24
import Derived.Test.YtbblkknndaoefaaGreatDoorZA25
import Derived.Test.YtbblkknndaoefaaGreatDoorZA22
import Derived.Test.YtbblkknndaoefaaGreatDoorZA21
import Derived.Test.YtbblkknndaoefaaGreatDoorZA20
import Derived.Test.YtbblkknndaoefaaGreatDoorCards
import Derived.Test.YtbblkknndaoefaaGreatDoorTie
import Derived.WalkKit
import Derived.ProofKit
import Derived.OpenShut
import Derived.ShutString
import Derived.ChangeOld
import Derived.Below
import Derived.LaidMore
import Derived.Lay
import Derived.SevenTiedAt
import Derived.Shelf.Vars
import Derived.Stop.LaidErr
import Derived.MakeChecks
import Derived.SizedLaws
namespace Go.Proofs.YtbblkknndaoefaaGreatDoor
open Go.RowKit Go.Maps
set_option linter.unusedVariables false

theorem mb_small {L : List Mem} (h : ∀ m ∈ L, MbOk m) (hl : L.length ≤ 100) : MemSmall2 L := by
  refine ⟨by omega, ?_, ?_, ?_, ?_⟩ <;> intro m hm
  · have := (h m hm).p; omega
  · have h1 := (h m hm).i
    have h2 : ∀ x ∈ mbIds, x.size ≤ 1000000 := by decide
    exact h2 _ h1
  · have := (h m hm).n; omega
  · have := (h m hm).s; exact WalkArith.wf_i64 (by omega)
theorem app_small3 {L R : List Mem} {K : List ByteArray} (hL : MemSmall2 L) (hl : L.length ≤ 100) (hR : FewOk R K) (hin : ∀ m ∈ R, MemIn m) : MemSmall2 (L ++ R) := by
  have h2 := hR.n
  refine ⟨by rw [List.length_append]; omega, ?_, ?_, ?_, ?_⟩ <;> intro m hm <;> rcases List.mem_append.1 hm with h | h
  · exact hL.p m h
  · have := (hR.m m h).1; omega
  · exact hL.i m h
  · have := (hR.m m h).2.1; omega
  · exact hL.l m h
  · have := (hR.m m h).2.2; omega
  · exact hL.s m h
  · exact (hin m h).s
theorem small_of3 {L : List Mem} (h : MemSmall2 L) : MemSmall L := ⟨h.len, h.p, h.i, h.l⟩

set_option maxRecDepth 100000 in
set_option maxHeartbeats 8000000 in
theorem agroups_walk (la : Option Addr) (lc : Nat) (l : List Int) (ra : Option Addr) (rc : Nat) (R : List Mem) (w : World) (hl : Ints w la lc l) (hR : Mems w ra rc R) (hin : ∀ m ∈ R, MemIn m) (hE : Env w) :
    Calls Tryz.prog 13 #[.slice la l.length lc, .slice ra R.length rc] w fun e w' => e = .returned (.bool true) ∧ Fr No w w' := by
  obtain ⟨i0, hi0, hz0, hz1, hz2⟩ := info_parts infoM
  have hfew := few32 ra rc R w hR hin
  have hrm := hR.lenmax
  go_enter Tryz.func13, Tryz.ntmps13
  go_wp2_with fail
  refine hfew.mono ?_
  rintro e w1 ⟨⟨b, rfl, hb⟩, hf1⟩
  have hE1 := hE.no hf1
  clear hfew
  cases b with
  | false =>
    go_wp2_with fail
    refine (known32 w1 hE1).mono ?_
    rintro e wf ⟨rfl, hff⟩
    have hfin := hf1.step hff (fun _ _ h => h)
    go_wp2_with fail
    go_ret
    exact ⟨rfl, hfin⟩
  | true =>
    have hok := hb rfl
    have hl1 := hl.no hf1 (fun _ => id)
    have hR1 := hR.no hf1 (fun _ => id)
    have hx : Fr No w1 (w1.alloc (.cells #[.slice la l.length lc, .int .i64 0] 29)) := (Fr.refl _ _).alloc _
    have ht := Tape.make hl1 29
    have hE0 := hE1.no hx
    have hs0 : (w1.alloc (.cells #[.slice la l.length lc, .int .i64 0] 29)).heap.size = w1.heap.size + 1 := by simp
    have hsz := hE1.sz
    obtain ⟨W0, hW0⟩ : ∃ W0, W0 = w1.alloc (.cells #[.slice la l.length lc, .int .i64 0] 29) := ⟨_, rfl⟩
    rw [← hW0] at hx ht hE0 hs0
    have hs0' : w1.heap.size + 1 ≤ W0.heap.size := by omega
    have hpv := made_mbs w1.heap.size w1.heap.size 0 9 W0 ht (by omega) (by omega)
    have Hx := Lib.hid (hf1.step hx (fun _ _ h => h))
    have hxk := hx
    have hs1 := hf1.size
    have HW0 := Lib.hid hW0.symm
    have Hok := Lib.hid hok
    have Hin := Lib.hid hin
    have hrl := hok.n
    clear hs0 hx hE hE1 hf1 hl1 hl hR ht hok hb hin hW0
    go_wp2_with fail
    rw [HW0.out]
    clear HW0
    refine hpv.mono ?_
    rintro e w2 ⟨⟨L, a1, c1, k1, rfl, hL, hLf, hLm, hLo, hLl, hk1, ht1, hown⟩, hf2⟩
    have hE2 := hE0.fr hf2 (fun b hb h => by unfold Is at h; omega)
    have hfx2 : Fr (From w1.heap.size) w1 w2 := (hxk.mono (fun _ _ h => h.elim)).step hf2 (fun b _ h => by unfold Is at h; unfold From; omega)
    have hR2 := hR1.keep hfx2 (fun b hb h => by unfold From at h; omega)
    have hfw2 : Fr No w w2 := Hx.out.trans hf2 (fun _ _ h => h) (fun b hb h => by unfold Is at h; omega)
    have hup := hR2.upto R.length (Nat.le_refl _)
    rw [List.take_length] at hup
    have hs2 := hf2.size
    clear hpv hL hLf hk1 ht1 hf2 hE0 hxk
    have Hown := Lib.hid hown
    go_wp2_with (at_builtin; refine wpList_append_src rfl _ _ 23 rfl W0.heap.size 58 i0 (.agg #[.string ByteArray.empty, .string ByteArray.empty, .int .i64 0, .int .i64 0, .int .i64 0, .int .i64 0, .slice none 0 0]) 7 88 Tryz.underlying23 hi0 hz0 hz1 hz2 rfl (by decide) _ _ _ rfl hown _ R.length _ (mflat R) rfl hup.2 (by rw [mflat_len]) hup.1 (mflat_one _) (by unfold maxLen; omega) (by omega) (by first | omega | (simp; done) | (simp; omega)) ?_; intro v3 w3 own3 gr3; obtain ⟨av, cv, rfl⟩ := ownsRow_slice own3)
    have hg3 : Fr (From W0.heap.size) w2 w3 := (Fr.of_grown gr3).mono (fun b _ h => ownsRow_blk Hown.out h)
    have hR3 := hR1.keep (hfx2.step hg3 (fun b _ h => by unfold From at *; omega)) (fun b hb h => by unfold From at h; omega)
    have hL3 : MFresh w3 W0.heap.size L := MFresh.own hLm Hown.out (Fr.of_grown gr3)
    obtain ⟨Q, hQ⟩ : ∃ Q, Q = L ++ R := ⟨_, rfl⟩
    have hQl : L.length + R.length = Q.length := by rw [hQ, List.length_append]
    have hsmQ : MemSmall2 Q := by rw [hQ]; exact app_small3 (mb_small hLo (by omega)) (by omega) Hok.out Hin.out
    have hSQ : ∀ m ∈ Q, Strs w3 m.a m.c m.l := fun m hm => by
      rw [hQ] at hm
      rcases List.mem_append.1 hm with h | h
      · exact (hL3 m h).1
      · exact hR3.ok m h
    have hownQ : w3.ownsRow W0.heap.size 58 7 (.slice av Q.length cv) Q.length (mflat Q) := by rw [← hQl, hQ, mflat_append]; exact own3
    obtain ⟨a6, c6, e6, hM3, _⟩ := Mems.of_own hownQ hSQ
    cases e6
    have hfw3 : Fr No w w3 := hfw2.trans hg3 (fun _ _ h => h) (fun b hb h => by unfold From at h; omega)
    have hE3 := hE2.fr hg3 (fun b hb h => by unfold From at h; omega)
    obtain ⟨m0, hm3⟩ := hE3.len
    have hs3 := hg3.size
    clear hg3 hR3 hL3 hSQ hownQ own3 gr3 hup hfx2 hR2 hR1 hfw2 hE2 hLm hown Hown hQ
    rw [hQl]
    clear hQl
    have hvg := a_group av cv Q m0 w3 hM3 hsmQ hm3 (by omega)
    go_wp2_with fail
    refine hvg.mono ?_
    rintro e w4 ⟨⟨oa, oc, O, ids, rfl, hO, _, _, hids, hOe, _, _⟩, hf4⟩
    have HOe := Lib.hid hOe
    have Hids := Lib.hid hids
    have hM4 := hM3.no hf4 (fun _ => id)
    have hm4 := hf4.cell hm3 id
    have hE4 := hE3.no hf4
    have hs4 := hf4.size
    have hfw4 := hfw3.step hf4 (fun _ _ h => h)
    clear hvg hf4 hOe hids hM3 hm3 hE3 hfw3
    have hrg := ref_group32 av cv Q m0 w4 hM4 (small_of3 hsmQ) hm4 (by omega)
    go_wp2_with fail
    refine hrg.mono ?_
    rintro e w5 ⟨⟨pa, pc, P, rfl, hP, hPe⟩, hf5⟩
    have hOP : O.map ArrM.toArr = P.map ArrM.toArr := by rw [HOe.out, hPe, Hids.out.unique (ids34 Q)]
    have hO5 := hO.no hf5 (fun _ => id)
    have hE5 := hE4.no hf5
    have hs5 := hf5.size
    have hfw5 := hfw4.step hf5 (fun _ _ h => h)
    have hsa := same_arrays_eq oa pa oc pc O P w5 hO5 hP hOP
    have HPe := Lib.hid hPe
    clear hrg hf5 hPe hM4 hm4 hE4 hfw4 hO hOP hO5
    go_wp2_with fail
    refine hsa.mono ?_
    rintro e w6 ⟨rfl, hf6⟩
    have hP6 := hP.no hf6 (fun _ => id)
    have hE6 := hE5.no hf6
    have hfw6 := hfw5.step hf6 (fun _ _ h => h)
    have hpm := hP6.lenmax
    clear hsa hf6 hP hP6 hE5 hfw5 HOe Hids hpm
    have hk := known32 w6 hE6
    go_wp2_with fail
    refine hk.mono ?_
    rintro e w7 ⟨rfl, hf7⟩
    have hfin := hfw6.step hf7 (fun _ _ h => h)
    clear hk hf7 hfw6 hE6
    go_wp2_with fail
    go_ret
    exact ⟨rfl, hfin⟩
end Go.Proofs.YtbblkknndaoefaaGreatDoor
namespace Go.Proofs.YtbblkknndaoefaaGreatDoor
open Go.RowKit Go.Maps
set_option linter.unusedVariables false

theorem cells_at {W : World} {b : Nat} {xs : Array Value} {T : TypeId} {fz : Nat × Nat} (q : W.heap[b]? = some (.cells xs T fz)) : ∀ j u, xs.toList[j]? = some u → W.cell? ((⟨b, 0, none⟩ : Addr).add j) = some u := by
  intro j u hj
  rw [Addr.add_lit, cell_of_block q]
  simpa using hj
theorem arrs_id {good : Mem → Bool} {L : List Mem} {ids : List ByteArray} {O : List ArrM} (h : MemSmall2 L) (hids : IsIds2 (best2 good L) ids) (hO : O.map ArrM.toArr = ids.map (buildA (best2 good L))) : ∀ m ∈ O, m.i.size ≤ 1000000 := fun m hm => by
  have h1 : m.toArr ∈ O.map ArrM.toArr := List.mem_map_of_mem hm
  rw [hO, List.mem_map] at h1
  obtain ⟨x, hx, he⟩ := h1
  obtain ⟨s, hs⟩ := (hids.mem x).1 hx
  obtain ⟨o, ho⟩ := Option.isSome_iff_exists.1 hs
  obtain ⟨h2, _, h3⟩ := best2_mem L _ o ho
  simp only [Prod.mk.injEq] at h3
  have h4 : m.i = o.i := by rw [h3.1, ← he]; rfl
  rw [h4]
  exact h.i o h2

end Go.Proofs.YtbblkknndaoefaaGreatDoor
namespace Go.Proofs.YtbblkknndaoefaaGreatDoor
open Go.RowKit
set_option linter.unusedVariables false

/-- The arrays that lack a member. -/
def lackA (O : List Arr) : List Arr := O.filter fun A => !decide (A.n = A.t)
theorem lackA_snoc (O : List Arr) (A : Arr) : lackA (O ++ [A]) = lackA O ++ (if A.n = A.t then [] else [A]) := by
  unfold lackA
  rw [List.filter_append]
  by_cases h : A.n = A.t <;> simp [h]
theorem watch_nil (O : List Arr) (now wait : Int) : watchL [] O [] now wait = (lackA O).map fun A => ⟨A.i, laterV now wait⟩ := by
  refine rev_ind (P := fun O => watchL [] O [] now wait = (lackA O).map fun A => ⟨A.i, laterV now wait⟩) rfl ?_ O
  intro l A ih
  rw [watchL_snoc, lackA_snoc, List.map_append, ih]
  by_cases h : A.n = A.t
  · rw [if_pos h, watchF_no (by simp [h])]; rfl
  · rw [if_neg h, watchF_yes (by simp [h, hasS])]; rfl
theorem find_same {D : List Dl} {c : Int} (hD : ∀ d ∈ D, d.a = c) {i : ByteArray} (h : (⟨i, c⟩ : Dl) ∈ D) (now wait : Int) : dlOf D now wait i = ⟨i, c⟩ := by
  unfold dlOf
  rcases hf : D.find? (isD i) with _ | d
  · have := List.find?_eq_none.1 hf _ h
    simp [isD] at this
  · have h1 := List.find?_some hf
    have h2 := hD d (List.mem_of_find?_eq_some hf)
    obtain ⟨di, da⟩ := d
    simp only [isD, beq_iff_eq] at h1
    simp only at h2
    have h3 : di = i := kb_inj (by rw [ByteArray.toList_eq, ByteArray.toList_eq] at h1; exact h1)
    rw [h3, h2]; rfl
theorem watch_again {D : List Dl} {c : Int} (O : List Arr) (hD : ∀ d ∈ D, d.a = c) (hO : ∀ A ∈ lackA O, (⟨A.i, c⟩ : Dl) ∈ D) (now wait : Int) : watchL D O [] now wait = (lackA O).map fun A => ⟨A.i, c⟩ := by
  revert hO
  refine rev_ind (P := fun O => (∀ A ∈ lackA O, (⟨A.i, c⟩ : Dl) ∈ D) → watchL D O [] now wait = (lackA O).map fun A => ⟨A.i, c⟩) (fun _ => rfl) ?_ O
  intro l A ih hO
  rw [lackA_snoc] at hO
  rw [watchL_snoc, lackA_snoc, List.map_append, ih (fun B hB => hO B (List.mem_append_left _ hB))]
  by_cases h : A.n = A.t
  · rw [if_pos h, watchF_no (by simp [h])]; rfl
  · rw [if_neg h] at hO
    rw [if_neg h, watchF_yes (by simp [h, hasS]), find_same hD (hO A (by simp))]; rfl
theorem watch_same (O : List Arr) (n0 w0 now wait : Int) : watchL (watchL [] O [] n0 w0) O [] now wait = watchL [] O [] n0 w0 := by
  rw [watch_nil O n0 w0]
  exact watch_again O (c := laterV n0 w0) (fun d hd => by
    obtain ⟨A, _, rfl⟩ := List.mem_map.1 hd; rfl) (fun A hA => List.mem_map_of_mem (f := fun A : Arr => (⟨A.i, laterV n0 w0⟩ : Dl)) hA) now wait
theorem nx_some {D : List Dl} {now x : Int} (h : nextV D now = some x) : now < x ∧ ∃ d ∈ D, d.a = x := by
  revert x
  refine rev_ind (P := fun D => ∀ {x : Int}, nextV D now = some x → now < x ∧ ∃ d ∈ D, d.a = x) (fun h => by simp [nextV] at h) ?_ D
  intro l d ih x h
  have e : nextV (l ++ [d]) now = nxS now (nextV l now) d := by simp [nextV, List.foldl_append]
  rw [e] at h
  unfold nxS at h
  split at h
  · rename_i hl
    split at h
    · obtain rfl := Option.some.inj h
      exact ⟨hl, d, by simp, rfl⟩
    · rename_i y hy
      split at h
      · obtain rfl := Option.some.inj h
        exact ⟨hl, d, by simp, rfl⟩
      · obtain rfl := Option.some.inj h
        obtain ⟨h1, d', h2, h3⟩ := ih hy
        exact ⟨h1, d', by simp [h2], h3⟩
  · obtain ⟨h1, d', h2, h3⟩ := ih h
    exact ⟨h1, d', by simp [h2], h3⟩
theorem nx_none {D : List Dl} {now : Int} (h : nextV D now = none) : ∀ d ∈ D, d.a ≤ now := by
  revert h
  refine rev_ind (P := fun D => nextV D now = none → ∀ d ∈ D, d.a ≤ now) (fun _ d hd => by simp at hd) ?_ D
  intro l d ih h
  have e : nextV (l ++ [d]) now = nxS now (nextV l now) d := by simp [nextV, List.foldl_append]
  rw [e] at h
  unfold nxS at h
  split at h
  · split at h
    · cases h
    · split at h <;> cases h
  · rename_i hl
    intro d' hd'
    rcases List.mem_append.1 hd' with h1 | h1
    · exact ih h d' h1
    · obtain rfl := List.mem_singleton.1 h1
      omega
/-- Arrays with ascending IDs: as many expire as lack a member. -/
theorem exp_count {O : List Arr} (ha : AscS (O.map fun A => kb A.i)) {n0 w0 now : Int} (h : laterV n0 w0 ≤ now ∨ lackA O = []) {ids : List ByteArray} (hi : ExpIds (watchL [] O [] n0 w0) now ids) : ids.length = (lackA O).length := by
  have h2 : ExpIds (watchL [] O [] n0 w0) now ((lackA O).map Arr.i) := by
    refine ⟨?_, fun x => ?_⟩
    · rw [List.map_map]
      unfold AscS at ha ⊢
      exact ha.sublist ((List.filter_sublist (l := O)).map _)
    · rw [watch_nil]
      constructor
      · intro hx
        obtain ⟨A, hA, rfl⟩ := List.mem_map.1 hx
        refine ⟨⟨A.i, laterV n0 w0⟩, List.mem_map.2 ⟨A, hA, rfl⟩, ?_, rfl⟩
        rcases h with h | h
        · exact h
        · rw [h] at hA; simp at hA
      · rintro ⟨d, hd, _, rfl⟩
        obtain ⟨A, hA, rfl⟩ := List.mem_map.1 hd
        exact List.mem_map.2 ⟨A, hA, rfl⟩
  rw [hi.unique h2, List.length_map]
theorem lackA_le (O : List Arr) : (lackA O).length ≤ O.length := List.length_filter_le _ _
end Go.Proofs.YtbblkknndaoefaaGreatDoor
namespace Go.Proofs.YtbblkknndaoefaaGreatDoor
open Go.RowKit Go.Maps
set_option linter.unusedVariables false

theorem arrs_asc {b : ByteArray × Int → Option Mem} {O : List ArrM} {ids : List ByteArray} (h : IsIds2 b ids) (hO : O.map ArrM.toArr = ids.map (buildA b)) : AscS ((O.map ArrM.toArr).map fun A => kb A.i) := by
  rw [hO, List.map_map]
  exact h.asc
theorem Dls.off_tape {w : World} {a : Option Addr} {c : Nat} {V : List Dl} {B tb k : Nat} (h : Dls w a c V) (ht : Tape w B tb k) : ∀ ad, a = some ad → V ≠ [] → ¬ Is tb ad.block := by
  intro ad e hne hb
  obtain ⟨x, cap, l, T, hl, ha, hB, hbl⟩ := ht
  have hk : 0 < V.length := List.length_pos_iff.2 hne
  obtain ⟨b, off, d, e2, _, ⟨d0, _⟩, _⟩ := h.elem hk
  rw [e] at e2
  cases e2
  unfold Is at hb
  simp only at hb
  subst hb
  rw [cell_of_block hbl] at d0
  rcases off with _ | _ | off <;> simp at d0
theorem lack_size {O : List ArrM} (h : ∀ m ∈ O, m.i.size ≤ 1000000) (n0 f : Int) : ∀ d ∈ watchL [] (O.map ArrM.toArr) [] n0 f, d.i.size ≤ maxLen := by
  intro d hd
  rw [watch_nil] at hd
  obtain ⟨A, hA, rfl⟩ := List.mem_map.1 hd
  obtain ⟨m, hm, rfl⟩ := List.mem_map.1 (List.mem_filter.1 hA).1
  have := h m hm
  unfold maxLen
  show m.i.size ≤ _
  omega

set_option maxRecDepth 100000 in
set_option maxHeartbeats 8000000 in
theorem awaits_walk (za : Option Addr) (zc : Nat) (zl : List Int) (wt : Int) (w : World) (hl : Ints w za zc zl) (hwt : (Lit.int .i64 wt).wf = true) (hE : Env w) :
    Calls Tryz.prog 12 #[.slice za zl.length zc, .int .i64 wt] w fun e w' => e = .returned (.bool true) ∧ Fr No w w' := by
  have hx : Fr No w (w.alloc (.cells #[.slice za zl.length zc, .int .i64 0] 29)) := (Fr.refl _ _).alloc _
  have ht := Tape.make hl 29
  have hE0 := hE.no hx
  have hsz := hE.sz
  have hs0 : (w.alloc (.cells #[.slice za zl.length zc, .int .i64 0] 29)).heap.size = w.heap.size + 1 := by simp
  obtain ⟨W0, hW0⟩ : ∃ W0, W0 = w.alloc (.cells #[.slice za zl.length zc, .int .i64 0] 29) := ⟨_, rfl⟩
  rw [← hW0] at hx ht hE0 hs0
  have hs0' : w.heap.size + 1 ≤ W0.heap.size := by omega
  clear hs0 hE hl
  have hpv := made_mbs w.heap.size w.heap.size 0 7 W0 ht (by omega) (by omega)
  go_enter Tryz.func12, Tryz.ntmps12
  go_wp2_with fail
  rw [← hW0]
  clear hW0
  refine hpv.mono ?_
  rintro en w1 ⟨⟨L, a1, c1, k1, rfl, hL1, hLf, hLm, hLo, hLl, hk1, ht1, _⟩, hf1⟩
  have hE1 := hE0.fr hf1 (fun b hb h => by unfold Is at h; omega)
  have hfw1 : Fr No w w1 := hx.trans hf1 (fun _ _ h => h) (fun b hb h => by unfold Is at h; omega)
  obtain ⟨m0, hm1⟩ := hE1.len
  have hs1 := hf1.size
  have hsm := mb_small hLo (by omega)
  have hgr := a_group a1 c1 L m0 w1 hL1 hsm hm1 (by omega)
  clear hpv ht hE0 hx hf1 hLf hLm hm1
  go_wp2_with fail
  refine hgr.mono ?_
  rintro en w2 ⟨⟨oa, oc, O, ids, rfl, hO, hOb, hOm, hids, hOe, hOl, _⟩, hf2⟩
  have HOb : Hid (∀ ad, oa = some ad → w.heap.size < ad.block) := fun ad e => by have := hOb ad e; omega
  have HOm : Hid (∀ m ∈ O, (∀ ad, m.pa = some ad → w.heap.size < ad.block) ∧ ∀ ad, m.la = some ad → w.heap.size < ad.block) := fun m hm => ⟨fun ad e => by have := (hOm m hm).2.2.1 ad e; omega, fun ad e => by have := (hOm m hm).2.2.2 ad e; omega⟩
  have hOn : O.length ≤ 1000 := by have h1 := congrArg List.length hOe; simp only [List.length_map] at h1; omega
  have HAs := Lib.hid (arrs_asc hids hOe)
  have HOi := Lib.hid (arrs_id hsm hids hOe)
  have ht2 := ht1.fr hf2 (fun _ _ => id) id
  have hE2 := hE1.no hf2
  have hfw2 := hfw1.step hf2 (fun _ _ h => h)
  clear hgr hids hOe hOl hOb hOm hsm hLo hL1 ht1 hE1 hfw1 hf2
  have hfo := fold_any wt 50 w2 (by omega) (by omega) hwt
  go_wp2_with fail
  refine hfo.mono ?_
  rintro en w3 ⟨f, rfl, hf0', hf1', rfl⟩
  clear hfo hwt
  have htn := tape_next w.heap.size w.heap.size k1 100 w2 ht2 (by omega) (by omega) (by omega)
  go_wp2_with fail
  refine htn.mono ?_
  rintro en w4 ⟨n0, rfl, hn0, hn1, ht4, hf4⟩
  have hlt4 := ht4.lt
  have hO4 := hO.fr hf4 (fun ad e _ h => by have := HOb.out ad e; unfold Is at h; omega) (fun m hm => ⟨fun ad e _ h => by have := (HOm.out m hm).1 ad e; unfold Is at h; omega, fun ad e _ h => by have := (HOm.out m hm).2 ad e; unfold Is at h; omega⟩)
  have hE4 := hE2.fr hf4 (fun b hb h => by unfold Is at h; omega)
  have hfw4 : Fr No w w4 := hfw2.trans hf4 (fun _ _ h => h) (fun b hb h => by unfold Is at h; omega)
  clear htn ht2 hf4 hO hE2 hfw2
  have hwa := a_watch none 0 [] oa oc O none 0 [] n0 f w4 (Dls.nil _) hO4 (Strs.nil _) (by simp) (by omega) (by omega) (by omega) (by omega) (by omega)
  go_wp2_with fail
  refine hwa.mono ?_
  rintro en w5 ⟨⟨va, vc, V, rfl, hV, hVe⟩, hf5⟩
  have HVe := Lib.hid hVe
  have HVl : Hid (V.length = (lackA (O.map ArrM.toArr)).length) := by unfold Hid; rw [hVe, watch_nil, List.length_map]
  have HVn : Hid (V.length ≤ 100000) := by unfold Hid; have h1 := lackA_le (O.map ArrM.toArr); rw [List.length_map] at h1; rw [HVl.out]; omega
  have HVi : Hid (∀ d ∈ V, d.i.size ≤ maxLen) := by unfold Hid; rw [hVe]; exact lack_size HOi.out n0 f
  have HVa : Hid (∀ d ∈ V, d.a = laterV n0 f) := by
    intro d hd
    rw [hVe, watch_nil] at hd
    obtain ⟨A, _, rfl⟩ := List.mem_map.1 hd
    rfl
  have hlv : 0 ≤ laterV n0 f ∧ laterV n0 f ≤ 1073741824 := by unfold laterV; split <;> omega
  have hO5 := hO4.no hf5 (fun _ => id)
  have hE5 := hE4.no hf5
  have ht5 := ht4.fr hf5 (fun _ _ => id) id
  have hfw5 := hfw4.step hf5 (fun _ _ h => h)
  obtain ⟨lv, hlve⟩ : ∃ lv, lv = laterV n0 f := ⟨_, rfl⟩
  rw [← hlve] at hlv HVa
  have Hlv := Lib.hid hlve
  have hvm := hV.lenmax
  clear hwa hVe hO4 hE4 ht4 hfw4 hf5 hlve
  obtain ⟨k5, hk5⟩ : ∃ k5, k5 = k1 + 1 := ⟨_, rfl⟩
  rw [← hk5] at ht5
  go_wp2_with fail
  go_loopw [7, 9] (fun nw i wr => ∃ (j : Nat) (now : Int) (kk : Nat), j ≤ O.length + 1 ∧ nw = .int .i64 now ∧ i = .int .i64 (j : Int) ∧ 0 ≤ now ∧ now ≤ 1073741824 ∧ Hid (j = 0 ∨ lv ≤ now ∨ lackA (O.map ArrM.toArr) = []) ∧ kk ≤ 300 + j ∧ Tape wr w.heap.size w.heap.size kk ∧ Fr (Is w.heap.size) w5 wr) (fun _ i _ => O.length + 1 - (intOf i).toNat)
  case atStart => exact ⟨0, n0, k5, by omega, rfl, rfl, by omega, by omega, .inl rfl, by omega, ht5, Fr.refl _ _⟩
  case round =>
    obtain ⟨j, now, kk, hj, rfl, rfl, hnw0, hnw1, Hst, hkk, htr, hfr⟩ := hrel
    have hfwr : Fr No w wr := hfw5.trans hfr (fun _ _ h => h) (fun b hb h => by unfold Is at h; omega)
    have hOz := hO5.fr hfr (fun ad e _ h => by have := HOb.out ad e; unfold Is at h; omega) (fun m hm => ⟨fun ad e _ h => by have := (HOm.out m hm).1 ad e; unfold Is at h; omega, fun ad e _ h => by have := (HOm.out m hm).2 ad e; unfold Is at h; omega⟩)
    have hVz := hV.fr hfr (fun ad e hne h => hV.off_tape ht5 ad e hne h)
    have hEz := hE5.fr hfr (fun b hb h => by unfold Is at h; omega)
    by_cases hlt : j ≤ O.length
    · have hlt' : (j : Int) ≤ O.length := by omega
      have hnx := a_next va vc V now wr hVz
      rcases hnv : nextV V now with _ | x
      · rw [hnv] at hnx
        have hlz : laterV n0 f ≤ now ∨ lackA (O.map ArrM.toArr) = [] := by
          rcases hlk : lackA (O.map ArrM.toArr) with _ | ⟨A, r⟩
          · exact .inr rfl
          · refine .inl ?_
            have h1 : V ≠ [] := fun e => by have h2 := HVl.out; rw [e, hlk] at h2; simp at h2
            obtain ⟨d, hd⟩ := List.exists_mem_of_ne_nil V h1
            have h3 := nx_none hnv d hd
            rw [HVa.out d hd, Hlv.out] at h3
            exact h3
        clear hnv
        go_wp2_with fail
        refine hnx.mono ?_
        rintro en w6 ⟨hne, hf6⟩
        have hne' : en = .returned (.tuple #[.int .i64 0, .bool false]) := hne
        subst hne'
        have hOz := hOz.no hf6 (fun _ => id)
        have hVz := hVz.no hf6 (fun _ => id)
        have hEz := hEz.no hf6
        have hfz := hfwr.step hf6 (fun _ _ h => h)
        clear hnx hne hf6 hfwr htr hfr hO5 hV hE5 ht5 hfw5 Hst
        go_wp2_with fail
        go_loopw [13, 14] (fun c i wq => ∃ q : Nat, q ≤ O.length ∧ c = .int .i64 (((lackA ((O.map ArrM.toArr).take q)).length : Nat) : Int) ∧ i = .int .i64 (q : Int) ∧ Fr No w6 wq) (fun _ i _ => O.length - (intOf i).toNat)
        case atStart => exact ⟨0, by omega, rfl, rfl, Fr.refl _ _⟩
        case round =>
          obtain ⟨q, hq, rfl, rfl, hfq⟩ := hrel
          by_cases hltq : q < O.length
          · have hltq' : (q : Int) < O.length := by omega
            have hOq := hOz.no hfq (fun _ => id)
            obtain ⟨ob, oo, B, rfl, hBq, _, ⟨c0, c1, c2, c3, c4, c5⟩, _⟩ := hOq.elem hltq
            have Htq : Hid ((O.map ArrM.toArr).take (q + 1) = (O.map ArrM.toArr).take q ++ [B.toArr]) := by unfold Hid; rw [List.take_add_one, List.getElem?_map, hBq]; simp
            have hlq : (lackA ((O.map ArrM.toArr).take q)).length ≤ O.length := by have h1 := lackA_le ((O.map ArrM.toArr).take q); rw [List.length_take, List.length_map] at h1; omega
            clear hBq hOq
            obtain ⟨⟨bi, bps, bt, be, bn, bl⟩, qa, qc, ma, mc⟩ := B
            simp only at c0 c1 c2 c3 c4 c5
            have hwh := a_whole bi bt be bn qa bps.length qc ma mc bl wr
            go_wp2_with fail
            refine hwh.mono ?_
            rintro en w9 ⟨rfl, hf9⟩
            have hfq2 := hfq.step hf9 (fun _ _ h => h)
            clear hwh hf9 hfq c0 c1 c2 c3 c4 c5
            cases hd : decide (bn = bt) with
            | true =>
              have hee : bn = bt := of_decide_eq_true hd
              have Hc : Hid ((lackA ((O.map ArrM.toArr).take (q + 1))).length = (lackA ((O.map ArrM.toArr).take q)).length) := by unfold Hid; rw [Htq.out, lackA_snoc, if_pos hee]; simp
              clear hd hee
              go_wp2_with fail
              go_roundw
              case rel => exact ⟨q + 1, by omega, by rw [Hc.out], by go_num, hfq2⟩
              case measure => simp [intOf]; omega
            | false =>
              have hee : ¬ bn = bt := of_decide_eq_false hd
              have Hc : Hid ((lackA ((O.map ArrM.toArr).take (q + 1))).length = (lackA ((O.map ArrM.toArr).take q)).length + 1) := by unfold Hid; rw [Htq.out, lackA_snoc, if_neg hee]; simp
              clear hd hee
              go_wp2_with fail
              go_roundw
              case rel => exact ⟨q + 1, by omega, by rw [Hc.out]; go_num, by go_num, hfq2⟩
              case measure => simp [intOf]; omega
          · obtain rfl : q = O.length := by omega
            have hte : (O.map ArrM.toArr).take O.length = O.map ArrM.toArr := List.take_of_length_le (by simp)
            rw [hte]
            clear hte
            have hge2 : ¬ (O.length : Int) < O.length := by omega
            have hVq := hVz.no hfq (fun _ => id)
            have hEq := hEz.no hfq
            have hfz2 := hfz.step hfq (fun _ _ h => h)
            have heqz : ((V.length : Nat) : Int) = (((lackA (O.map ArrM.toArr)).length : Nat) : Int) := by rw [HVl.out]
            rw [← HVl.out]
            have hxp := a_expired va vc V now wr hVq HVn.out HVi.out
            clear hVz hEz hfz hfq hOz heqz
            go_wp2_with fail
            refine hxp.mono ?_
            rintro en w8 ⟨⟨xa, xc, xs, rfl, _, hxe, _⟩, hf8⟩
            have hxl : xs.length = V.length := by rw [HVl.out]; rw [HVe.out] at hxe; exact exp_count HAs.out hlz hxe
            rw [hxl]
            have hk := known32 w8 (hEq.no hf8)
            have hfz3 := hfz2.step hf8 (fun _ _ h => h)
            clear hxp hxe hxl hf8 hfz2 hEq hVq
            go_wp2_with fail
            refine hk.mono ?_
            rintro en w7 ⟨rfl, hf7⟩
            have hfin := hfz3.step hf7 (fun _ _ h => h)
            clear hk hf7 hfz3
            go_wp2_with fail
            go_ret
            exact ⟨rfl, hfin⟩
      · rw [hnv] at hnx
        obtain ⟨hx1, d, hd, hx2⟩ := nx_some hnv
        have hxl : x = lv := by rw [← hx2]; exact HVa.out d hd
        subst hxl
        clear hnv hd hx2
        have hle : ¬ x ≤ now := by omega
        go_wp2_with fail
        refine hnx.mono ?_
        rintro en w6 ⟨hne, hf6⟩
        have hne' : en = .returned (.tuple #[.int .i64 x, .bool true]) := hne
        subst hne'
        have hO6 := hOz.no hf6 (fun _ => id)
        have hV6 := hVz.no hf6 (fun _ => id)
        have ht6 := htr.fr hf6 (fun _ _ => id) id
        have hfr6 := hfr.step (hf6.mono (fun _ _ h => h.elim)) (fun _ _ h => h)
        have htn := tape_next w.heap.size w.heap.size kk 9 w6 ht6 (by omega) (by omega) (by omega)
        have hs6 := hf6.size
        have htl := ht6.lt
        clear hnx hne hf6 hOz hVz hEz htr hfr
        go_wp2_with fail
        refine htn.mono ?_
        rintro en w7 ⟨r9, rfl, hr0, hr1, ht7, hf7⟩
        have hO7 := hO6.fr hf7 (fun ad e _ h => by have := HOb.out ad e; unfold Is at h; omega) (fun m hm => ⟨fun ad e _ h => by have := (HOm.out m hm).1 ad e; unfold Is at h; omega, fun ad e _ h => by have := (HOm.out m hm).2 ad e; unfold Is at h; omega⟩)
        have hV7 := hV6.fr hf7 (fun ad e hne h => hV6.off_tape ht6 ad e hne h)
        have hfr7 := hfr6.step hf7 (fun _ _ h => h)
        have hwb := a_watch va vc V oa oc O none 0 [] x (f + r9) w7 hV7 hO7 (Strs.nil _) HVn.out (by omega) (by omega) (by omega) (by omega) (by omega)
        clear htn ht6 hf7 hO6 hV6 hfr6
        go_wp2_with fail
        refine hwb.mono ?_
        rintro en w8 ⟨⟨ua, uc, U, rfl, hU, hUe⟩, hf8⟩
        have hUV : U = V := by rw [hUe, HVe.out, watch_same]
        subst hUV
        have hV8 := hV7.no hf8 (fun _ => id)
        have ht8 := ht7.fr hf8 (fun _ _ => id) id
        have hfr8 := hfr7.step (hf8.mono (fun _ _ h => h.elim)) (fun _ _ h => h)
        have hsd := same_deadlines_eq ua va uc vc U w8 hU hV8
        clear hwb hUe ht7 hV7 hO7 hf8 hfr7
        go_wp2_with fail
        refine hsd.mono ?_
        rintro en w9 ⟨rfl, hf9⟩
        have ht9 := ht8.fr hf9 (fun _ _ => id) id
        have hfr9 := hfr8.step (hf9.mono (fun _ _ h => h.elim)) (fun _ _ h => h)
        clear hsd hU hV8 ht8 hf9 hfr8
        go_wp2_with fail
        go_roundw
        case rel => exact ⟨j + 1, x, kk + 1, by omega, rfl, by go_num, by omega, by omega, .inr (.inl (Int.le_refl _)), by omega, ht9, hfr9⟩
        case measure => simp [intOf]; omega
    · obtain rfl : j = O.length + 1 := by omega
      have hgt : ¬ ((O.length : Int) + 1) ≤ O.length := by omega
      have hlz : laterV n0 f ≤ now ∨ lackA (O.map ArrM.toArr) = [] := by
        rcases Hst.out with h | h | h
        · omega
        · rw [Hlv.out] at h; exact .inl h
        · exact .inr h
      have hfz := hfwr
      clear hfwr htr hfr hO5 hV hE5 ht5 hfw5 Hst
      rw [show (((O.length + 1 : Nat) : Nat) : Int) = (O.length : Int) + 1 from by omega]
      go_wp2_with fail
      go_loopw [13, 14] (fun c i wq => ∃ q : Nat, q ≤ O.length ∧ c = .int .i64 (((lackA ((O.map ArrM.toArr).take q)).length : Nat) : Int) ∧ i = .int .i64 (q : Int) ∧ Fr No wr wq) (fun _ i _ => O.length - (intOf i).toNat)
      case atStart => exact ⟨0, by omega, rfl, rfl, Fr.refl _ _⟩
      case round =>
        obtain ⟨q, hq, rfl, rfl, hfq⟩ := hrel
        by_cases hltq : q < O.length
        · have hltq' : (q : Int) < O.length := by omega
          have hOq := hOz.no hfq (fun _ => id)
          obtain ⟨ob, oo, B, rfl, hBq, _, ⟨c0, c1, c2, c3, c4, c5⟩, _⟩ := hOq.elem hltq
          have Htq : Hid ((O.map ArrM.toArr).take (q + 1) = (O.map ArrM.toArr).take q ++ [B.toArr]) := by unfold Hid; rw [List.take_add_one, List.getElem?_map, hBq]; simp
          have hlq : (lackA ((O.map ArrM.toArr).take q)).length ≤ O.length := by have h1 := lackA_le ((O.map ArrM.toArr).take q); rw [List.length_take, List.length_map] at h1; omega
          clear hBq hOq
          obtain ⟨⟨bi, bps, bt, be, bn, bl⟩, qa, qc, ma, mc⟩ := B
          simp only at c0 c1 c2 c3 c4 c5
          have hwh := a_whole bi bt be bn qa bps.length qc ma mc bl wr
          go_wp2_with fail
          refine hwh.mono ?_
          rintro en w9 ⟨rfl, hf9⟩
          have hfq2 := hfq.step hf9 (fun _ _ h => h)
          clear hwh hf9 hfq c0 c1 c2 c3 c4 c5
          cases hd : decide (bn = bt) with
          | true =>
            have hee : bn = bt := of_decide_eq_true hd
            have Hc : Hid ((lackA ((O.map ArrM.toArr).take (q + 1))).length = (lackA ((O.map ArrM.toArr).take q)).length) := by unfold Hid; rw [Htq.out, lackA_snoc, if_pos hee]; simp
            clear hd hee
            go_wp2_with fail
            go_roundw
            case rel => exact ⟨q + 1, by omega, by rw [Hc.out], by go_num, hfq2⟩
            case measure => simp [intOf]; omega
          | false =>
            have hee : ¬ bn = bt := of_decide_eq_false hd
            have Hc : Hid ((lackA ((O.map ArrM.toArr).take (q + 1))).length = (lackA ((O.map ArrM.toArr).take q)).length + 1) := by unfold Hid; rw [Htq.out, lackA_snoc, if_neg hee]; simp
            clear hd hee
            go_wp2_with fail
            go_roundw
            case rel => exact ⟨q + 1, by omega, by rw [Hc.out]; go_num, by go_num, hfq2⟩
            case measure => simp [intOf]; omega
        · obtain rfl : q = O.length := by omega
          have hte : (O.map ArrM.toArr).take O.length = O.map ArrM.toArr := List.take_of_length_le (by simp)
          rw [hte]
          clear hte
          have hge2 : ¬ (O.length : Int) < O.length := by omega
          have hVq := hVz.no hfq (fun _ => id)
          have hEq := hEz.no hfq
          have hfz2 := hfz.step hfq (fun _ _ h => h)
          have heqz : ((V.length : Nat) : Int) = (((lackA (O.map ArrM.toArr)).length : Nat) : Int) := by rw [HVl.out]
          rw [← HVl.out]
          have hxp := a_expired va vc V now wr hVq HVn.out HVi.out
          clear hVz hEz hfz hfq hOz heqz
          go_wp2_with fail
          refine hxp.mono ?_
          rintro en w8 ⟨⟨xa, xc, xs, rfl, _, hxe, _⟩, hf8⟩
          have hxl : xs.length = V.length := by rw [HVl.out]; rw [HVe.out] at hxe; exact exp_count HAs.out hlz hxe
          rw [hxl]
          have hk := known32 w8 (hEq.no hf8)
          have hfz3 := hfz2.step hf8 (fun _ _ h => h)
          clear hxp hxe hxl hf8 hfz2 hEq hVq
          go_wp2_with fail
          refine hk.mono ?_
          rintro en w7 ⟨rfl, hf7⟩
          have hfin := hfz3.step hf7 (fun _ _ h => h)
          clear hk hf7 hfz3
          go_wp2_with fail
          go_ret
          exact ⟨rfl, hfin⟩
end Go.Proofs.YtbblkknndaoefaaGreatDoor
namespace Go.Proofs.YtbblkknndaoefaaGreatDoor
open Go.RowKit Go.Maps
set_option linter.unusedVariables false

def wIds : List ByteArray := [⟨#[114]⟩, ⟨#[115]⟩, ⟨#[114, 49]⟩]
def xIds : List ByteArray := [⟨#[114]⟩, ⟨#[115]⟩, ⟨#[120]⟩]
theorem xIds_size : ∀ x ∈ xIds, x.size ≤ 10 := by decide
theorem watch_len (D : List Dl) (L : List Arr) (ex : List ByteArray) (now wait : Int) : (watchL D L ex now wait).length ≤ L.length := by
  refine rev_ind (P := fun L => (watchL D L ex now wait).length ≤ L.length) (by simp [watchL]) ?_ L
  intro l A ih
  rw [watchL_snoc, List.length_append, List.length_append]
  have h1 : (watchF D ex now wait A).length ≤ 1 := by unfold watchF; split <;> simp
  simp only [List.length_cons, List.length_nil]
  omega
theorem watch_ids {D : List Dl} {L : List Arr} {ex : List ByteArray} {now wait : Int} (hD : ∀ d ∈ D, d.i.size ≤ maxLen) (hL : ∀ A ∈ L, A.i.size ≤ maxLen) : ∀ d ∈ watchL D L ex now wait, d.i.size ≤ maxLen := by
  intro d hd
  unfold watchL at hd
  obtain ⟨A, hA, h⟩ := List.mem_flatMap.1 hd
  unfold watchF at h
  split at h
  · simp at h
  · obtain rfl := List.mem_singleton.1 h
    unfold dlOf
    rcases hf : D.find? (isD A.i) with _ | d
    · exact hL A hA
    · exact hD d (List.mem_of_find?_eq_some hf)
theorem sameT_self (l : List ByteArray) : sameT l l = true := by simp [sameT]

set_option maxRecDepth 100000 in
set_option maxHeartbeats 8000000 in
theorem awatches_walk (za : Option Addr) (zc : Nat) (zl : List Int) (da : Option Addr) (dc : Nat) (D : List Dl) (now wait : Int) (w : World) (hl : Ints w za zc zl) (hD : Dls w da dc D) (hDin : DlsIn D) (hnow : (Lit.int .i64 now).wf = true) (hwait : (Lit.int .i64 wait).wf = true) (hE : Env w) :
    Calls Tryz.prog 11 #[.slice za zl.length zc, .slice da D.length dc, .int .i64 now, .int .i64 wait] w fun e w' => e = .returned (.bool true) ∧ Fr No w w' := by
  obtain ⟨i0, hi0, hz0, hz1, hz2⟩ := info_parts infoS
  obtain ⟨j0, hj0, hy0, hy1, hy2⟩ := info_parts infoDl
  have hDm := hD.lenmax
  have HDi : Hid (∀ d ∈ D, d.i.size ≤ maxLen) := fun d hd => by have := hDin.i d hd; unfold maxLen; unfold reachBytes at this; omega
  clear hDin
  have hkn := known32 w hE
  go_enter Tryz.func11, Tryz.ntmps11
  go_upto_region 1 with (fail)
  by_cases c1 : D.length ≤ 40
  · have c1' : ¬ (40 : Int) < D.length := by omega
    by_cases c2 : 0 ≤ now
    · have c2' : ¬ now < 0 := by omega
      by_cases c3 : now ≤ 1073741824
      · have c3' : ¬ 1073741824 < now := by omega
        by_cases c4 : 0 ≤ wait
        · have c4' : ¬ wait < 0 := by omega
          by_cases c5 : wait ≤ 1073741824
          · have c5' : ¬ 1073741824 < wait := by omega
            clear hkn hnow hwait
            have hx : Fr No w (w.alloc (.cells #[.slice za zl.length zc, .int .i64 0] 29)) := (Fr.refl _ _).alloc _
            have ht := Tape.make hl 29
            have hE0 := hE.no hx
            have hsz := hE.sz
            have hs0 : (w.alloc (.cells #[.slice za zl.length zc, .int .i64 0] 29)).heap.size = w.heap.size + 1 := by simp
            obtain ⟨W0, hW0⟩ : ∃ W0, W0 = w.alloc (.cells #[.slice za zl.length zc, .int .i64 0] 29) := ⟨_, rfl⟩
            rw [← hW0] at hx ht hE0 hs0
            have hs0' : w.heap.size + 1 ≤ W0.heap.size := by omega
            clear hs0 hE hl
            have hpv := made_mbs w.heap.size w.heap.size 0 7 W0 ht (by omega) (by omega)
            go_wp2_with fail
            rw [← hW0]
            clear hW0
            refine hpv.mono ?_
            rintro en w1 ⟨⟨L, a1, c1m, k1, rfl, hL1, hLf, hLm, hLo, hLl, hk1, ht1, _⟩, hf1⟩
            have hE1 := hE0.fr hf1 (fun b hb h => by unfold Is at h; omega)
            have hfw1 : Fr No w w1 := hx.trans hf1 (fun _ _ h => h) (fun b hb h => by unfold Is at h; omega)
            obtain ⟨m0, hm1⟩ := hE1.len
            have hs1 := hf1.size
            have hsm := mb_small hLo (by omega)
            have hgr := a_group a1 c1m L m0 w1 hL1 hsm hm1 (by omega)
            clear hpv ht hE0 hx hf1 hLf hLm hm1
            go_wp2_with fail
            refine hgr.mono ?_
            rintro en w2 ⟨⟨oa, oc, O, ids, rfl, hO, hOb, hOm, hids, hOe, hOl, _⟩, hf2⟩
            have HOb : Hid (∀ ad, oa = some ad → w.heap.size < ad.block) := fun ad e => by have := hOb ad e; omega
            have HOm : Hid (∀ m ∈ O, (∀ ad, m.pa = some ad → w.heap.size < ad.block) ∧ ∀ ad, m.la = some ad → w.heap.size < ad.block) := fun m hm => ⟨fun ad e => by have := (hOm m hm).2.2.1 ad e; omega, fun ad e => by have := (hOm m hm).2.2.2 ad e; omega⟩
            have hOn : O.length ≤ 1000 := by have h1 := congrArg List.length hOe; simp only [List.length_map] at h1; omega
            have HOi := Lib.hid (arrs_id hsm hids hOe)
            have ht2 := ht1.fr hf2 (fun _ _ => id) id
            have hE2 := hE1.no hf2
            have hfw2 := hfw1.step hf2 (fun _ _ h => h)
            clear hgr hids hOe hOl hOb hOm hsm hLo hL1 ht1 hE1 hfw1 hf2
            have htn := tape_next w.heap.size w.heap.size k1 3 w2 ht2 (by omega) (by omega) (by omega)
            go_wp2_with fail
            refine htn.mono ?_
            rintro en w4 ⟨n0, rfl, hn0, hn1, ht4, hf4⟩
            have hlt4 := ht4.lt
            have hO4 := hO.fr hf4 (fun ad e _ h => by have := HOb.out ad e; unfold Is at h; omega) (fun m hm => ⟨fun ad e _ h => by have := (HOm.out m hm).1 ad e; unfold Is at h; omega, fun ad e _ h => by have := (HOm.out m hm).2 ad e; unfold Is at h; omega⟩)
            have hE4 := hE2.fr hf4 (fun b hb h => by unfold Is at h; omega)
            have hfw4 : Fr No w w4 := hfw2.trans hf4 (fun _ _ h => h) (fun b hb h => by unfold Is at h; omega)
            clear htn ht2 hf4 hO hE2 hfw2
            obtain ⟨n0, rfl⟩ := Int.eq_ofNat_of_zero_le hn0
            obtain ⟨k4, hk4⟩ : ∃ k4, k4 = k1 + 1 := ⟨_, rfl⟩
            rw [← hk4] at ht4
            go_wp2_with fail
            go_loopw [11, 12] (fun v i wr => ∃ (ex : List ByteArray) (xa : Option Addr) (xc : Nat) (r kk : Nat), v = .slice xa ex.length xc ∧ i = .int .i64 (r : Int) ∧ ex.length + r ≤ 2 ∧ kk ≤ 300 + ex.length ∧ wr.ownsRow w4.heap.size 9 1 (.slice xa ex.length xc) ex.length (ex.map Value.string) ∧ Tape wr w.heap.size w.heap.size kk ∧ Fr (Is w.heap.size) w4 wr) (fun _ i _ => (intOf i).toNat)
            case atStart => exact ⟨[], none, 0, n0, k4, rfl, rfl, by simp; omega, by simp; omega, World.ownsRow_nil _ _ _ _, ht4, Fr.refl _ _⟩
            case round =>
              obtain ⟨ex, xa, xc, r, kk, rfl, rfl, hexr, hkk, hown, htr, hfr⟩ := hrel
              have hsr := hfr.size
              have htl := htr.lt
              by_cases hr : 0 < r
              · have hr' : (0 : Int) < r := by omega
                have hx3 : Fr No wr (wr.alloc (.cells (wIds.map Value.string).toArray 9)) := (Fr.refl _ _).alloc _
                have hS3 := Strs.of_block (l := wIds) (block_alloc wr (.cells (wIds.map Value.string).toArray 9)) (by unfold maxLen wIds; simp)
                have hone := tape_one w.heap.size w.heap.size kk (some ⟨wr.heap.size, 0, none⟩) 3 wIds _ (htr.fr hx3 (fun _ _ => id) id) (by omega) hS3 (by decide) (by decide) (fun ad e => by cases e; show wr.heap.size ≠ w.heap.size; omega)
                go_wp2_with fail
                refine hone.mono ?_
                rintro en w6 ⟨⟨y, rfl, hy⟩, ht6, hf6⟩
                have hs6 := (hx3.mono (T := Is w.heap.size) (fun _ _ h => h.elim) |>.step hf6 (fun _ _ h => h)).size
                have hfr6 := (hfr.step (hx3.mono (fun _ _ h => h.elim)) (fun _ _ h => h)).step hf6 (fun _ _ h => h)
                have hown6 := ownsRow_at (ownsRow_at hown hx3 (fun _ _ h => h)) hf6 (fun b h e => by have := ownsRow_blk hown h; unfold From at this; unfold Is at e; omega)
                have Hown6 := Lib.hid hown6
                clear hone hS3 hx3 hown htr hf6 hfr hy
                go_wp2_with (at_builtin; refine wpList_append_own _ rfl _ _ 33 rfl (w4.heap.size) 9 i0 (.string ByteArray.empty) 1 16 Tryz.underlying33 hi0 hz0 hz1 hz2 rfl (by decide) _ _ _ rfl (hown6.alloc _) ⟨w6.heap.size, 0, none⟩ 1 1 [.string y] rfl rfl (cell_one_new _ _ _) (strs_one [y]) (by unfold maxLen; omega) (by omega) (by first | omega | (simp; done) | (simp; omega)) ?_; intro v' w9 hown9 hgrow9 _; obtain ⟨av', cv', rfl⟩ := ownsRow_slice hown9)
                have hal : Fr No w6 (w6.alloc (.cells #[.string y] 9)) := (Fr.refl _ _).alloc _
                have hgf : Fr (fun b => (Value.slice xa ex.length xc).ownBlock = some b) (w6.alloc (.cells #[.string y] 9)) w9 := Fr.of_grown hgrow9
                have HF9 : Hid (Fr (Is w.heap.size) w4 w9) := (hfr6.step (hal.mono (fun _ _ h => h.elim)) (fun _ _ h => h)).trans hgf (fun _ _ h => h) (fun b hb h => by have := ownsRow_blk Hown6.out h; unfold From at this; omega)
                have Ht9 := Lib.hid ((ht6.fr hal (fun _ _ => id) id).fr hgf (fun b hb h => by have := ownsRow_blk Hown6.out h; unfold From at this; omega) (fun h => by have := ownsRow_blk Hown6.out h; unfold From at this; omega))
                have Hown9 := Lib.hid hown9
                clear hown9 hgrow9 hgf hal hown6 hfr6 ht6
                go_wp2_with fail
                go_roundw
                case rel => exact ⟨ex ++ [y], av', cv', r - 1, kk + 1, by simp, by go_num, by simp; omega, by simp; omega, by rw [List.length_append, List.map_append]; exact Hown9.out, Ht9.out, HF9.out⟩
                case measure => simp [intOf]; omega
              · obtain rfl : r = 0 := by omega
                have hxl : ex.length ≤ 2 := by omega
                rw [show ((0 : Nat) : Int) = 0 from rfl]
                obtain ⟨xa', xc', ee, hX, hXb⟩ := Strs.of_own hown
                cases ee
                have hO5 := hO4.fr hfr (fun ad e _ h => by have := HOb.out ad e; unfold Is at h; omega) (fun m hm => ⟨fun ad e _ h => by have := (HOm.out m hm).1 ad e; unfold Is at h; omega, fun ad e _ h => by have := (HOm.out m hm).2 ad e; unfold Is at h; omega⟩)
                have hE5 := hE4.fr hfr (fun b hb h => by unfold Is at h; omega)
                have hfw5 : Fr No w wr := hfw4.trans hfr (fun _ _ h => h) (fun b hb h => by unfold Is at h; omega)
                have HXb : Hid (∀ ad, xa = some ad → w.heap.size < ad.block) := fun ad e => by have := hXb ad e; omega
                have hD5 := hD.no hfw5 (fun _ => id)
                have hup := hD5.all
                clear hO4 hE4 hfw4 hfr hown hexr hXb
                go_wp2_with (at_builtin; refine wpList_append_src rfl _ _ 78 rfl (wr.heap.size) 81 j0 (.agg #[.string ByteArray.empty, .int .i64 0]) 2 24 Tryz.underlying78 hj0 hy0 hy1 hy2 rfl (by decide) _ 0 [] rfl (World.ownsRow_nil _ _ _ _) _ D.length _ (dflat D) rfl hup.2 (dflat_len D) hup.1 (dflat_one _) (by unfold maxLen; omega) (by omega) (by first | omega | (simp; done) | (simp; omega)) ?_; intro v5 w5 own1 gr1; simp only [Nat.zero_add, List.nil_append] at own1; obtain ⟨av1, cv1, rfl⟩ := ownsRow_slice own1)
                have hf5 : Fr No wr w5 := Fr.of_grown_none gr1
                have ht5 := htr.fr hf5 (fun _ _ => id) id
                have hs5 := hf5.size
                have HF : Hid (Fr No w w5) := hfw5.step hf5 (fun _ _ h => h)
                have HT : Hid (Fr (Is w.heap.size) wr w5) := hf5.mono (fun _ _ h => h.elim)
                have Hown1 := Lib.hid own1
                clear gr1 hup hf5 htr hfw5 own1 hD5
                have hxI : Fr No w5 (w5.alloc (.cells (xIds.map Value.string).toArray 9)) := (Fr.refl _ _).alloc _
                have hSI := Strs.of_block (l := xIds) (block_alloc w5 (.cells (xIds.map Value.string).toArray 9)) (by unfold maxLen xIds; simp)
                have htl1 := ht5.lt
                have hone := tape_one w.heap.size w.heap.size (kk) (some ⟨w5.heap.size, 0, none⟩) 3 xIds _ (ht5.fr hxI (fun _ _ => id) id) (by omega) hSI (by decide) (by decide) (fun ad e => by cases e; show w5.heap.size ≠ w.heap.size; omega)
                go_wp2_with fail
                refine hone.mono ?_
                rintro en wo1 ⟨⟨y1, rfl, hy1⟩, hto1, hfo⟩
                have Hy1 : Hid (y1 ∈ xIds) := hy1
                have HF : Hid (Fr No w wo1) := (HF.out.step hxI (fun _ _ h => h)).trans hfo (fun _ _ h => h) (fun b hb h => by unfold Is at h; omega)
                have HT : Hid (Fr (Is w.heap.size) wr wo1) := (HT.out.step (hxI.mono (fun _ _ h => h.elim)) (fun _ _ h => h)).step hfo (fun _ _ h => h)
                have Hown1 := Lib.hid (ownsRow_at (ownsRow_at Hown1.out hxI (fun _ _ h => h)) hfo (fun b h e => by have := ownsRow_blk Hown1.out h; unfold From at this; unfold Is at e; omega))
                have hso1 := HT.out.size
                clear hone hSI hxI hfo hy1 ht5
                have htn := tape_next w.heap.size w.heap.size (kk + 1) 30 wo1 hto1 (by omega) (by omega) (by omega)
                go_wp2_with fail
                refine htn.mono ?_
                rintro en wp1 ⟨r1, rfl, hr1, hr1x, htp1, hfo⟩
                have HF : Hid (Fr No w wp1) := HF.out.trans hfo (fun _ _ h => h) (fun b hb h => by unfold Is at h; omega)
                have HT : Hid (Fr (Is w.heap.size) wr wp1) := HT.out.step hfo (fun _ _ h => h)
                have Hown1 := Lib.hid (ownsRow_at Hown1.out hfo (fun b h e => by have := ownsRow_blk Hown1.out h; unfold From at this; unfold Is at e; omega))
                have hsp1 := HT.out.size
                clear htn hto1 hfo
                have hxI : Fr No wp1 (wp1.alloc (.cells (xIds.map Value.string).toArray 9)) := (Fr.refl _ _).alloc _
                have hSI := Strs.of_block (l := xIds) (block_alloc wp1 (.cells (xIds.map Value.string).toArray 9)) (by unfold maxLen xIds; simp)
                have htl2 := htp1.lt
                have hone := tape_one w.heap.size w.heap.size (kk + 1 + 1) (some ⟨wp1.heap.size, 0, none⟩) 3 xIds _ (htp1.fr hxI (fun _ _ => id) id) (by omega) hSI (by decide) (by decide) (fun ad e => by cases e; show wp1.heap.size ≠ w.heap.size; omega)
                go_wp2_with fail
                refine hone.mono ?_
                rintro en wo2 ⟨⟨y2, rfl, hy2⟩, hto2, hfo⟩
                have Hy2 : Hid (y2 ∈ xIds) := hy2
                have HF : Hid (Fr No w wo2) := (HF.out.step hxI (fun _ _ h => h)).trans hfo (fun _ _ h => h) (fun b hb h => by unfold Is at h; omega)
                have HT : Hid (Fr (Is w.heap.size) wr wo2) := (HT.out.step (hxI.mono (fun _ _ h => h.elim)) (fun _ _ h => h)).step hfo (fun _ _ h => h)
                have Hown1 := Lib.hid (ownsRow_at (ownsRow_at Hown1.out hxI (fun _ _ h => h)) hfo (fun b h e => by have := ownsRow_blk Hown1.out h; unfold From at this; unfold Is at e; omega))
                have hso2 := HT.out.size
                clear hone hSI hxI hfo hy2 htp1
                have htn := tape_next w.heap.size w.heap.size (kk + 1 + 1 + 1) 30 wo2 hto2 (by omega) (by omega) (by omega)
                go_wp2_with fail
                refine htn.mono ?_
                rintro en W5 ⟨r2, rfl, hr2, hr2x, htp2, hfo⟩
                have HF : Hid (Fr No w W5) := HF.out.trans hfo (fun _ _ h => h) (fun b hb h => by unfold Is at h; omega)
                have HT : Hid (Fr (Is w.heap.size) wr W5) := HT.out.step hfo (fun _ _ h => h)
                have Hown1 := Lib.hid (ownsRow_at Hown1.out hfo (fun b h e => by have := ownsRow_blk Hown1.out h; unfold From at this; unfold Is at e; omega))
                have hsp2 := HT.out.size
                clear htn hto2 hfo
                have hxD : Fr No W5 (W5.alloc (.cells #[.string y1, .int .i64 r1, .string y2, .int .i64 r2] 81)) := (Fr.refl _ _).alloc _
                have Hxd := Lib.hid hxD
                have hownx := Hown1.out.alloc (.cells #[.string y1, .int .i64 r1, .string y2, .int .i64 r2] 81)
                have Hownx := Lib.hid hownx
                go_wp2_with (at_builtin; refine wpList_append_own _ rfl _ _ 78 rfl (wr.heap.size) 81 j0 (.agg #[.string ByteArray.empty, .int .i64 0]) 2 24 Tryz.underlying78 hj0 hy0 hy1 hy2 rfl (by decide) _ _ _ rfl hownx ⟨W5.heap.size, 0, none⟩ 2 2 [.string y1, .int .i64 r1, .string y2, .int .i64 r2] rfl rfl (cells_new _ #[.string y1, .int .i64 r1, .string y2, .int .i64 r2] _ rfl) (by intro u hu; simp only [List.mem_cons, List.not_mem_nil, or_false] at hu; rcases hu with rfl | rfl | rfl | rfl <;> rfl) (by unfold maxLen; omega) (by omega) (by first | omega | (simp; done) | (simp; omega)) ?_; intro v' w9 hown9 hgrow9 _; obtain ⟨av', cv', rfl⟩ := ownsRow_slice hown9)
                have hgf : Fr (fun b => (Value.slice av1 D.length cv1).ownBlock = some b) (W5.alloc (.cells #[.string y1, .int .i64 r1, .string y2, .int .i64 r2] 81)) w9 := Fr.of_grown hgrow9
                have HF9 : Hid (Fr No w w9) := (HF.out.step Hxd.out (fun _ _ h => h)).trans hgf (fun _ _ h => h) (fun b hb h => by have := ownsRow_blk Hownx.out h; unfold From at this; omega)
                have HT9 : Hid (Fr (Is w.heap.size) wr w9) := (HT.out.step (Hxd.out.mono (fun _ _ h => h.elim)) (fun _ _ h => h)).trans hgf (fun _ _ h => h) (fun b hb h => by have := ownsRow_blk Hownx.out h; unfold From at this; omega)
                obtain ⟨T, hT⟩ : ∃ T, T = D ++ [⟨y1, r1⟩, ⟨y2, r2⟩] := ⟨_, rfl⟩
                have hTl : D.length + 2 = T.length := by rw [hT]; simp
                have hownT : w9.ownsRow wr.heap.size 81 2 (.slice av' T.length cv') T.length (dflat T) := by rw [← hTl, hT, dflat_append]; exact hown9
                obtain ⟨av2, cv2, ee, hTd, _⟩ := Dls.of_own hownT
                cases ee
                have HTi : Hid (∀ d ∈ T, d.i.size ≤ maxLen) := by
                  intro d hd
                  rw [hT] at hd
                  rcases List.mem_append.1 hd with h | h
                  · exact HDi.out d h
                  · simp only [List.mem_cons, List.not_mem_nil, or_false] at h
                    rcases h with rfl | rfl
                    · have := xIds_size _ Hy1.out; unfold maxLen; show y1.size ≤ _; omega
                    · have := xIds_size _ Hy2.out; unfold maxLen; show y2.size ≤ _; omega
                rw [hTl]
                have hTn : T.length ≤ 42 := by omega
                have hO9 := hO5.fr HT9.out (fun ad e _ h => by have := HOb.out ad e; unfold Is at h; omega) (fun m hm => ⟨fun ad e _ h => by have := (HOm.out m hm).1 ad e; unfold Is at h; omega, fun ad e _ h => by have := (HOm.out m hm).2 ad e; unfold Is at h; omega⟩)
                have hX9 := hX.fr HT9.out (fun ad e _ h => by have := HXb.out ad e; unfold Is at h; omega)
                have hE9 := hE5.fr HT9.out (fun b hb h => by unfold Is at h; omega)
                clear hownT hTl hT hown9 hgrow9 hgf Hxd hxD hownx Hownx HT HF Hown1 hO5 hX hE5
                have hwa := a_watch av' cv' T oa oc O xa xc ex now wait w9 hTd hO9 hX9 (by omega) (by omega) (by omega) (by omega) (by omega) (by omega)
                go_wp2_with fail
                refine hwa.mono ?_
                rintro en w10 ⟨⟨ua, uc, U, rfl, hU, hUe⟩, hf10⟩
                have HUe := Lib.hid hUe
                have hT10 := hTd.no hf10 (fun _ => id)
                have hO10 := hO9.no hf10 (fun _ => id)
                have hX10 := hX9.no hf10 (fun _ => id)
                have hE10 := hE9.no hf10
                have hf10w := HF9.out.step hf10 (fun _ _ h => h)
                clear hwa hUe hf10 hTd hO9 hX9 hE9 HF9 HT9
                have hwb := r_watch av' cv' T oa oc O xa xc ex now wait w10 hT10 hO10 hX10 (by omega) (by omega) (by omega) (by omega) (by omega) (by omega)
                go_wp2_with fail
                refine hwb.mono ?_
                rintro en w11 ⟨⟨pa, pc, P, rfl, hP, hPe⟩, hf11⟩
                have hPU : P = U := by rw [hPe, HUe.out]
                subst hPU
                have hU11 := hU.no hf11 (fun _ => id)
                have hT11 := hT10.no hf11 (fun _ => id)
                have hE11 := hE10.no hf11
                have hf11w := hf10w.step hf11 (fun _ _ h => h)
                have hsd := same_deadlines_eq ua pa uc pc P w11 hU11 hP
                have HUi : Hid (∀ d ∈ P, d.i.size ≤ maxLen) := by
                  unfold Hid
                  rw [hPe]
                  refine watch_ids HTi.out (fun A hA => ?_)
                  obtain ⟨m, hm, rfl⟩ := List.mem_map.1 hA
                  have := HOi.out m hm
                  unfold maxLen
                  show m.i.size ≤ _
                  omega
                have hUn : P.length ≤ 1000 := by have h1 := watch_len T (O.map ArrM.toArr) ex now wait; rw [← hPe, List.length_map] at h1; omega
                clear hwb hPe hf11 hU hT10 hO10 hX10 hE10 hf10w hP
                go_wp2_with fail
                refine hsd.mono ?_
                rintro en w12 ⟨rfl, hf12⟩
                have hU12 := hU11.no hf12 (fun _ => id)
                have hT12 := hT11.no hf12 (fun _ => id)
                have hE12 := hE11.no hf12
                have hf12w := hf11w.step hf12 (fun _ _ h => h)
                clear hsd hU11 hT11 hE11 hf11w hf12
                have hxQ : Fr No w12 (w12.alloc (.cells #[.slice av' T.length cv', .slice ua P.length uc, .slice da D.length dc] 78)) := (Fr.refl _ _).alloc _
                have qq := block_alloc w12 (.cells #[.slice av' T.length cv', .slice ua P.length uc, .slice da D.length dc] 78)
                obtain ⟨W13, hW13⟩ : ∃ W13, W13 = w12.alloc (.cells #[.slice av' T.length cv', .slice ua P.length uc, .slice da D.length dc] 78) := ⟨_, rfl⟩
                rw [← hW13] at hxQ qq
                have hf13w := hf12w.step hxQ (fun _ _ h => h)
                have hU13 := hU12.no hxQ (fun _ => id)
                have hT13 := hT12.no hxQ (fun _ => id)
                have hD13 := hD.no hf13w (fun _ => id)
                have hE13 := hE12.no hxQ
                clear hU12 hT12 hE12 hf12w hxQ
                go_upto_region 15 with (fail)
                rw [← hW13]
                clear hW13
                go_wp2_with fail
                go_loopw [17] (fun i wq => ∃ q : Nat, q ≤ 3 ∧ i = .int .i64 (q : Int) ∧ Fr No W13 wq) (fun i _ => 3 - (intOf i).toNat)
                case atStart => exact ⟨0, by omega, rfl, Fr.refl _ _⟩
                case round =>
                  obtain ⟨q, hq, rfl, hfq⟩ := hrel
                  by_cases hlq : q < 3
                  · have hlq' : (q : Int) < 3 := by omega
                    have hsel : ∃ (sa : Option Addr) (sc : Nat) (S : List Dl), wr.cell? ⟨w12.heap.size, q, none⟩ = some (.slice sa S.length sc) ∧ Dls wr sa sc S ∧ S.length ≤ 100000 ∧ Hid (∀ d ∈ S, d.i.size ≤ maxLen) := by
                      have qz := hfq.heap qq id
                      have h3 : q = 0 ∨ q = 1 ∨ q = 2 := by omega
                      rcases h3 with rfl | rfl | rfl
                      · exact ⟨av', cv', T, cell_of_block qz 0, hT13.no hfq (fun _ => id), by omega, HTi.out⟩
                      · exact ⟨ua, uc, P, cell_of_block qz 1, hU13.no hfq (fun _ => id), by omega, HUi.out⟩
                      · exact ⟨da, dc, D, cell_of_block qz 2, hD13.no hfq (fun _ => id), by omega, HDi.out⟩
                    obtain ⟨sa, sc, S, cS, hS, hSn, HSi⟩ := hsel
                    obtain ⟨nx, hnx⟩ : ∃ nx : Int, nx = (nextV S now).getD 0 := ⟨_, rfl⟩
                    obtain ⟨nb, hnb⟩ : ∃ nb : Bool, nb = (nextV S now).isSome := ⟨_, rfl⟩
                    have Hnx := Lib.hid (And.intro hnx hnb)
                    clear hnx hnb
                    have hna := a_next sa sc S now wr hS
                    go_wp2_with fail
                    refine hna.mono ?_
                    rintro en w14 ⟨hne, hf14⟩
                    have hne' : en = .returned (.tuple #[.int .i64 nx, .bool nb]) := by rw [Hnx.out.1, Hnx.out.2]; exact hne
                    subst hne'
                    have cS4 := hf14.cell cS id
                    have hS4 := hS.no hf14 (fun _ => id)
                    have hfq4 := hfq.step hf14 (fun _ _ h => h)
                    have hnr := r_next sa sc S now w14 hS4
                    clear hna hne hf14 cS hS hfq
                    go_wp2_with fail
                    refine hnr.mono ?_
                    rintro en w15 ⟨hne, hf15⟩
                    have hne' : en = .returned (.tuple #[.int .i64 nx, .bool nb]) := by rw [Hnx.out.1, Hnx.out.2]; exact hne
                    subst hne'
                    have cS5 := hf15.cell cS4 id
                    have hS5 := hS4.no hf15 (fun _ => id)
                    have hfq5 := hfq4.step hf15 (fun _ _ h => h)
                    clear hnr hne hf15 cS4 hS4 hfq4
                    go_wp2_with fail
                    refine region_sig No [(0, false), (1, false), (2, false), (3, false), (4, false), (5, false), (6, false), (7, false), (8, false), (9, false), (10, false), (11, false), (12, false), (13, false), (15, false), (16, false), (17, false), (18, false), (19, false), (14, true), (20, true), (21, true), (22, false), (23, false)] (by kernel_rfl) (by kernel_rfl) (fun w0 hf0 => ?_)
                    have cS6 := hf0.cell cS5 id
                    have hS6 := hS5.no hf0 (fun _ => id)
                    have Hf6 := Lib.hid (hfq5.step hf0 (fun _ _ h => h))
                    have g0 : ∀ g : Gr No w0, g.W.cell? ⟨w12.heap.size, q, none⟩ = some (.slice sa S.length sc) := fun g => g.fr.cell cS6 id
                    clear cS5 hS5 hfq5 hf0
                    repeat (first | (apply sig_q; exact rfl; exact rfl; exact rfl; intro K hK; go_big_quiet_op; go_big_quiet_on) | (apply sig_skip; exact rfl; exact rfl; exact rfl; intro K hK; go_big_quiet_op; go_big_quiet_on))
                    have hea := a_expired sa sc S now w0 hS6 hSn HSi.out
                    clear g0
                    apply sig_m
                    exact rfl
                    go_wp2_with fail
                    refine hea.mono ?_
                    rintro en w7 ⟨⟨ea, ec, es, rfl, hes, hei, _⟩, hf7⟩
                    have Hf7 := Lib.hid (Hf6.out.step hf7 (fun _ _ h => h))
                    have hS7 := hS6.no hf7 (fun _ => id)
                    have HS6c := Lib.hid (hf7.cell cS6 id)
                    clear hea cS6 hS6
                    go_wp2_with fail
                    refine OnlyN.mk ⟨hf7, ?_⟩
                    clear hf7
                    have heb := r_expired sa sc S now w7 hS7 hSn
                    apply sig_m
                    exact rfl
                    go_wp2_with fail
                    refine heb.mono ?_
                    rintro en w8 ⟨⟨fa, fc, fs, rfl, hfs, hfi, _⟩, hf8⟩
                    obtain rfl := hei.unique hfi
                    have Hf8 := Lib.hid (Hf7.out.step hf8 (fun _ _ h => h))
                    have hst := same_texts ea fa ec fc es es w8 (hes.no hf8 (fun _ => id)) hfs
                    rw [sameT_self] at hst
                    clear heb hS7 hes hei hfs hfi
                    go_wp2_with fail
                    refine OnlyN.mk ⟨hf8, ?_⟩
                    clear hf8
                    repeat (first | (apply sig_q; exact rfl; exact rfl; exact rfl; intro K hK; go_big_quiet_op; go_big_quiet_on) | (apply sig_skip; exact rfl; exact rfl; exact rfl; intro K hK; go_big_quiet_op; go_big_quiet_on))
                    apply sig_m
                    exact rfl
                    go_wp2_with fail
                    refine hst.mono ?_
                    rintro en w10 ⟨rfl, hf10⟩
                    have Hf10 := Lib.hid (Hf8.out.step hf10 (fun _ _ h => h))
                    clear hst
                    go_wp2_with fail
                    refine OnlyN.mk ⟨hf10, ?_⟩
                    clear hf10
                    repeat (first | (apply sig_q; exact rfl; exact rfl; exact rfl; intro K hK; go_big_quiet_op; go_big_quiet_on) | (apply sig_skip; exact rfl; exact rfl; exact rfl; intro K hK; go_big_quiet_op; go_big_quiet_on))
                    refine sig_end ?_
                    go_wp2_with fail
                    go_roundw
                    case rel => exact ⟨q + 1, by omega, by go_num, Hf10.out⟩
                    case measure => simp [intOf]; omega
                  · obtain rfl : q = 3 := by omega
                    have hk := known32 wr (hE13.no hfq)
                    have hfz := hf13w.step hfq (fun _ _ h => h)
                    rw [show ((3 : Nat) : Int) = 3 from rfl]
                    clear hU13 hT13 hD13 hE13 hf13w hfq
                    go_wp2_with fail
                    refine hk.mono ?_
                    rintro en w7 ⟨rfl, hf7⟩
                    have hfin := hfz.step hf7 (fun _ _ h => h)
                    clear hk hf7 hfz
                    go_wp2_with fail
                    go_ret
                    exact ⟨rfl, hfin⟩
          · have c5' : 1073741824 < wait := by omega
            clear hD hl
            go_wp2_with fail
            refine hkn.mono ?_
            rintro en wf ⟨rfl, hff⟩
            clear hkn
            go_wp2_with fail
            go_ret
            exact ⟨rfl, hff⟩
        · have c4' : wait < 0 := by omega
          clear hD hl
          go_wp2_with fail
          refine hkn.mono ?_
          rintro en wf ⟨rfl, hff⟩
          clear hkn
          go_wp2_with fail
          go_ret
          exact ⟨rfl, hff⟩
      · have c3' : 1073741824 < now := by omega
        clear hD hl
        go_wp2_with fail
        refine hkn.mono ?_
        rintro en wf ⟨rfl, hff⟩
        clear hkn
        go_wp2_with fail
        go_ret
        exact ⟨rfl, hff⟩
    · have c2' : now < 0 := by omega
      clear hD hl
      go_wp2_with fail
      refine hkn.mono ?_
      rintro en wf ⟨rfl, hff⟩
      clear hkn
      go_wp2_with fail
      go_ret
      exact ⟨rfl, hff⟩
  · have c1' : (40 : Int) < D.length := by omega
    clear hD hl
    go_wp2_with fail
    refine hkn.mono ?_
    rintro en wf ⟨rfl, hff⟩
    clear hkn
    go_wp2_with fail
    go_ret
    exact ⟨rfl, hff⟩
end Go.Proofs.YtbblkknndaoefaaGreatDoor
namespace Go.Proofs.YtbblkknndaoefaaGreatDoor.arrayWatches
open Go.ChangeShapes Go.WideShapes Go.ChangeAt Go.RowKit
open Go.ChangeMaps (open_string shut_string)
set_option linter.unusedVariables false

theorem own : ownKnob Tryz.prog.godebug = none := by kernel_rfl
theorem laidOut : laidOutB Tryz.prog = true := by kernel_rfl

set_option maxRecDepth 100000 in
theorem lifted (os : Os) (started : os.Started) (H : Type) (enc : TypeId × Value → H) :
    ReturnsInHanded {} Tryz.checked os 11 .any (fun w args => (Rows.arrayWatchesSpec.pre enc Tryz.prog Tryz.f11 Rows.arrayWatchesRow.domain false w args ∧ laidMetH Tryz.prog Rows.arrayWatchesRow.laid w) ∧ sizedMet enc Tryz.prog Tryz.f11 (OpenSpec.ofChange Rows.arrayWatchesSpec) false w args)
      (Rows.arrayWatchesSpec.post enc Tryz.prog Tryz.f11 false true false false) := by
  refine returns_laid_sized (C := Tryz.checked) (X := fun w _ => laidMetH Tryz.prog Rows.arrayWatchesRow.laid w) (fun _ _ _ hh h => h.of_heap hh) own started (by kernel_rfl) Tryz.func11
    (ChangeSpec.witness_shaped (enc := enc) (C := Tryz.checked) (os := os) (X := fun w _ => laidMetH Tryz.prog Rows.arrayWatchesRow.laid w) false (World.laidAll Tryz.prog os Rows.arrayWatchesRow.laid) #[.slice none 0 0, .slice none 0 0, .int .i64 0, .int .i64 0] 8 (World.laidAll_os _ _ _)
      (World.shaped_of_ZipB (by kernel_rfl) (by kernel_rfl)) (by kernel_rfl) (by kernel_rfl) (by kernel_rfl)
      (by rw [MakeChecks.laidMetH_plain _ _ _ (by kernel_rfl)]; exact laidMet_laidAll _ (by kernel_rfl) (by kernel_rfl))) ?_
  intro W base args ds gs before hval0 hW hz hL hsh
  have hval : ∀ (j : Nat) t v, Tryz.f11.params[j]? = some t → args[j]? = some v → Value.okWide Tryz.prog W .any base t v := hval0
  have hW' := hW
  obtain ⟨p, q, hA0, hV, rfl, hfz, hnd⟩ := hW
  have hA : DataW.TrodAll enc Tryz.prog W 0 (fun _ => true) true Tryz.f11.params.toList args.toList ds p := hA0
  have hsz : ∀ (j : Nat) (t : TypeId) (d : DataW H), (Tryz.f11.params.toList ++ (OpenSpec.ofChange Rows.arrayWatchesSpec).bare.plain.varTypes Tryz.prog)[j]? = some t → (ds ++ gs)[j]? = some d → Wt t d := fun j t d h1 h2 => wt_each hz h1 h2
  rw [Tryz.params11] at hA hval hsz
  obtain ⟨v0, vs0, d0, ds0, p0, q0, hargs, rfl, rfl, h0, r0⟩ := trodAll_cons hA
  obtain ⟨v1, vs1, d1, ds1, p1, q1, rfl, rfl, rfl, h1, r1⟩ := trodAll_cons r0
  obtain ⟨v2, vs2, d2, ds2, p2, q2, rfl, rfl, rfl, h2, r2⟩ := trodAll_cons r1
  obtain ⟨v3, vs3, d3, ds3, p3, q3, rfl, rfl, rfl, h3, r3⟩ := trodAll_cons r2
  obtain ⟨rfl, rfl, rfl⟩ := trodAll_nil r3
  obtain rfl : args = #[v0, v1, v2, v3] := by cases args; simp_all
  obtain ⟨rfl, rfl⟩ := trodVars_none hV
  have z0 : Wt 22 d0 := hsz 0 _ _ rfl rfl
  have z1 : Wt 78 d1 := hsz 1 _ _ rfl rfl
  have z2 : Wt 3 d2 := hsz 2 _ _ rfl rfl
  have z3 : Wt 3 d3 := hsz 3 _ _ rfl rfl
  clear hsz hz
  obtain ⟨a0, len0, cap0, rfl⟩ := okWide_slice Tryz.underlying22 (hval 0 22 v0 rfl rfl)
  have k0 := h0
  have lt0 : ∀ x ∈ p0, x.block < W.heap.size := by obtain ⟨m, hm⟩ := k0; exact DataW.trod_lt m _ _ _ hm
  obtain ⟨l0, rfl, hl0⟩ : ∃ l : List Int, l.length = len0 ∧ Ints W a0 cap0 l := by
    obtain ⟨fuel, hf⟩ := h0
    rcases open_ints Tryz.underlying22 Tryz.underlying3 (by kernel_rfl) hf with ⟨hcs, _⟩ | ⟨x, l, c, zs, hcs, _, hl, hm, hz, _, hcell, hwz⟩
    · simp [Value.cells] at hcs
      obtain ⟨rfl, rfl, rfl⟩ := hcs
      exact Ints.of_isRow (zs := []) (.inl ⟨rfl, rfl, rfl, rfl⟩)
    · simp [Value.cells] at hcs
      obtain ⟨rfl, rfl, rfl⟩ := hcs
      exact Ints.of_isRow (zs := zs) (.inr ⟨_, rfl, hl, hm, by simpa using hz, hcell, hwz⟩)
  obtain ⟨a1, len1, cap1, rfl⟩ := okWide_slice Tryz.underlying78 (hval 1 78 v1 rfl rfl)
  have k1 := h1
  have lt1 : ∀ x ∈ p1, x.block < W.heap.size := by obtain ⟨m, hm⟩ := k1; exact DataW.trod_lt m _ _ _ hm
  obtain ⟨l1, rfl, hl1, b1⟩ : ∃ l : List Dl, l.length = len1 ∧ Dls W a1 cap1 l ∧ (DlsIn l) := by
    obtain ⟨fuel, hf⟩ := h1
    obtain ⟨a, c, l, hcs, h1, h2⟩ := open_dls_raw hf z1
    simp [Value.cells] at hcs
    obtain ⟨rfl, rfl, rfl⟩ := hcs
    exact ⟨l, rfl, h1, h2⟩
  obtain ⟨a2, rfl, rfl, rfl, w2⟩ := open_int Tryz.underlying3 (hval 2 3 v2 rfl rfl) h2
  obtain ⟨a3, rfl, rfl, rfl, w3⟩ := open_int Tryz.underlying3 (hval 3 3 v3 rfl rfl) h3
  rw [MakeChecks.laidMetH_plain _ _ _ (by kernel_rfl)] at hL
  have hE := env_of hsh hL
  clear hA0 hval0
  refine (awatches_walk a0 cap0 l0 a1 cap1 l1 a2 a3 W hl0 hl1 b1 w2 w3 hE).mono fun e W' ⟨he, hfr⟩ => ?_
  have bel : Below W.heap.size W W' := hfr.below (Nat.le_refl _) (fun b hb e => e)
  subst he
  exact ⟨_, rfl, _, _, _, [], _, [], hW', trodAll_mk1 (shut_bool Tryz.underlying4 _), (trodAll_cons_mk (Below.trod laidOut (by kernel_rfl) (of_decide_eq_true (by kernel_rfl)) k0 bel lt0) (trodAll_cons_mk (Below.trod laidOut (by kernel_rfl) (of_decide_eq_true (by kernel_rfl)) k1 bel lt1) (trodAll_cons_mk (shut_int Tryz.underlying3 w2) (trodAll_cons_mk (shut_int Tryz.underlying3 w3) trodAll_mk0)))), rfl, bel.frame _, fun h => by cases h⟩

theorem isNamed : Tryz.pinned.checked.prog.funcNamed Rows.arrayWatchesRow.func = some 11 := by kernel_rfl
theorem and2 {a b : Bool} (h : a = true) (k : b = true) : (a && b) = true := by rw [h, k]; rfl
theorem c0 : (Rows.arrayWatchesRow.wf (OpenSpec.ofChange Rows.arrayWatchesSpec)) = true := by kernel_rfl
theorem c1 : (laidOutB Tryz.pinned.checked.prog) = true := by kernel_rfl
theorem c2 : (mapsRowed Tryz.pinned.checked.prog) = true := by kernel_rfl
theorem c3 : (Tryz.f11.params.all (Tryz.pinned.checked.prog.readableRec ·)) = true := by kernel_rfl
theorem c4 : (namedTie Tryz.pinned.checked.prog Rows.arrayWatchesRow.named Rows.arrayWatchesSpec.vars) = true := by kernel_rfl
theorem c5 : ((Rows.arrayWatchesRow.stops == [])) = true := by kernel_rfl
theorem c6 : ((Tryz.pinned.checked.prog.stops == [])) = true := by kernel_rfl
theorem c7 : ((Rows.arrayWatchesRow.knobs == [])) = true := by kernel_rfl
theorem c8 : ((Tryz.pinned.checked.prog.stopKnobs == [])) = true := by kernel_rfl
theorem c9 : ((Rows.arrayWatchesRow.inPlace == Tryz.pinned.checked.prog.inPlace 11)) = true := by kernel_rfl
theorem c10 : ((Rows.arrayWatchesRow.unfollowed == Tryz.pinned.checked.prog.unfollowed 11)) = true := by kernel_rfl
theorem c11 : ((Rows.arrayWatchesRow.recurses == Tryz.pinned.checked.prog.recurses 11)) = true := by kernel_rfl
theorem c12 : ((Rows.arrayWatchesRow.named == Tryz.pinned.checked.prog.varsNamed 11)) = true := by kernel_rfl
theorem c13 : ((Rows.arrayWatchesRow.maps == (Tryz.f11.params.toList ++ Rows.arrayWatchesSpec.plain.varTypes Tryz.pinned.checked.prog).any (Tryz.pinned.checked.prog.mapsRec ·))) = true := by kernel_rfl
theorem c14 : ((Rows.arrayWatchesRow.ifaces == (Tryz.f11.params.toList ++ Rows.arrayWatchesSpec.plain.varTypes Tryz.pinned.checked.prog).any (Tryz.pinned.checked.prog.ifacesRec ·))) = true := by kernel_rfl
theorem c15 : ((Rows.arrayWatchesRow.mapsOut == Tryz.pinned.checked.prog.mapsAmong Tryz.f11.resultTypes.toList)) = true := by kernel_rfl
theorem c16 : ((Rows.arrayWatchesRow.loops == (Tryz.f11.params.toList ++ Rows.arrayWatchesSpec.plain.varTypes Tryz.pinned.checked.prog).any (Tryz.pinned.checked.prog.loopsFrom ·))) = true := by kernel_rfl
theorem c17 : ((Rows.arrayWatchesRow.wideKeys == (Tryz.f11.params.toList ++ Rows.arrayWatchesSpec.plain.varTypes Tryz.pinned.checked.prog ++ Tryz.f11.resultTypes.toList).any (Tryz.pinned.checked.prog.wideKeysFrom ·))) = true := by kernel_rfl
theorem c18 : (Rows.arrayWatchesSpec.vars.all (Tryz.pinned.checked.prog.varReadable ·)) = true := by kernel_rfl
theorem c19 : (Tryz.f11.resultTypes.all (fun t => Tryz.pinned.checked.prog.readableRec t && decide (t < Tryz.pinned.checked.prog.types.size))) = true := by kernel_rfl
theorem c20 : ((Rows.arrayWatchesRow.ifacesOut == Tryz.f11.resultTypes.toList.any (Tryz.pinned.checked.prog.ifacesRec ·))) = true := by kernel_rfl
theorem c21 : ((Rows.arrayWatchesRow.loopsOut == Tryz.f11.resultTypes.toList.any (Tryz.pinned.checked.prog.loopsFrom ·))) = true := by kernel_rfl
theorem c22 : ((Rows.arrayWatchesRow.plainKeys == Tryz.pinned.checked.prog.plainKeys)) = true := by kernel_rfl
theorem c23 : (Rows.arrayWatchesRow.shortTexts.isNone) = true := by kernel_rfl
theorem c24 : (Tryz.pinned.checked.prog.stopsHeard) = true := by kernel_rfl
theorem c25 : (Tryz.pinned.checked.prog.mayEnter) = true := by kernel_rfl
theorem c26 : ((Rows.arrayWatchesRow.lifted == Tryz.pinned.checked.prog.liftsFinal)) = true := by kernel_rfl
theorem c27 : ((Tryz.pinned.checked.prog.make == some Rows.arrayWatchesRow.make)) = true := by kernel_rfl
theorem c28 : ((Rows.arrayWatchesRow.kinds == (if Rows.arrayWatchesRow.domain.isEmpty then [] else Tryz.f11.params.toList.map fun t => match Tryz.pinned.checked.prog.underlying t with | some (.int k) => some k | _ => none))) = true := by kernel_rfl
theorem c29 : ((Rows.arrayWatchesRow.pinned == Rows.arrayWatchesRow.pinnedBy)) = true := by kernel_rfl
theorem c30 : ((Rows.arrayWatchesRow.veiled == (Tryz.f11.params.toList ++ Rows.arrayWatchesSpec.plain.varTypes Tryz.pinned.checked.prog ++ Tryz.f11.resultTypes.toList).any (Tryz.pinned.checked.prog.veiledRec ·))) = true := by kernel_rfl
theorem c31 : (Rows.arrayWatchesRow.veiledFits Tryz.pinned.checked.prog Tryz.f11.params.toList (Tryz.f11.params.toList ++ Rows.arrayWatchesSpec.plain.varTypes Tryz.pinned.checked.prog ++ Tryz.f11.resultTypes.toList)) = true := by kernel_rfl
set_option maxRecDepth 100000 in
theorem closed : joinedFacts Tryz.pinned.checked.prog 11 Tryz.f11 Rows.arrayWatchesSpec Rows.arrayWatchesRow = true := by
  unfold joinedFacts
  exact (and2 (and2 (and2 (and2 (and2 (and2 (and2 (and2 (and2 (and2 (and2 (and2 (and2 (and2 (and2 (and2 (and2 (and2 (and2 (and2 (and2 (and2 (and2 (and2 (and2 (and2 (and2 (and2 (and2 (and2 (and2 c0 c1) c2) c3) c4) c5) c6) c7) c8) c9) c10) c11) c12) c13) c14) c15) c16) c17) c18) c19) c20) c21) c22) c23) c24) c25) c26) c27) c28) c29) c30) c31)
theorem inst : Tryz.f11.isInstance Tryz.pinned.checked.prog Rows.arrayWatchesRow.origin Rows.arrayWatchesRow.targs := of_decide_eq_true (by kernel_rfl)
theorem wrap : Tryz.f11.isWrapper Tryz.pinned.checked.prog Rows.arrayWatchesRow.wrapper Rows.arrayWatchesRow.mainSum := by
  unfold Func.isWrapper; first | (rw [if_pos (by decide +kernel)]; kernel_rfl) | (rw [if_neg (by decide +kernel)]; exact ⟨rfl, rfl⟩)
theorem over : Rows.arrayWatchesRow.holds Tryz.pinned (OpenSpec.ofChange Rows.arrayWatchesSpec) :=
  OpenClaim.holds_of_wide 11 Tryz.f11 rfl rfl rfl rfl rfl rfl rfl ⟨rfl, rfl, rfl, rfl, rfl⟩ rfl rfl rfl rfl rfl isNamed Tryz.func11 closed inst wrap
    (fun os started H enc _ => lifted os started H enc)

theorem t1 : Rows.arrayWatchesRow.wfByText (OpenSpec.ofChange Rows.arrayWatchesSpec) = true := by kernel_rfl
theorem t2 : Tryz.pinned.checked.prog.mainIs = some ((true, "7c35bbe876a6797357c7d4d4c7eda80dfa3d5b512daa5cf20d9229a0a48d5af4").1, (true, "7c35bbe876a6797357c7d4d4c7eda80dfa3d5b512daa5cf20d9229a0a48d5af4").2.toList) := by kernel_rfl
theorem t3 : true = Tryz.pinned.checked.prog.looks [] := by kernel_rfl
theorem t4 : false = Rows.arrayWatchesRow.goesBy Tryz.pinned.checked.prog := by kernel_rfl
theorem t5 : Tryz.prog.funcNamed "coldplug/coldpluglaw32.ArrayWatches" = some 11 := by kernel_rfl
theorem t6 : ([22, 78, 3, 3].all fun u => !Tryz.prog.wantsStandIn u) = true := by kernel_rfl
theorem proved : Rows.ArrayWatchesCardSaid :=
  Claim7.holds_tied_plain_at .later [] [.data, .data, .data, .data, .sentinel, .sentinel, .pinned, .pinned] true (true, "7c35bbe876a6797357c7d4d4c7eda80dfa3d5b512daa5cf20d9229a0a48d5af4") true over (fun _ h => by cases h) t1 (fun _ h => by cases h) arrayWatches_row_tie rfl ⟨rfl, rfl⟩ t2 rfl
    (fun f fn hf hfn => by
      obtain rfl : f = 11 := Option.some.inj (t5.symm.trans hf) |>.symm
      obtain rfl : fn = Tryz.f11 := (Option.some.inj (Tryz.func11.symm.trans hfn)).symm
      exact ⟨t3, fun j t ht => by
        rw [Tryz.params11] at ht
        have hm : t ∈ [22, 78, 3, 3] := by simpa using Array.mem_of_getElem? ht
        have hall : ([22, 78, 3, 3].all fun u => !Tryz.prog.wantsStandIn u) = true := t6
        exact (show Tryz.prog.wantsStandIn t = false by simpa using List.all_eq_true.1 hall t hm)⟩)
    t4
#print axioms proved
end Go.Proofs.YtbblkknndaoefaaGreatDoor.arrayWatches
