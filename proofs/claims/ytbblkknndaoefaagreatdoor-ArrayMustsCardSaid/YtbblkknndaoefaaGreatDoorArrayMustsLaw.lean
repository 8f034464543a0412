/- The law ArrayMusts returns true at every input and leaves its arguments as they were. Conditions: none beyond the given statement's own. -/
import Derived.Test.YtbblkknndaoefaaGreatDoorZA13
import Derived.Test.YtbblkknndaoefaaGreatDoorZA23
import Derived.Test.YtbblkknndaoefaaGreatDoorZA24
import Derived.Test.YtbblkknndaoefaaGreatDoorZA25
import Derived.Test.YtbblkknndaoefaaGreatDoorZA21
import Derived.Test.YtbblkknndaoefaaGreatDoorZA2
import Derived.Test.YtbblkknndaoefaaGreatDoorZA20
import Derived.Test.YtbblkknndaoefaaGreatDoorCards
import Derived.Test.YtbblkknndaoefaaGreatDoorTie
import Derived.WalkKit
import Derived.ProofKit
import Derived.OpenShut
import Derived.ShutString
import Derived.ChangeOld
import Derived.Below
import Derived.LaidMore
import Derived.Lay
import Derived.SevenTiedAt
import Derived.Shelf.Vars
import Derived.Stop.LaidErr
import Derived.MakeChecks
import Derived.SizedLaws
namespace Go.Proofs.YtbblkknndaoefaaGreatDoor
open Go.RowKit Go.Maps
set_option linter.unusedVariables false

theorem mb_small {L : List Mem} (h : ∀ m ∈ L, MbOk m) (hl : L.length ≤ 100) : MemSmall2 L := by
  refine ⟨by omega, ?_, ?_, ?_, ?_⟩ <;> intro m hm
  · have := (h m hm).p; omega
  · have h1 := (h m hm).i
    have h2 : ∀ x ∈ mbIds, x.size ≤ 1000000 := by decide
    exact h2 _ h1
  · have := (h m hm).n; omega
  · have := (h m hm).s; exact WalkArith.wf_i64 (by omega)
theorem app_small3 {L R : List Mem} {K : List ByteArray} (hL : MemSmall2 L) (hl : L.length ≤ 100) (hR : FewOk R K) (hin : ∀ m ∈ R, MemIn m) : MemSmall2 (L ++ R) := by
  have h2 := hR.n
  refine ⟨by rw [List.length_append]; omega, ?_, ?_, ?_, ?_⟩ <;> intro m hm <;> rcases List.mem_append.1 hm with h | h
  · exact hL.p m h
  · have := (hR.m m h).1; omega
  · exact hL.i m h
  · have := (hR.m m h).2.1; omega
  · exact hL.l m h
  · have := (hR.m m h).2.2; omega
  · exact hL.s m h
  · exact (hin m h).s
theorem small_of3 {L : List Mem} (h : MemSmall2 L) : MemSmall L := ⟨h.len, h.p, h.i, h.l⟩

set_option maxRecDepth 100000 in
set_option maxHeartbeats 8000000 in
theorem agroups_walk (la : Option Addr) (lc : Nat) (l : List Int) (ra : Option Addr) (rc : Nat) (R : List Mem) (w : World) (hl : Ints w la lc l) (hR : Mems w ra rc R) (hin : ∀ m ∈ R, MemIn m) (hE : Env w) :
    Calls Tryz.prog 13 #[.slice la l.length lc, .slice ra R.length rc] w fun e w' => e = .returned (.bool true) ∧ Fr No w w' := by
  obtain ⟨i0, hi0, hz0, hz1, hz2⟩ := info_parts infoM
  have hfew := few32 ra rc R w hR hin
  have hrm := hR.lenmax
  go_enter Tryz.func13, Tryz.ntmps13
  go_wp2_with fail
  refine hfew.mono ?_
  rintro e w1 ⟨⟨b, rfl, hb⟩, hf1⟩
  have hE1 := hE.no hf1
  clear hfew
  cases b with
  | false =>
    go_wp2_with fail
    refine (known32 w1 hE1).mono ?_
    rintro e wf ⟨rfl, hff⟩
    have hfin := hf1.step hff (fun _ _ h => h)
    go_wp2_with fail
    go_ret
    exact ⟨rfl, hfin⟩
  | true =>
    have hok := hb rfl
    have hl1 := hl.no hf1 (fun _ => id)
    have hR1 := hR.no hf1 (fun _ => id)
    have hx : Fr No w1 (w1.alloc (.cells #[.slice la l.length lc, .int .i64 0] 29)) := (Fr.refl _ _).alloc _
    have ht := Tape.make hl1 29
    have hE0 := hE1.no hx
    have hs0 : (w1.alloc (.cells #[.slice la l.length lc, .int .i64 0] 29)).heap.size = w1.heap.size + 1 := by simp
    have hsz := hE1.sz
    obtain ⟨W0, hW0⟩ : ∃ W0, W0 = w1.alloc (.cells #[.slice la l.length lc, .int .i64 0] 29) := ⟨_, rfl⟩
    rw [← hW0] at hx ht hE0 hs0
    have hs0' : w1.heap.size + 1 ≤ W0.heap.size := by omega
    have hpv := made_mbs w1.heap.size w1.heap.size 0 9 W0 ht (by omega) (by omega)
    have Hx := Lib.hid (hf1.step hx (fun _ _ h => h))
    have hxk := hx
    have hs1 := hf1.size
    have HW0 := Lib.hid hW0.symm
    have Hok := Lib.hid hok
    have Hin := Lib.hid hin
    have hrl := hok.n
    clear hs0 hx hE hE1 hf1 hl1 hl hR ht hok hb hin hW0
    go_wp2_with fail
    rw [HW0.out]
    clear HW0
    refine hpv.mono ?_
    rintro e w2 ⟨⟨L, a1, c1, k1, rfl, hL, hLf, hLm, hLo, hLl, hk1, ht1, hown⟩, hf2⟩
    have hE2 := hE0.fr hf2 (fun b hb h => by unfold Is at h; omega)
    have hfx2 : Fr (From w1.heap.size) w1 w2 := (hxk.mono (fun _ _ h => h.elim)).step hf2 (fun b _ h => by unfold Is at h; unfold From; omega)
    have hR2 := hR1.keep hfx2 (fun b hb h => by unfold From at h; omega)
    have hfw2 : Fr No w w2 := Hx.out.trans hf2 (fun _ _ h => h) (fun b hb h => by unfold Is at h; omega)
    have hup := hR2.upto R.length (Nat.le_refl _)
    rw [List.take_length] at hup
    have hs2 := hf2.size
    clear hpv hL hLf hk1 ht1 hf2 hE0 hxk
    have Hown := Lib.hid hown
    go_wp2_with (at_builtin; refine wpList_append_src rfl _ _ 23 rfl W0.heap.size 58 i0 (.agg #[.string ByteArray.empty, .string ByteArray.empty, .int .i64 0, .int .i64 0, .int .i64 0, .int .i64 0, .slice none 0 0]) 7 88 Tryz.underlying23 hi0 hz0 hz1 hz2 rfl (by decide) _ _ _ rfl hown _ R.length _ (mflat R) rfl hup.2 (by rw [mflat_len]) hup.1 (mflat_one _) (by unfold maxLen; omega) (by omega) (by first | omega | (simp; done) | (simp; omega)) ?_; intro v3 w3 own3 gr3; obtain ⟨av, cv, rfl⟩ := ownsRow_slice own3)
    have hg3 : Fr (From W0.heap.size) w2 w3 := (Fr.of_grown gr3).mono (fun b _ h => ownsRow_blk Hown.out h)
    have hR3 := hR1.keep (hfx2.step hg3 (fun b _ h => by unfold From at *; omega)) (fun b hb h => by unfold From at h; omega)
    have hL3 : MFresh w3 W0.heap.size L := MFresh.own hLm Hown.out (Fr.of_grown gr3)
    obtain ⟨Q, hQ⟩ : ∃ Q, Q = L ++ R := ⟨_, rfl⟩
    have hQl : L.length + R.length = Q.length := by rw [hQ, List.length_append]
    have hsmQ : MemSmall2 Q := by rw [hQ]; exact app_small3 (mb_small hLo (by omega)) (by omega) Hok.out Hin.out
    have hSQ : ∀ m ∈ Q, Strs w3 m.a m.c m.l := fun m hm => by
      rw [hQ] at hm
      rcases List.mem_append.1 hm with h | h
      · exact (hL3 m h).1
      · exact hR3.ok m h
    have hownQ : w3.ownsRow W0.heap.size 58 7 (.slice av Q.length cv) Q.length (mflat Q) := by rw [← hQl, hQ, mflat_append]; exact own3
    obtain ⟨a6, c6, e6, hM3, _⟩ := Mems.of_own hownQ hSQ
    cases e6
    have hfw3 : Fr No w w3 := hfw2.trans hg3 (fun _ _ h => h) (fun b hb h => by unfold From at h; omega)
    have hE3 := hE2.fr hg3 (fun b hb h => by unfold From at h; omega)
    obtain ⟨m0, hm3⟩ := hE3.len
    have hs3 := hg3.size
    clear hg3 hR3 hL3 hSQ hownQ own3 gr3 hup hfx2 hR2 hR1 hfw2 hE2 hLm hown Hown hQ
    rw [hQl]
    clear hQl
    have hvg := a_group av cv Q m0 w3 hM3 hsmQ hm3 (by omega)
    go_wp2_with fail
    refine hvg.mono ?_
    rintro e w4 ⟨⟨oa, oc, O, ids, rfl, hO, _, _, hids, hOe, _, _⟩, hf4⟩
    have HOe := Lib.hid hOe
    have Hids := Lib.hid hids
    have hM4 := hM3.no hf4 (fun _ => id)
    have hm4 := hf4.cell hm3 id
    have hE4 := hE3.no hf4
    have hs4 := hf4.size
    have hfw4 := hfw3.step hf4 (fun _ _ h => h)
    clear hvg hf4 hOe hids hM3 hm3 hE3 hfw3
    have hrg := ref_group32 av cv Q m0 w4 hM4 (small_of3 hsmQ) hm4 (by omega)
    go_wp2_with fail
    refine hrg.mono ?_
    rintro e w5 ⟨⟨pa, pc, P, rfl, hP, hPe⟩, hf5⟩
    have hOP : O.map ArrM.toArr = P.map ArrM.toArr := by rw [HOe.out, hPe, Hids.out.unique (ids34 Q)]
    have hO5 := hO.no hf5 (fun _ => id)
    have hE5 := hE4.no hf5
    have hs5 := hf5.size
    have hfw5 := hfw4.step hf5 (fun _ _ h => h)
    have hsa := same_arrays_eq oa pa oc pc O P w5 hO5 hP hOP
    have HPe := Lib.hid hPe
    clear hrg hf5 hPe hM4 hm4 hE4 hfw4 hO hOP hO5
    go_wp2_with fail
    refine hsa.mono ?_
    rintro e w6 ⟨rfl, hf6⟩
    have hP6 := hP.no hf6 (fun _ => id)
    have hE6 := hE5.no hf6
    have hfw6 := hfw5.step hf6 (fun _ _ h => h)
    have hpm := hP6.lenmax
    clear hsa hf6 hP hP6 hE5 hfw5 HOe Hids hpm
    have hk := known32 w6 hE6
    go_wp2_with fail
    refine hk.mono ?_
    rintro e w7 ⟨rfl, hf7⟩
    have hfin := hfw6.step hf7 (fun _ _ h => h)
    clear hk hf7 hfw6 hE6
    go_wp2_with fail
    go_ret
    exact ⟨rfl, hfin⟩
end Go.Proofs.YtbblkknndaoefaaGreatDoor
namespace Go.Proofs.YtbblkknndaoefaaGreatDoor
open Go.RowKit Go.Maps
set_option linter.unusedVariables false

theorem cells_at {W : World} {b : Nat} {xs : Array Value} {T : TypeId} {fz : Nat × Nat} (q : W.heap[b]? = some (.cells xs T fz)) : ∀ j u, xs.toList[j]? = some u → W.cell? ((⟨b, 0, none⟩ : Addr).add j) = some u := by
  intro j u hj
  rw [Addr.add_lit, cell_of_block q]
  simpa using hj
theorem arrs_id {good : Mem → Bool} {L : List Mem} {ids : List ByteArray} {O : List ArrM} (h : MemSmall2 L) (hids : IsIds2 (best2 good L) ids) (hO : O.map ArrM.toArr = ids.map (buildA (best2 good L))) : ∀ m ∈ O, m.i.size ≤ 1000000 := fun m hm => by
  have h1 : m.toArr ∈ O.map ArrM.toArr := List.mem_map_of_mem hm
  rw [hO, List.mem_map] at h1
  obtain ⟨x, hx, he⟩ := h1
  obtain ⟨s, hs⟩ := (hids.mem x).1 hx
  obtain ⟨o, ho⟩ := Option.isSome_iff_exists.1 hs
  obtain ⟨h2, _, h3⟩ := best2_mem L _ o ho
  simp only [Prod.mk.injEq] at h3
  have h4 : m.i = o.i := by rw [h3.1, ← he]; rfl
  rw [h4]
  exact h.i o h2

end Go.Proofs.YtbblkknndaoefaaGreatDoor
namespace Go.Proofs.YtbblkknndaoefaaGreatDoor
open Go.RowKit Go.Maps
set_option linter.unusedVariables false

set_option maxRecDepth 100000 in
set_option maxHeartbeats 8000000 in
theorem amusts_walk (za : Option Addr) (zc : Nat) (zl : List Int) (A : ArrM) (ex xp : Bool) (rd : Int) (w : World) (hZ : Ints w za zc zl) (hS : Strs w A.pa A.pc A.ps ∧ Strs w A.la A.lc A.l) (hA : ArrIn A) (hrd : (Lit.int .i64 rd).wf = true) (hE : Env w) :
    Calls Tryz.prog 14 #[.slice za zl.length zc, .agg A.vals, .bool ex, .bool xp, .int .i64 rd] w fun e w' => e = .returned (.bool true) ∧ Fr No w w' := by
  obtain ⟨i0, hi0, hz0, hz1, hz2⟩ := info_parts infoAr
  obtain ⟨⟨ai, ps, t, e, n, ins⟩, pa, pc, la, lc⟩ := A
  obtain ⟨hz1', ⟨hz2', _⟩, _, _, _, ⟨hz3', _⟩⟩ := hA
  simp only at hS hz1' hz2' hz3'
  have hy1 : ai.size ≤ 140737488351232 := hz1'
  have hy2 : ps.length * 16 ≤ 140737488351232 := hz2'
  have hy3 : ins.length * 16 ≤ 140737488351232 := hz3'
  clear hz1' hz2' hz3'
  unfold ArrM.vals
  simp only
  have hx : Fr No w (w.alloc (.cells #[.string ai, .slice pa ps.length pc, .int .i64 t, .int .i64 e, .int .i64 n, .slice la ins.length lc] 42)) := (Fr.refl _ _).alloc _
  have q4 := block_alloc w (.cells #[.string ai, .slice pa ps.length pc, .int .i64 t, .int .i64 e, .int .i64 n, .slice la ins.length lc] 42)
  obtain ⟨W0, hW0⟩ : ∃ W0, W0 = w.alloc (.cells #[.string ai, .slice pa ps.length pc, .int .i64 t, .int .i64 e, .int .i64 n, .slice la ins.length lc] 42) := ⟨_, rfl⟩
  rw [← hW0] at hx q4
  have hE0 := hE.no hx
  have y0 : W0.cell? ⟨w.heap.size, 0, none⟩ = some (.string ai) := cell_of_block q4 0
  have y5 : W0.cell? ⟨w.heap.size, 5, none⟩ = some (.slice la ins.length lc) := cell_of_block q4 5
  have hZ0 := hZ.no hx (fun _ => id)
  have hSA0 : Strs W0 pa pc ps ∧ Strs W0 la lc ins := ⟨hS.1.no hx (fun _ => id), hS.2.no hx (fun _ => id)⟩
  have Hx := Lib.hid hx
  have Hq4 := Lib.hid q4
  have hkn := known32 W0 hE0
  have hlt0 := lt_of_block q4
  clear hx q4 hE hZ hS
  go_enter Tryz.func14, Tryz.ntmps14
  go_upto_region 1 with (fail)
  rw [← hW0]
  clear hW0
  by_cases h1 : ins.length ≤ 50
  · have h1' : ¬ (50 : Int) < ins.length := by omega
    by_cases h2 : ai.size ≤ 200
    · have h2' : ¬ (200 : Int) < ai.size := by omega
      have hai : ai.size ≤ 1000000 := by omega
      clear hkn
      go_upto_region 3 with (fail)
      refine region_tree (From W0.heap.size) (.q 0 (.q 1 (.q 5 (.m2 2 (.m2 3 (.m2 4 (.m1 6 (.m1 7 (.q 8 .fin))) 6 (.m1 4 (.m1 7 (.q 8 .fin)))) 6 (.m1 3 (.m1 4 (.m1 7 (.q 8 .fin))))) 6 (.m1 2 (.m1 3 (.m1 4 (.m1 7 (.q 8 .fin))))))))) _ (by kernel_rfl) (by kernel_rfl) (fun w0 hf0 => ?_) (fun _ _ h => h)
      have q5 := hf0.heap Hq4.out id
      have hEw := hE0.no hf0
      have hZ := hZ0.no hf0 (fun _ => id)
      have hSA : Hid (Strs w0 pa pc ps ∧ Strs w0 la lc ins) := ⟨hSA0.1.no hf0 (fun _ => id), hSA0.2.no hf0 (fun _ => id)⟩
      have Hw0 := Lib.hid (Hx.out.step hf0 (fun _ _ h => h))
      have hs0 := hf0.size
      have hl5 := lt_of_block q5
      clear hf0 hE0 hZ0 hSA0 y0 y5
      have g0 : ∀ g : Gr (From W0.heap.size) w0, g.W.cell? ⟨w.heap.size, 0, none⟩ = some (.string ai) := fun g => g.fr.cell (cell_of_block q5 0) (by intro h; unfold From at h; simp only at h; omega)
      have g1 : ∀ g : Gr (From W0.heap.size) w0, g.W.cell? ⟨w.heap.size, 1, none⟩ = some (.slice pa ps.length pc) := fun g => g.fr.cell (cell_of_block q5 1) (by intro h; unfold From at h; simp only at h; omega)
      have g2 : ∀ g : Gr (From W0.heap.size) w0, g.W.cell? ⟨w.heap.size, 2, none⟩ = some (.int .i64 t) := fun g => g.fr.cell (cell_of_block q5 2) (by intro h; unfold From at h; simp only at h; omega)
      have g3 : ∀ g : Gr (From W0.heap.size) w0, g.W.cell? ⟨w.heap.size, 3, none⟩ = some (.int .i64 e) := fun g => g.fr.cell (cell_of_block q5 3) (by intro h; unfold From at h; simp only at h; omega)
      have g4 : ∀ g : Gr (From W0.heap.size) w0, g.W.cell? ⟨w.heap.size, 4, none⟩ = some (.int .i64 n) := fun g => g.fr.cell (cell_of_block q5 4) (by intro h; unfold From at h; simp only at h; omega)
      have g5 : ∀ g : Gr (From W0.heap.size) w0, g.W.cell? ⟨w.heap.size, 5, none⟩ = some (.slice la ins.length lc) := fun g => g.fr.cell (cell_of_block q5 5) (by intro h; unfold From at h; simp only at h; omega)
      have HF : Fr No w0 w0 := Fr.refl _ _
      have HE := Lib.hid hEw
      have hsE := hEw.sz
      clear q5 hEw
      repeat (first | (apply tree_q; exact rfl; exact rfl; exact rfl; intro K hK; go_big_quiet_op; go_big_quiet_on) | (apply tree_skip; exact rfl; exact rfl; exact rfl; intro K hK; go_big_quiet_op; go_big_quiet_on))
      clear g0 g1 g2 g3 g4 g5
      refine tree_m2 rfl rfl ?_ ?_
      · go_wp2_with fail
        have hxx : Fr No w0 (w0.alloc (.cells #[.slice za zl.length zc, .int .i64 0] 29)) := (Fr.refl _ _).alloc _
        have ht := Tape.make (hZ.no HF (fun _ => id)) 29
        refine OnlyN.mk ⟨(Fr.refl _ _).alloc _, ?_⟩
        obtain ⟨X1, hY⟩ : ∃ Y, Y = w0.alloc (.cells #[.slice za zl.length zc, .int .i64 0] 29) := ⟨_, rfl⟩
        rw [← hY] at hxx ht ⊢
        have htb : w0.heap.size ≤ w0.heap.size := HF.size
        have HF : Fr No w0 X1 := HF.step hxx (fun _ _ h => h)
        clear hxx hY
        repeat (first | (apply tree_q; exact rfl; exact rfl; exact rfl; intro K hK; go_big_quiet_op; go_big_quiet_on) | (apply tree_skip; exact rfl; exact rfl; exact rfl; intro K hK; go_big_quiet_op; go_big_quiet_on))
        refine tree_m2 rfl rfl ?_ ?_
        · have hms := made_mbs (w0.heap.size) (w0.heap.size) 0 7 X1 ht (by omega) (by omega)
          have htl := ht.lt
          go_wp2_with fail
          refine hms.mono ?_
          rintro en X2 ⟨⟨L, a1, c1, k1, rfl, hL, _, _, hLo, hLl, _, _, _⟩, hxx⟩
          clear hms ht
          go_wp2_with fail
          refine OnlyN.mk ⟨hxx.mono (fun b _ h => by unfold Is at h; unfold From; omega), ?_⟩
          have HF : Fr No w0 X2 := HF.trans hxx (fun _ _ h => h) (fun b hb h => by unfold Is at h; omega)
          clear hxx
          repeat (first | (apply tree_q; exact rfl; exact rfl; exact rfl; intro K hK; go_big_quiet_op; go_big_quiet_on) | (apply tree_skip; exact rfl; exact rfl; exact rfl; intro K hK; go_big_quiet_op; go_big_quiet_on))
          refine tree_m2 rfl rfl ?_ ?_
          · have hEx := HE.out.fr HF (fun _ _ => id)
            obtain ⟨m0, hm0⟩ := hEx.len
            have hgb : w0.heap.size ≤ X2.heap.size := HF.size
            have hzz := hEx.sz
            have hgr := a_group a1 c1 L m0 X2 hL (mb_small hLo (by omega)) hm0 (by omega)
            clear hEx hm0
            go_wp2_with fail
            refine hgr.mono ?_
            rintro en X3 ⟨⟨oa, oc, O, ids, rfl, _, _, hOfr, hids, hOe, hOl, hOown⟩, hxx⟩
            have hOi : ∀ m ∈ O, m.i.size ≤ 1000000 := arrs_id (mb_small hLo (by omega)) hids hOe
            have hOn : O.length ≤ 1000 := by have h1 := congrArg List.length hOe; simp only [List.length_map] at h1; omega
            clear hgr hL hids hOe hOl
            go_wp2_with fail
            refine OnlyN.mk ⟨hxx.mono (fun _ _ h => h.elim), ?_⟩
            have hgs := hxx.size
            have HF : Fr No w0 X3 := HF.step hxx (fun _ _ h => h)
            clear hxx
            repeat (first | (apply tree_q; exact rfl; exact rfl; exact rfl; intro K hK; go_big_quiet_op; go_big_quiet_on) | (apply tree_skip; exact rfl; exact rfl; exact rfl; intro K hK; go_big_quiet_op; go_big_quiet_on))
            refine tree_m1 rfl ?_
            go_wp2_with fail
            have hxx : Fr No X3 (X3.alloc (.cells #[.string ai, .slice pa ps.length pc, .int .i64 t, .int .i64 e, .int .i64 n, .slice la ins.length lc] 42)) := (Fr.refl _ _).alloc _
            have q6 := block_alloc X3 (.cells #[.string ai, .slice pa ps.length pc, .int .i64 t, .int .i64 e, .int .i64 n, .slice la ins.length lc] 42)
            refine OnlyN.mk ⟨(Fr.refl _ _).alloc _, ?_⟩
            obtain ⟨X4, hY⟩ : ∃ Y, Y = X3.alloc (.cells #[.string ai, .slice pa ps.length pc, .int .i64 t, .int .i64 e, .int .i64 n, .slice la ins.length lc] 42) := ⟨_, rfl⟩
            rw [← hY] at hxx q6 ⊢
            have hOown := ownsRow_at hOown hxx (fun _ _ h => h)
            have hOfr := hOfr.fr hxx (fun _ _ _ h => h)
            have HF : Fr No w0 X4 := HF.step hxx (fun _ _ h => h)
            clear hxx hY
            repeat (first | (apply tree_q; exact rfl; exact rfl; exact rfl; intro K hK; go_big_quiet_op; go_big_quiet_on) | (apply tree_skip; exact rfl; exact rfl; exact rfl; intro K hK; go_big_quiet_op; go_big_quiet_on))
            refine tree_m1 rfl ?_
            have hsX : X2.heap.size ≤ X4.heap.size := by have := HF.size; first | omega | (have h6 := lt_of_block q6; omega)
            have Hown := Lib.hid hOown
            go_wp2_with (at_builtin; refine wpList_append_own _ rfl _ _ 61 rfl (X2.heap.size) 42 i0 (.agg #[.string ByteArray.empty, .slice none 0 0, .int .i64 0, .int .i64 0, .int .i64 0, .slice none 0 0]) 6 88 Tryz.underlying61 hi0 hz0 hz1 hz2 rfl (by decide) _ _ _ rfl hOown ⟨X3.heap.size, 0, none⟩ 1 1 (ArrM.vals (⟨⟨ai, ps, t, e, n, ins⟩, pa, pc, la, lc⟩ : ArrM)).toList rfl rfl (cells_at q6) (arvals_one _) (by unfold maxLen; omega) (by omega) (by first | omega | (simp; done) | (simp; omega)) ?_; intro v' X9 hown9 hgrow9 _; obtain ⟨av', cv', rfl⟩ := ownsRow_slice hown9)
            have hgf : Fr (fun b => (Value.slice oa O.length oc).ownBlock = some b) X4 X9 := Fr.of_grown hgrow9
            refine OnlyN.mk ⟨hgf.mono (fun b _ h => by have := ownsRow_blk Hown.out h; unfold From at *; omega), ?_⟩
            obtain ⟨Q, hQ⟩ : ∃ Q, Q = O ++ [(⟨⟨ai, ps, t, e, n, ins⟩, pa, pc, la, lc⟩ : ArrM)] := ⟨_, rfl⟩
            have hQl : O.length + 1 = Q.length := by rw [hQ]; simp
            have HF : Fr No w0 X9 := HF.trans hgf (fun _ _ h => h) (fun b hb h => by have := ownsRow_blk Hown.out h; unfold From at this; omega)
            have HQ : ∀ m ∈ Q, (Strs X9 m.pa m.pc m.ps ∧ Strs X9 m.la m.lc m.l) ∧ m.i.size ≤ 1000000 := fun m hm => by
              rw [hQ] at hm
              rcases List.mem_append.1 hm with h | h
              · exact ⟨(hOfr.own Hown.out hgf m h).1, hOi m h⟩
              · obtain rfl := List.mem_singleton.1 h
                exact ⟨⟨hSA.out.1.no HF (fun _ => id), hSA.out.2.no HF (fun _ => id)⟩, hai⟩
            have hownQ : X9.ownsRow (X2.heap.size) 42 6 (.slice av' Q.length cv') Q.length (arflat Q) := by rw [← hQl, hQ, arflat_snoc]; exact hown9
            rw [hQl]
            clear hown9 hgrow9 hgf hOown hOfr Hown q6 hQ hQl hOi hOn
            repeat (first | (apply tree_q; exact rfl; exact rfl; exact rfl; intro K hK; go_big_quiet_op; go_big_quiet_on) | (apply tree_skip; exact rfl; exact rfl; exact rfl; intro K hK; go_big_quiet_op; go_big_quiet_on))
            refine tree_end ?_
            obtain ⟨a6, c6, e6, hAr, _⟩ := Arrs.of_own hownQ (fun m hm => (HQ m hm).1)
            cases e6
            have HQ2 := Lib.hid (fun m hm => (HQ m hm).2)
            have Hfz := Lib.hid HF
            have HEz := HE.out.fr HF (fun _ _ => id)
            have hqm := hAr.lenmax
            clear HQ HF hownQ
            go_wp2_with fail
            go_loopw [12] (fun i wr => ∃ j : Nat, j ≤ Q.length ∧ i = .int .i64 (j : Int) ∧ Fr No X9 wr) (fun i _ => Q.length - (intOf i).toNat)
            case atStart => exact ⟨0, by omega, rfl, Fr.refl _ _⟩
            case round =>
              obtain ⟨j, hj, rfl, hf⟩ := hrel
              by_cases hlt : j < Q.length
              · have hlt' : (j : Int) < Q.length := by omega
                obtain ⟨pb, po, B, rfl, hBj, ⟨hS1, hS2⟩, ⟨c0, c1, c2, c3, c4, c5⟩, _⟩ := (hAr.no hf (fun _ => id)).elem hlt
                have hsz := HQ2.out B (List.mem_of_getElem? hBj)
                obtain ⟨⟨bi, bps, bt, be, bn, bl⟩, qa, qc, ma, mc⟩ := B
                simp only at c0 c1 c2 c3 c4 c5 hS1 hS2 hsz
                have hal : Fr No wr (wr.alloc (.cells #[.string bi, .slice qa bps.length qc, .int .i64 bt, .int .i64 be, .int .i64 bn, .slice ma bl.length mc] 42)) := (Fr.refl _ _).alloc _
                have q13 := block_alloc wr (.cells #[.string bi, .slice qa bps.length qc, .int .i64 bt, .int .i64 be, .int .i64 bn, .slice ma bl.length mc] 42)
                obtain ⟨W1, hW1⟩ : ∃ W1, W1 = wr.alloc (.cells #[.string bi, .slice qa bps.length qc, .int .i64 bt, .int .i64 be, .int .i64 bn, .slice ma bl.length mc] 42) := ⟨_, rfl⟩
                rw [← hW1] at hal q13
                have hS3 := hS2.no hal (fun _ => id)
                have Hf1 := Lib.hid (hf.step hal (fun _ _ h => h))
                clear hal hf hBj hS1 hS2
                go_upto_region 8 with (fail)
                rw [← hW1]
                clear hW1 c0 c1 c2 c3 c4 c5
                refine region_sig No [(0, false), (2, false), (1, true), (3, true), (4, false), (5, false), (6, false), (8, false), (7, true), (9, true), (10, false), (11, false), (12, false), (13, false), (14, false), (15, false), (17, false), (18, false), (19, false), (16, true), (20, true), (21, false), (22, false), (23, false), (24, false), (25, false), (27, false), (28, false), (26, true), (29, true), (30, false), (31, false)] (by kernel_rfl) (by kernel_rfl) (fun w0 hf0 => ?_)
                have q14 := hf0.heap q13 id
                have hS4 := Lib.hid (hS3.no hf0 (fun _ => id))
                have Hf2 := Lib.hid (Hf1.out.step hf0 (fun _ _ h => h))
                have hG : ∀ (W : World), Fr No w0 W → (∀ g : Gr No W, g.W.cell? ⟨wr.heap.size, 0, none⟩ = some (.string bi)) ∧ (∀ g : Gr No W, g.W.cell? ⟨wr.heap.size, 1, none⟩ = some (.slice qa bps.length qc)) ∧ (∀ g : Gr No W, g.W.cell? ⟨wr.heap.size, 2, none⟩ = some (.int .i64 bt)) ∧ (∀ g : Gr No W, g.W.cell? ⟨wr.heap.size, 3, none⟩ = some (.int .i64 be)) ∧ (∀ g : Gr No W, g.W.cell? ⟨wr.heap.size, 4, none⟩ = some (.int .i64 bn)) ∧ (∀ g : Gr No W, g.W.cell? ⟨wr.heap.size, 5, none⟩ = some (.slice ma bl.length mc)) := fun W h =>
                  ⟨fun g => g.fr.cell (cell_of_block (h.heap q14 id) 0) id, fun g => g.fr.cell (cell_of_block (h.heap q14 id) 1) id, fun g => g.fr.cell (cell_of_block (h.heap q14 id) 2) id, fun g => g.fr.cell (cell_of_block (h.heap q14 id) 3) id, fun g => g.fr.cell (cell_of_block (h.heap q14 id) 4) id, fun g => g.fr.cell (cell_of_block (h.heap q14 id) 5) id⟩
                have HG := Lib.hid hG
                obtain ⟨g0, g1, g2, g3, g4, g5⟩ := hG w0 (Fr.refl _ _)
                clear q13 q14 hf0 Hf1 hG hS3
                repeat (first | (apply sig_q; exact rfl; exact rfl; exact rfl; intro K hK; go_big_quiet_op; go_big_quiet_on) | (apply sig_skip; exact rfl; exact rfl; exact rfl; intro K hK; go_big_quiet_op; go_big_quiet_on))
                clear g0 g1 g2 g3 g4 g5
                have hc := a_whole bi bt be bn qa bps.length qc ma mc bl w0
                apply sig_m
                exact rfl
                go_wp2_with fail
                refine hc.mono ?_
                rintro en y1 ⟨rfl, hfy⟩
                have HL := Lib.hid hfy
                clear hc
                go_wp2_with fail
                refine OnlyN.mk ⟨hfy, ?_⟩
                clear hfy
                obtain ⟨g0, g1, g2, g3, g4, g5⟩ := HG.out y1 HL.out
                repeat (first | (apply sig_q; exact rfl; exact rfl; exact rfl; intro K hK; go_big_quiet_op; go_big_quiet_on) | (apply sig_skip; exact rfl; exact rfl; exact rfl; intro K hK; go_big_quiet_op; go_big_quiet_on))
                clear g0 g1 g2 g3 g4 g5
                have hc := r_whole bi bt be bn qa bps.length qc ma mc bl y1
                apply sig_m
                exact rfl
                go_wp2_with fail
                refine hc.mono ?_
                rintro en y2 ⟨rfl, hfy⟩
                have HL := Lib.hid (HL.out.step hfy (fun _ _ h => h))
                clear hc
                go_wp2_with fail
                refine OnlyN.mk ⟨hfy, ?_⟩
                clear hfy
                obtain ⟨g0, g1, g2, g3, g4, g5⟩ := HG.out y2 HL.out
                repeat (first | (apply sig_q; exact rfl; exact rfl; exact rfl; intro K hK; go_big_quiet_op; go_big_quiet_on) | (apply sig_skip; exact rfl; exact rfl; exact rfl; intro K hK; go_big_quiet_op; go_big_quiet_on))
                clear g0 g1 g2 g3 g4 g5
                have hc := a_enough bi bt be bn qa bps.length qc ma mc bl y2
                apply sig_m
                exact rfl
                go_wp2_with fail
                refine hc.mono ?_
                rintro en y3 ⟨rfl, hfy⟩
                have HL := Lib.hid (HL.out.step hfy (fun _ _ h => h))
                clear hc
                go_wp2_with fail
                refine OnlyN.mk ⟨hfy, ?_⟩
                clear hfy
                obtain ⟨g0, g1, g2, g3, g4, g5⟩ := HG.out y3 HL.out
                repeat (first | (apply sig_q; exact rfl; exact rfl; exact rfl; intro K hK; go_big_quiet_op; go_big_quiet_on) | (apply sig_skip; exact rfl; exact rfl; exact rfl; intro K hK; go_big_quiet_op; go_big_quiet_on))
                clear g0 g1 g2 g3 g4 g5
                have hc := r_enough bi bt be bn qa bps.length qc ma mc bl y3
                apply sig_m
                exact rfl
                go_wp2_with fail
                refine hc.mono ?_
                rintro en y4 ⟨rfl, hfy⟩
                have HL := Lib.hid (HL.out.step hfy (fun _ _ h => h))
                clear hc
                go_wp2_with fail
                refine OnlyN.mk ⟨hfy, ?_⟩
                clear hfy
                obtain ⟨g0, g1, g2, g3, g4, g5⟩ := HG.out y4 HL.out
                repeat (first | (apply sig_q; exact rfl; exact rfl; exact rfl; intro K hK; go_big_quiet_op; go_big_quiet_on) | (apply sig_skip; exact rfl; exact rfl; exact rfl; intro K hK; go_big_quiet_op; go_big_quiet_on))
                clear g0 g1 g2 g3 g4 g5
                have hc := a_must bi bt be bn qa bps.length qc ma mc bl ex xp y4
                apply sig_m
                exact rfl
                go_wp2_with fail
                refine hc.mono ?_
                rintro en y5 ⟨rfl, hfy⟩
                have HL := Lib.hid (HL.out.step hfy (fun _ _ h => h))
                clear hc
                go_wp2_with fail
                refine OnlyN.mk ⟨hfy, ?_⟩
                clear hfy
                obtain ⟨g0, g1, g2, g3, g4, g5⟩ := HG.out y5 HL.out
                repeat (first | (apply sig_q; exact rfl; exact rfl; exact rfl; intro K hK; go_big_quiet_op; go_big_quiet_on) | (apply sig_skip; exact rfl; exact rfl; exact rfl; intro K hK; go_big_quiet_op; go_big_quiet_on))
                clear g0 g1 g2 g3 g4 g5
                have hc := r_must bi bt be bn qa bps.length qc ma mc bl ex xp y5
                apply sig_m
                exact rfl
                go_wp2_with fail
                refine hc.mono ?_
                rintro en y6 ⟨rfl, hfy⟩
                have HL := Lib.hid (HL.out.step hfy (fun _ _ h => h))
                clear hc
                go_wp2_with fail
                refine OnlyN.mk ⟨hfy, ?_⟩
                clear hfy
                obtain ⟨g0, g1, g2, g3, g4, g5⟩ := HG.out y6 HL.out
                repeat (first | (apply sig_q; exact rfl; exact rfl; exact rfl; intro K hK; go_big_quiet_op; go_big_quiet_on) | (apply sig_skip; exact rfl; exact rfl; exact rfl; intro K hK; go_big_quiet_op; go_big_quiet_on))
                clear g0 g1 g2 g3 g4 g5
                have hc := a_want bi bt be bn rd qa bps.length qc ma mc bl y6 hsz (hS4.out.no HL.out (fun _ => id))
                obtain ⟨md, hmd⟩ : ∃ md, md = mdOf bi bl rd := ⟨_, rfl⟩
                have Hmd := Lib.hid hmd
                clear hmd
                rw [← Hmd.out, show md.vals = #[.string md.q, .string md.o, .string md.c, .int .i64 md.r] from rfl] at hc
                apply sig_m
                exact rfl
                go_wp2_with fail
                refine hc.mono ?_
                rintro en y7 ⟨rfl, hfy⟩
                have HL := Lib.hid (HL.out.step hfy (fun _ _ h => h))
                clear hc
                go_wp2_with fail
                refine OnlyN.mk ⟨hfy, ?_⟩
                clear hfy
                obtain ⟨g0, g1, g2, g3, g4, g5⟩ := HG.out y7 HL.out
                repeat (first | (apply sig_q; exact rfl; exact rfl; exact rfl; intro K hK; go_big_quiet_op; go_big_quiet_on) | (apply sig_skip; exact rfl; exact rfl; exact rfl; intro K hK; go_big_quiet_op; go_big_quiet_on))
                clear g0 g1 g2 g3 g4 g5
                have hc := r_want bi bt be bn rd qa bps.length qc ma mc bl y7 hsz (hS4.out.no HL.out (fun _ => id))
                rw [← Hmd.out, show md.vals = #[.string md.q, .string md.o, .string md.c, .int .i64 md.r] from rfl] at hc
                apply sig_m
                exact rfl
                go_wp2_with fail
                refine hc.mono ?_
                rintro en y8 ⟨rfl, hfy⟩
                have HL := Lib.hid (HL.out.step hfy (fun _ _ h => h))
                clear hc
                go_wp2_with fail
                refine OnlyN.mk ⟨hfy, ?_⟩
                clear hfy
                obtain ⟨g0, g1, g2, g3, g4, g5⟩ := HG.out y8 HL.out
                repeat (first | (apply sig_q; exact rfl; exact rfl; exact rfl; intro K hK; go_big_quiet_op; go_big_quiet_on) | (apply sig_skip; exact rfl; exact rfl; exact rfl; intro K hK; go_big_quiet_op; go_big_quiet_on))
                clear g0 g1 g2 g3 g4 g5
                refine sig_end ?_
                go_wp2_with fail
                go_roundw
                case rel => exact ⟨j + 1, by omega, by go_num, Hf2.out.step HL.out (fun _ _ h => h)⟩
                case measure => simp [intOf]; omega
              · obtain rfl : j = Q.length := by omega
                have hge : ¬ (Q.length : Int) < Q.length := by omega
                have hk := known32 wr (HEz.no hf)
                have hfw := Hfz.out.step hf (fun _ _ h => h)
                clear hAr hf HEz Hfz
                go_wp2_with fail
                refine hk.mono ?_
                rintro en w7 ⟨rfl, hf7⟩
                have hfin := Hw0.out.step (hfw.step hf7 (fun _ _ h => h)) (fun _ _ h => h)
                clear hk hf7 hfw
                go_wp2_with fail
                go_ret
                exact ⟨rfl, hfin⟩
          · go_wp2_with fail
            have hxx : Fr No X2 (X2.alloc (.cells #[.string ai, .slice pa ps.length pc, .int .i64 t, .int .i64 e, .int .i64 n, .slice la ins.length lc] 42)) := (Fr.refl _ _).alloc _
            have q6 := block_alloc X2 (.cells #[.string ai, .slice pa ps.length pc, .int .i64 t, .int .i64 e, .int .i64 n, .slice la ins.length lc] 42)
            refine OnlyN.mk ⟨(Fr.refl _ _).alloc _, ?_⟩
            obtain ⟨X3, hY⟩ : ∃ Y, Y = X2.alloc (.cells #[.string ai, .slice pa ps.length pc, .int .i64 t, .int .i64 e, .int .i64 n, .slice la ins.length lc] 42) := ⟨_, rfl⟩
            rw [← hY] at hxx q6 ⊢
            have hL := hL.no hxx (fun _ => id)
            have HF : Fr No w0 X3 := HF.step hxx (fun _ _ h => h)
            clear hxx hY
            repeat (first | (apply tree_q; exact rfl; exact rfl; exact rfl; intro K hK; go_big_quiet_op; go_big_quiet_on) | (apply tree_skip; exact rfl; exact rfl; exact rfl; intro K hK; go_big_quiet_op; go_big_quiet_on))
            refine tree_m1 rfl ?_
            have hEx := HE.out.fr HF (fun _ _ => id)
            obtain ⟨m0, hm0⟩ := hEx.len
            have hgb : w0.heap.size ≤ X3.heap.size := HF.size
            have hzz := hEx.sz
            have hgr := a_group a1 c1 L m0 X3 hL (mb_small hLo (by omega)) hm0 (by omega)
            clear hEx hm0
            go_wp2_with fail
            refine hgr.mono ?_
            rintro en X4 ⟨⟨oa, oc, O, ids, rfl, _, _, hOfr, hids, hOe, hOl, hOown⟩, hxx⟩
            have hOi : ∀ m ∈ O, m.i.size ≤ 1000000 := arrs_id (mb_small hLo (by omega)) hids hOe
            have hOn : O.length ≤ 1000 := by have h1 := congrArg List.length hOe; simp only [List.length_map] at h1; omega
            clear hgr hL hids hOe hOl
            go_wp2_with fail
            refine OnlyN.mk ⟨hxx.mono (fun _ _ h => h.elim), ?_⟩
            have q6 := hxx.heap q6 id
            have hgs := hxx.size
            have HF : Fr No w0 X4 := HF.step hxx (fun _ _ h => h)
            clear hxx
            repeat (first | (apply tree_q; exact rfl; exact rfl; exact rfl; intro K hK; go_big_quiet_op; go_big_quiet_on) | (apply tree_skip; exact rfl; exact rfl; exact rfl; intro K hK; go_big_quiet_op; go_big_quiet_on))
            refine tree_m1 rfl ?_
            have hsX : X3.heap.size ≤ X4.heap.size := by have := HF.size; first | omega | (have h6 := lt_of_block q6; omega)
            have Hown := Lib.hid hOown
            go_wp2_with (at_builtin; refine wpList_append_own _ rfl _ _ 61 rfl (X3.heap.size) 42 i0 (.agg #[.string ByteArray.empty, .slice none 0 0, .int .i64 0, .int .i64 0, .int .i64 0, .slice none 0 0]) 6 88 Tryz.underlying61 hi0 hz0 hz1 hz2 rfl (by decide) _ _ _ rfl hOown ⟨X2.heap.size, 0, none⟩ 1 1 (ArrM.vals (⟨⟨ai, ps, t, e, n, ins⟩, pa, pc, la, lc⟩ : ArrM)).toList rfl rfl (cells_at q6) (arvals_one _) (by unfold maxLen; omega) (by omega) (by first | omega | (simp; done) | (simp; omega)) ?_; intro v' X9 hown9 hgrow9 _; obtain ⟨av', cv', rfl⟩ := ownsRow_slice hown9)
            have hgf : Fr (fun b => (Value.slice oa O.length oc).ownBlock = some b) X4 X9 := Fr.of_grown hgrow9
            refine OnlyN.mk ⟨hgf.mono (fun b _ h => by have := ownsRow_blk Hown.out h; unfold From at *; omega), ?_⟩
            obtain ⟨Q, hQ⟩ : ∃ Q, Q = O ++ [(⟨⟨ai, ps, t, e, n, ins⟩, pa, pc, la, lc⟩ : ArrM)] := ⟨_, rfl⟩
            have hQl : O.length + 1 = Q.length := by rw [hQ]; simp
            have HF : Fr No w0 X9 := HF.trans hgf (fun _ _ h => h) (fun b hb h => by have := ownsRow_blk Hown.out h; unfold From at this; omega)
            have HQ : ∀ m ∈ Q, (Strs X9 m.pa m.pc m.ps ∧ Strs X9 m.la m.lc m.l) ∧ m.i.size ≤ 1000000 := fun m hm => by
              rw [hQ] at hm
              rcases List.mem_append.1 hm with h | h
              · exact ⟨(hOfr.own Hown.out hgf m h).1, hOi m h⟩
              · obtain rfl := List.mem_singleton.1 h
                exact ⟨⟨hSA.out.1.no HF (fun _ => id), hSA.out.2.no HF (fun _ => id)⟩, hai⟩
            have hownQ : X9.ownsRow (X3.heap.size) 42 6 (.slice av' Q.length cv') Q.length (arflat Q) := by rw [← hQl, hQ, arflat_snoc]; exact hown9
            rw [hQl]
            clear hown9 hgrow9 hgf hOown hOfr Hown q6 hQ hQl hOi hOn
            repeat (first | (apply tree_q; exact rfl; exact rfl; exact rfl; intro K hK; go_big_quiet_op; go_big_quiet_on) | (apply tree_skip; exact rfl; exact rfl; exact rfl; intro K hK; go_big_quiet_op; go_big_quiet_on))
            refine tree_end ?_
            obtain ⟨a6, c6, e6, hAr, _⟩ := Arrs.of_own hownQ (fun m hm => (HQ m hm).1)
            cases e6
            have HQ2 := Lib.hid (fun m hm => (HQ m hm).2)
            have Hfz := Lib.hid HF
            have HEz := HE.out.fr HF (fun _ _ => id)
            have hqm := hAr.lenmax
            clear HQ HF hownQ
            go_wp2_with fail
            go_loopw [12] (fun i wr => ∃ j : Nat, j ≤ Q.length ∧ i = .int .i64 (j : Int) ∧ Fr No X9 wr) (fun i _ => Q.length - (intOf i).toNat)
            case atStart => exact ⟨0, by omega, rfl, Fr.refl _ _⟩
            case round =>
              obtain ⟨j, hj, rfl, hf⟩ := hrel
              by_cases hlt : j < Q.length
              · have hlt' : (j : Int) < Q.length := by omega
                obtain ⟨pb, po, B, rfl, hBj, ⟨hS1, hS2⟩, ⟨c0, c1, c2, c3, c4, c5⟩, _⟩ := (hAr.no hf (fun _ => id)).elem hlt
                have hsz := HQ2.out B (List.mem_of_getElem? hBj)
                obtain ⟨⟨bi, bps, bt, be, bn, bl⟩, qa, qc, ma, mc⟩ := B
                simp only at c0 c1 c2 c3 c4 c5 hS1 hS2 hsz
                have hal : Fr No wr (wr.alloc (.cells #[.string bi, .slice qa bps.length qc, .int .i64 bt, .int .i64 be, .int .i64 bn, .slice ma bl.length mc] 42)) := (Fr.refl _ _).alloc _
                have q13 := block_alloc wr (.cells #[.string bi, .slice qa bps.length qc, .int .i64 bt, .int .i64 be, .int .i64 bn, .slice ma bl.length mc] 42)
                obtain ⟨W1, hW1⟩ : ∃ W1, W1 = wr.alloc (.cells #[.string bi, .slice qa bps.length qc, .int .i64 bt, .int .i64 be, .int .i64 bn, .slice ma bl.length mc] 42) := ⟨_, rfl⟩
                rw [← hW1] at hal q13
                have hS3 := hS2.no hal (fun _ => id)
                have Hf1 := Lib.hid (hf.step hal (fun _ _ h => h))
                clear hal hf hBj hS1 hS2
                go_upto_region 8 with (fail)
                rw [← hW1]
                clear hW1 c0 c1 c2 c3 c4 c5
                refine region_sig No [(0, false), (2, false), (1, true), (3, true), (4, false), (5, false), (6, false), (8, false), (7, true), (9, true), (10, false), (11, false), (12, false), (13, false), (14, false), (15, false), (17, false), (18, false), (19, false), (16, true), (20, true), (21, false), (22, false), (23, false), (24, false), (25, false), (27, false), (28, false), (26, true), (29, true), (30, false), (31, false)] (by kernel_rfl) (by kernel_rfl) (fun w0 hf0 => ?_)
                have q14 := hf0.heap q13 id
                have hS4 := Lib.hid (hS3.no hf0 (fun _ => id))
                have Hf2 := Lib.hid (Hf1.out.step hf0 (fun _ _ h => h))
                have hG : ∀ (W : World), Fr No w0 W → (∀ g : Gr No W, g.W.cell? ⟨wr.heap.size, 0, none⟩ = some (.string bi)) ∧ (∀ g : Gr No W, g.W.cell? ⟨wr.heap.size, 1, none⟩ = some (.slice qa bps.length qc)) ∧ (∀ g : Gr No W, g.W.cell? ⟨wr.heap.size, 2, none⟩ = some (.int .i64 bt)) ∧ (∀ g : Gr No W, g.W.cell? ⟨wr.heap.size, 3, none⟩ = some (.int .i64 be)) ∧ (∀ g : Gr No W, g.W.cell? ⟨wr.heap.size, 4, none⟩ = some (.int .i64 bn)) ∧ (∀ g : Gr No W, g.W.cell? ⟨wr.heap.size, 5, none⟩ = some (.slice ma bl.length mc)) := fun W h =>
                  ⟨fun g => g.fr.cell (cell_of_block (h.heap q14 id) 0) id, fun g => g.fr.cell (cell_of_block (h.heap q14 id) 1) id, fun g => g.fr.cell (cell_of_block (h.heap q14 id) 2) id, fun g => g.fr.cell (cell_of_block (h.heap q14 id) 3) id, fun g => g.fr.cell (cell_of_block (h.heap q14 id) 4) id, fun g => g.fr.cell (cell_of_block (h.heap q14 id) 5) id⟩
                have HG := Lib.hid hG
                obtain ⟨g0, g1, g2, g3, g4, g5⟩ := hG w0 (Fr.refl _ _)
                clear q13 q14 hf0 Hf1 hG hS3
                repeat (first | (apply sig_q; exact rfl; exact rfl; exact rfl; intro K hK; go_big_quiet_op; go_big_quiet_on) | (apply sig_skip; exact rfl; exact rfl; exact rfl; intro K hK; go_big_quiet_op; go_big_quiet_on))
                clear g0 g1 g2 g3 g4 g5
                have hc := a_whole bi bt be bn qa bps.length qc ma mc bl w0
                apply sig_m
                exact rfl
                go_wp2_with fail
                refine hc.mono ?_
                rintro en y1 ⟨rfl, hfy⟩
                have HL := Lib.hid hfy
                clear hc
                go_wp2_with fail
                refine OnlyN.mk ⟨hfy, ?_⟩
                clear hfy
                obtain ⟨g0, g1, g2, g3, g4, g5⟩ := HG.out y1 HL.out
                repeat (first | (apply sig_q; exact rfl; exact rfl; exact rfl; intro K hK; go_big_quiet_op; go_big_quiet_on) | (apply sig_skip; exact rfl; exact rfl; exact rfl; intro K hK; go_big_quiet_op; go_big_quiet_on))
                clear g0 g1 g2 g3 g4 g5
                have hc := r_whole bi bt be bn qa bps.length qc ma mc bl y1
                apply sig_m
                exact rfl
                go_wp2_with fail
                refine hc.mono ?_
                rintro en y2 ⟨rfl, hfy⟩
                have HL := Lib.hid (HL.out.step hfy (fun _ _ h => h))
                clear hc
                go_wp2_with fail
                refine OnlyN.mk ⟨hfy, ?_⟩
                clear hfy
                obtain ⟨g0, g1, g2, g3, g4, g5⟩ := HG.out y2 HL.out
                repeat (first | (apply sig_q; exact rfl; exact rfl; exact rfl; intro K hK; go_big_quiet_op; go_big_quiet_on) | (apply sig_skip; exact rfl; exact rfl; exact rfl; intro K hK; go_big_quiet_op; go_big_quiet_on))
                clear g0 g1 g2 g3 g4 g5
                have hc := a_enough bi bt be bn qa bps.length qc ma mc bl y2
                apply sig_m
                exact rfl
                go_wp2_with fail
                refine hc.mono ?_
                rintro en y3 ⟨rfl, hfy⟩
                have HL := Lib.hid (HL.out.step hfy (fun _ _ h => h))
                clear hc
                go_wp2_with fail
                refine OnlyN.mk ⟨hfy, ?_⟩
                clear hfy
                obtain ⟨g0, g1, g2, g3, g4, g5⟩ := HG.out y3 HL.out
                repeat (first | (apply sig_q; exact rfl; exact rfl; exact rfl; intro K hK; go_big_quiet_op; go_big_quiet_on) | (apply sig_skip; exact rfl; exact rfl; exact rfl; intro K hK; go_big_quiet_op; go_big_quiet_on))
                clear g0 g1 g2 g3 g4 g5
                have hc := r_enough bi bt be bn qa bps.length qc ma mc bl y3
                apply sig_m
                exact rfl
                go_wp2_with fail
                refine hc.mono ?_
                rintro en y4 ⟨rfl, hfy⟩
                have HL := Lib.hid (HL.out.step hfy (fun _ _ h => h))
                clear hc
                go_wp2_with fail
                refine OnlyN.mk ⟨hfy, ?_⟩
                clear hfy
                obtain ⟨g0, g1, g2, g3, g4, g5⟩ := HG.out y4 HL.out
                repeat (first | (apply sig_q; exact rfl; exact rfl; exact rfl; intro K hK; go_big_quiet_op; go_big_quiet_on) | (apply sig_skip; exact rfl; exact rfl; exact rfl; intro K hK; go_big_quiet_op; go_big_quiet_on))
                clear g0 g1 g2 g3 g4 g5
                have hc := a_must bi bt be bn qa bps.length qc ma mc bl ex xp y4
                apply sig_m
                exact rfl
                go_wp2_with fail
                refine hc.mono ?_
                rintro en y5 ⟨rfl, hfy⟩
                have HL := Lib.hid (HL.out.step hfy (fun _ _ h => h))
                clear hc
                go_wp2_with fail
                refine OnlyN.mk ⟨hfy, ?_⟩
                clear hfy
                obtain ⟨g0, g1, g2, g3, g4, g5⟩ := HG.out y5 HL.out
                repeat (first | (apply sig_q; exact rfl; exact rfl; exact rfl; intro K hK; go_big_quiet_op; go_big_quiet_on) | (apply sig_skip; exact rfl; exact rfl; exact rfl; intro K hK; go_big_quiet_op; go_big_quiet_on))
                clear g0 g1 g2 g3 g4 g5
                have hc := r_must bi bt be bn qa bps.length qc ma mc bl ex xp y5
                apply sig_m
                exact rfl
                go_wp2_with fail
                refine hc.mono ?_
                rintro en y6 ⟨rfl, hfy⟩
                have HL := Lib.hid (HL.out.step hfy (fun _ _ h => h))
                clear hc
                go_wp2_with fail
                refine OnlyN.mk ⟨hfy, ?_⟩
                clear hfy
                obtain ⟨g0, g1, g2, g3, g4, g5⟩ := HG.out y6 HL.out
                repeat (first | (apply sig_q; exact rfl; exact rfl; exact rfl; intro K hK; go_big_quiet_op; go_big_quiet_on) | (apply sig_skip; exact rfl; exact rfl; exact rfl; intro K hK; go_big_quiet_op; go_big_quiet_on))
                clear g0 g1 g2 g3 g4 g5
                have hc := a_want bi bt be bn rd qa bps.length qc ma mc bl y6 hsz (hS4.out.no HL.out (fun _ => id))
                obtain ⟨md, hmd⟩ : ∃ md, md = mdOf bi bl rd := ⟨_, rfl⟩
                have Hmd := Lib.hid hmd
                clear hmd
                rw [← Hmd.out, show md.vals = #[.string md.q, .string md.o, .string md.c, .int .i64 md.r] from rfl] at hc
                apply sig_m
                exact rfl
                go_wp2_with fail
                refine hc.mono ?_
                rintro en y7 ⟨rfl, hfy⟩
                have HL := Lib.hid (HL.out.step hfy (fun _ _ h => h))
                clear hc
                go_wp2_with fail
                refine OnlyN.mk ⟨hfy, ?_⟩
                clear hfy
                obtain ⟨g0, g1, g2, g3, g4, g5⟩ := HG.out y7 HL.out
                repeat (first | (apply sig_q; exact rfl; exact rfl; exact rfl; intro K hK; go_big_quiet_op; go_big_quiet_on) | (apply sig_skip; exact rfl; exact rfl; exact rfl; intro K hK; go_big_quiet_op; go_big_quiet_on))
                clear g0 g1 g2 g3 g4 g5
                have hc := r_want bi bt be bn rd qa bps.length qc ma mc bl y7 hsz (hS4.out.no HL.out (fun _ => id))
                rw [← Hmd.out, show md.vals = #[.string md.q, .string md.o, .string md.c, .int .i64 md.r] from rfl] at hc
                apply sig_m
                exact rfl
                go_wp2_with fail
                refine hc.mono ?_
                rintro en y8 ⟨rfl, hfy⟩
                have HL := Lib.hid (HL.out.step hfy (fun _ _ h => h))
                clear hc
                go_wp2_with fail
                refine OnlyN.mk ⟨hfy, ?_⟩
                clear hfy
                obtain ⟨g0, g1, g2, g3, g4, g5⟩ := HG.out y8 HL.out
                repeat (first | (apply sig_q; exact rfl; exact rfl; exact rfl; intro K hK; go_big_quiet_op; go_big_quiet_on) | (apply sig_skip; exact rfl; exact rfl; exact rfl; intro K hK; go_big_quiet_op; go_big_quiet_on))
                clear g0 g1 g2 g3 g4 g5
                refine sig_end ?_
                go_wp2_with fail
                go_roundw
                case rel => exact ⟨j + 1, by omega, by go_num, Hf2.out.step HL.out (fun _ _ h => h)⟩
                case measure => simp [intOf]; omega
              · obtain rfl : j = Q.length := by omega
                have hge : ¬ (Q.length : Int) < Q.length := by omega
                have hk := known32 wr (HEz.no hf)
                have hfw := Hfz.out.step hf (fun _ _ h => h)
                clear hAr hf HEz Hfz
                go_wp2_with fail
                refine hk.mono ?_
                rintro en w7 ⟨rfl, hf7⟩
                have hfin := Hw0.out.step (hfw.step hf7 (fun _ _ h => h)) (fun _ _ h => h)
                clear hk hf7 hfw
                go_wp2_with fail
                go_ret
                exact ⟨rfl, hfin⟩
        · go_wp2_with fail
          have hxx : Fr No X1 (X1.alloc (.cells #[.string ai, .slice pa ps.length pc, .int .i64 t, .int .i64 e, .int .i64 n, .slice la ins.length lc] 42)) := (Fr.refl _ _).alloc _
          have q6 := block_alloc X1 (.cells #[.string ai, .slice pa ps.length pc, .int .i64 t, .int .i64 e, .int .i64 n, .slice la ins.length lc] 42)
          refine OnlyN.mk ⟨(Fr.refl _ _).alloc _, ?_⟩
          obtain ⟨X2, hY⟩ : ∃ Y, Y = X1.alloc (.cells #[.string ai, .slice pa ps.length pc, .int .i64 t, .int .i64 e, .int .i64 n, .slice la ins.length lc] 42) := ⟨_, rfl⟩
          rw [← hY] at hxx q6 ⊢
          have h61 := ht.lt
          have ht := ht.fr hxx (fun _ _ => id) id
          have HF : Fr No w0 X2 := HF.step hxx (fun _ _ h => h)
          clear hxx hY
          repeat (first | (apply tree_q; exact rfl; exact rfl; exact rfl; intro K hK; go_big_quiet_op; go_big_quiet_on) | (apply tree_skip; exact rfl; exact rfl; exact rfl; intro K hK; go_big_quiet_op; go_big_quiet_on))
          refine tree_m1 rfl ?_
          have hms := made_mbs (w0.heap.size) (w0.heap.size) 0 7 X2 ht (by omega) (by omega)
          have htl := ht.lt
          go_wp2_with fail
          refine hms.mono ?_
          rintro en X3 ⟨⟨L, a1, c1, k1, rfl, hL, _, _, hLo, hLl, _, _, _⟩, hxx⟩
          clear hms ht
          go_wp2_with fail
          refine OnlyN.mk ⟨hxx.mono (fun b _ h => by unfold Is at h; unfold From; omega), ?_⟩
          have q6 := hxx.heap q6 (fun h => by unfold Is at h; omega)
          have HF : Fr No w0 X3 := HF.trans hxx (fun _ _ h => h) (fun b hb h => by unfold Is at h; omega)
          clear hxx
          repeat (first | (apply tree_q; exact rfl; exact rfl; exact rfl; intro K hK; go_big_quiet_op; go_big_quiet_on) | (apply tree_skip; exact rfl; exact rfl; exact rfl; intro K hK; go_big_quiet_op; go_big_quiet_on))
          refine tree_m1 rfl ?_
          have hEx := HE.out.fr HF (fun _ _ => id)
          obtain ⟨m0, hm0⟩ := hEx.len
          have hgb : w0.heap.size ≤ X3.heap.size := HF.size
          have hzz := hEx.sz
          have hgr := a_group a1 c1 L m0 X3 hL (mb_small hLo (by omega)) hm0 (by omega)
          clear hEx hm0
          go_wp2_with fail
          refine hgr.mono ?_
          rintro en X4 ⟨⟨oa, oc, O, ids, rfl, _, _, hOfr, hids, hOe, hOl, hOown⟩, hxx⟩
          have hOi : ∀ m ∈ O, m.i.size ≤ 1000000 := arrs_id (mb_small hLo (by omega)) hids hOe
          have hOn : O.length ≤ 1000 := by have h1 := congrArg List.length hOe; simp only [List.length_map] at h1; omega
          clear hgr hL hids hOe hOl
          go_wp2_with fail
          refine OnlyN.mk ⟨hxx.mono (fun _ _ h => h.elim), ?_⟩
          have q6 := hxx.heap q6 id
          have hgs := hxx.size
          have HF : Fr No w0 X4 := HF.step hxx (fun _ _ h => h)
          clear hxx
          repeat (first | (apply tree_q; exact rfl; exact rfl; exact rfl; intro K hK; go_big_quiet_op; go_big_quiet_on) | (apply tree_skip; exact rfl; exact rfl; exact rfl; intro K hK; go_big_quiet_op; go_big_quiet_on))
          refine tree_m1 rfl ?_
          have hsX : X3.heap.size ≤ X4.heap.size := by have := HF.size; first | omega | (have h6 := lt_of_block q6; omega)
          have Hown := Lib.hid hOown
          go_wp2_with (at_builtin; refine wpList_append_own _ rfl _ _ 61 rfl (X3.heap.size) 42 i0 (.agg #[.string ByteArray.empty, .slice none 0 0, .int .i64 0, .int .i64 0, .int .i64 0, .slice none 0 0]) 6 88 Tryz.underlying61 hi0 hz0 hz1 hz2 rfl (by decide) _ _ _ rfl hOown ⟨X1.heap.size, 0, none⟩ 1 1 (ArrM.vals (⟨⟨ai, ps, t, e, n, ins⟩, pa, pc, la, lc⟩ : ArrM)).toList rfl rfl (cells_at q6) (arvals_one _) (by unfold maxLen; omega) (by omega) (by first | omega | (simp; done) | (simp; omega)) ?_; intro v' X9 hown9 hgrow9 _; obtain ⟨av', cv', rfl⟩ := ownsRow_slice hown9)
          have hgf : Fr (fun b => (Value.slice oa O.length oc).ownBlock = some b) X4 X9 := Fr.of_grown hgrow9
          refine OnlyN.mk ⟨hgf.mono (fun b _ h => by have := ownsRow_blk Hown.out h; unfold From at *; omega), ?_⟩
          obtain ⟨Q, hQ⟩ : ∃ Q, Q = O ++ [(⟨⟨ai, ps, t, e, n, ins⟩, pa, pc, la, lc⟩ : ArrM)] := ⟨_, rfl⟩
          have hQl : O.length + 1 = Q.length := by rw [hQ]; simp
          have HF : Fr No w0 X9 := HF.trans hgf (fun _ _ h => h) (fun b hb h => by have := ownsRow_blk Hown.out h; unfold From at this; omega)
          have HQ : ∀ m ∈ Q, (Strs X9 m.pa m.pc m.ps ∧ Strs X9 m.la m.lc m.l) ∧ m.i.size ≤ 1000000 := fun m hm => by
            rw [hQ] at hm
            rcases List.mem_append.1 hm with h | h
            · exact ⟨(hOfr.own Hown.out hgf m h).1, hOi m h⟩
            · obtain rfl := List.mem_singleton.1 h
              exact ⟨⟨hSA.out.1.no HF (fun _ => id), hSA.out.2.no HF (fun _ => id)⟩, hai⟩
          have hownQ : X9.ownsRow (X3.heap.size) 42 6 (.slice av' Q.length cv') Q.length (arflat Q) := by rw [← hQl, hQ, arflat_snoc]; exact hown9
          rw [hQl]
          clear hown9 hgrow9 hgf hOown hOfr Hown q6 hQ hQl hOi hOn
          repeat (first | (apply tree_q; exact rfl; exact rfl; exact rfl; intro K hK; go_big_quiet_op; go_big_quiet_on) | (apply tree_skip; exact rfl; exact rfl; exact rfl; intro K hK; go_big_quiet_op; go_big_quiet_on))
          refine tree_end ?_
          obtain ⟨a6, c6, e6, hAr, _⟩ := Arrs.of_own hownQ (fun m hm => (HQ m hm).1)
          cases e6
          have HQ2 := Lib.hid (fun m hm => (HQ m hm).2)
          have Hfz := Lib.hid HF
          have HEz := HE.out.fr HF (fun _ _ => id)
          have hqm := hAr.lenmax
          clear HQ HF hownQ
          go_wp2_with fail
          go_loopw [12] (fun i wr => ∃ j : Nat, j ≤ Q.length ∧ i = .int .i64 (j : Int) ∧ Fr No X9 wr) (fun i _ => Q.length - (intOf i).toNat)
          case atStart => exact ⟨0, by omega, rfl, Fr.refl _ _⟩
          case round =>
            obtain ⟨j, hj, rfl, hf⟩ := hrel
            by_cases hlt : j < Q.length
            · have hlt' : (j : Int) < Q.length := by omega
              obtain ⟨pb, po, B, rfl, hBj, ⟨hS1, hS2⟩, ⟨c0, c1, c2, c3, c4, c5⟩, _⟩ := (hAr.no hf (fun _ => id)).elem hlt
              have hsz := HQ2.out B (List.mem_of_getElem? hBj)
              obtain ⟨⟨bi, bps, bt, be, bn, bl⟩, qa, qc, ma, mc⟩ := B
              simp only at c0 c1 c2 c3 c4 c5 hS1 hS2 hsz
              have hal : Fr No wr (wr.alloc (.cells #[.string bi, .slice qa bps.length qc, .int .i64 bt, .int .i64 be, .int .i64 bn, .slice ma bl.length mc] 42)) := (Fr.refl _ _).alloc _
              have q13 := block_alloc wr (.cells #[.string bi, .slice qa bps.length qc, .int .i64 bt, .int .i64 be, .int .i64 bn, .slice ma bl.length mc] 42)
              obtain ⟨W1, hW1⟩ : ∃ W1, W1 = wr.alloc (.cells #[.string bi, .slice qa bps.length qc, .int .i64 bt, .int .i64 be, .int .i64 bn, .slice ma bl.length mc] 42) := ⟨_, rfl⟩
              rw [← hW1] at hal q13
              have hS3 := hS2.no hal (fun _ => id)
              have Hf1 := Lib.hid (hf.step hal (fun _ _ h => h))
              clear hal hf hBj hS1 hS2
              go_upto_region 8 with (fail)
              rw [← hW1]
              clear hW1 c0 c1 c2 c3 c4 c5
              refine region_sig No [(0, false), (2, false), (1, true), (3, true), (4, false), (5, false), (6, false), (8, false), (7, true), (9, true), (10, false), (11, false), (12, false), (13, false), (14, false), (15, false), (17, false), (18, false), (19, false), (16, true), (20, true), (21, false), (22, false), (23, false), (24, false), (25, false), (27, false), (28, false), (26, true), (29, true), (30, false), (31, false)] (by kernel_rfl) (by kernel_rfl) (fun w0 hf0 => ?_)
              have q14 := hf0.heap q13 id
              have hS4 := Lib.hid (hS3.no hf0 (fun _ => id))
              have Hf2 := Lib.hid (Hf1.out.step hf0 (fun _ _ h => h))
              have hG : ∀ (W : World), Fr No w0 W → (∀ g : Gr No W, g.W.cell? ⟨wr.heap.size, 0, none⟩ = some (.string bi)) ∧ (∀ g : Gr No W, g.W.cell? ⟨wr.heap.size, 1, none⟩ = some (.slice qa bps.length qc)) ∧ (∀ g : Gr No W, g.W.cell? ⟨wr.heap.size, 2, none⟩ = some (.int .i64 bt)) ∧ (∀ g : Gr No W, g.W.cell? ⟨wr.heap.size, 3, none⟩ = some (.int .i64 be)) ∧ (∀ g : Gr No W, g.W.cell? ⟨wr.heap.size, 4, none⟩ = some (.int .i64 bn)) ∧ (∀ g : Gr No W, g.W.cell? ⟨wr.heap.size, 5, none⟩ = some (.slice ma bl.length mc)) := fun W h =>
                ⟨fun g => g.fr.cell (cell_of_block (h.heap q14 id) 0) id, fun g => g.fr.cell (cell_of_block (h.heap q14 id) 1) id, fun g => g.fr.cell (cell_of_block (h.heap q14 id) 2) id, fun g => g.fr.cell (cell_of_block (h.heap q14 id) 3) id, fun g => g.fr.cell (cell_of_block (h.heap q14 id) 4) id, fun g => g.fr.cell (cell_of_block (h.heap q14 id) 5) id⟩
              have HG := Lib.hid hG
              obtain ⟨g0, g1, g2, g3, g4, g5⟩ := hG w0 (Fr.refl _ _)
              clear q13 q14 hf0 Hf1 hG hS3
              repeat (first | (apply sig_q; exact rfl; exact rfl; exact rfl; intro K hK; go_big_quiet_op; go_big_quiet_on) | (apply sig_skip; exact rfl; exact rfl; exact rfl; intro K hK; go_big_quiet_op; go_big_quiet_on))
              clear g0 g1 g2 g3 g4 g5
              have hc := a_whole bi bt be bn qa bps.length qc ma mc bl w0
              apply sig_m
              exact rfl
              go_wp2_with fail
              refine hc.mono ?_
              rintro en y1 ⟨rfl, hfy⟩
              have HL := Lib.hid hfy
              clear hc
              go_wp2_with fail
              refine OnlyN.mk ⟨hfy, ?_⟩
              clear hfy
              obtain ⟨g0, g1, g2, g3, g4, g5⟩ := HG.out y1 HL.out
              repeat (first | (apply sig_q; exact rfl; exact rfl; exact rfl; intro K hK; go_big_quiet_op; go_big_quiet_on) | (apply sig_skip; exact rfl; exact rfl; exact rfl; intro K hK; go_big_quiet_op; go_big_quiet_on))
              clear g0 g1 g2 g3 g4 g5
              have hc := r_whole bi bt be bn qa bps.length qc ma mc bl y1
              apply sig_m
              exact rfl
              go_wp2_with fail
              refine hc.mono ?_
              rintro en y2 ⟨rfl, hfy⟩
              have HL := Lib.hid (HL.out.step hfy (fun _ _ h => h))
              clear hc
              go_wp2_with fail
              refine OnlyN.mk ⟨hfy, ?_⟩
              clear hfy
              obtain ⟨g0, g1, g2, g3, g4, g5⟩ := HG.out y2 HL.out
              repeat (first | (apply sig_q; exact rfl; exact rfl; exact rfl; intro K hK; go_big_quiet_op; go_big_quiet_on) | (apply sig_skip; exact rfl; exact rfl; exact rfl; intro K hK; go_big_quiet_op; go_big_quiet_on))
              clear g0 g1 g2 g3 g4 g5
              have hc := a_enough bi bt be bn qa bps.length qc ma mc bl y2
              apply sig_m
              exact rfl
              go_wp2_with fail
              refine hc.mono ?_
              rintro en y3 ⟨rfl, hfy⟩
              have HL := Lib.hid (HL.out.step hfy (fun _ _ h => h))
              clear hc
              go_wp2_with fail
              refine OnlyN.mk ⟨hfy, ?_⟩
              clear hfy
              obtain ⟨g0, g1, g2, g3, g4, g5⟩ := HG.out y3 HL.out
              repeat (first | (apply sig_q; exact rfl; exact rfl; exact rfl; intro K hK; go_big_quiet_op; go_big_quiet_on) | (apply sig_skip; exact rfl; exact rfl; exact rfl; intro K hK; go_big_quiet_op; go_big_quiet_on))
              clear g0 g1 g2 g3 g4 g5
              have hc := r_enough bi bt be bn qa bps.length qc ma mc bl y3
              apply sig_m
              exact rfl
              go_wp2_with fail
              refine hc.mono ?_
              rintro en y4 ⟨rfl, hfy⟩
              have HL := Lib.hid (HL.out.step hfy (fun _ _ h => h))
              clear hc
              go_wp2_with fail
              refine OnlyN.mk ⟨hfy, ?_⟩
              clear hfy
              obtain ⟨g0, g1, g2, g3, g4, g5⟩ := HG.out y4 HL.out
              repeat (first | (apply sig_q; exact rfl; exact rfl; exact rfl; intro K hK; go_big_quiet_op; go_big_quiet_on) | (apply sig_skip; exact rfl; exact rfl; exact rfl; intro K hK; go_big_quiet_op; go_big_quiet_on))
              clear g0 g1 g2 g3 g4 g5
              have hc := a_must bi bt be bn qa bps.length qc ma mc bl ex xp y4
              apply sig_m
              exact rfl
              go_wp2_with fail
              refine hc.mono ?_
              rintro en y5 ⟨rfl, hfy⟩
              have HL := Lib.hid (HL.out.step hfy (fun _ _ h => h))
              clear hc
              go_wp2_with fail
              refine OnlyN.mk ⟨hfy, ?_⟩
              clear hfy
              obtain ⟨g0, g1, g2, g3, g4, g5⟩ := HG.out y5 HL.out
              repeat (first | (apply sig_q; exact rfl; exact rfl; exact rfl; intro K hK; go_big_quiet_op; go_big_quiet_on) | (apply sig_skip; exact rfl; exact rfl; exact rfl; intro K hK; go_big_quiet_op; go_big_quiet_on))
              clear g0 g1 g2 g3 g4 g5
              have hc := r_must bi bt be bn qa bps.length qc ma mc bl ex xp y5
              apply sig_m
              exact rfl
              go_wp2_with fail
              refine hc.mono ?_
              rintro en y6 ⟨rfl, hfy⟩
              have HL := Lib.hid (HL.out.step hfy (fun _ _ h => h))
              clear hc
              go_wp2_with fail
              refine OnlyN.mk ⟨hfy, ?_⟩
              clear hfy
              obtain ⟨g0, g1, g2, g3, g4, g5⟩ := HG.out y6 HL.out
              repeat (first | (apply sig_q; exact rfl; exact rfl; exact rfl; intro K hK; go_big_quiet_op; go_big_quiet_on) | (apply sig_skip; exact rfl; exact rfl; exact rfl; intro K hK; go_big_quiet_op; go_big_quiet_on))
              clear g0 g1 g2 g3 g4 g5
              have hc := a_want bi bt be bn rd qa bps.length qc ma mc bl y6 hsz (hS4.out.no HL.out (fun _ => id))
              obtain ⟨md, hmd⟩ : ∃ md, md = mdOf bi bl rd := ⟨_, rfl⟩
              have Hmd := Lib.hid hmd
              clear hmd
              rw [← Hmd.out, show md.vals = #[.string md.q, .string md.o, .string md.c, .int .i64 md.r] from rfl] at hc
              apply sig_m
              exact rfl
              go_wp2_with fail
              refine hc.mono ?_
              rintro en y7 ⟨rfl, hfy⟩
              have HL := Lib.hid (HL.out.step hfy (fun _ _ h => h))
              clear hc
              go_wp2_with fail
              refine OnlyN.mk ⟨hfy, ?_⟩
              clear hfy
              obtain ⟨g0, g1, g2, g3, g4, g5⟩ := HG.out y7 HL.out
              repeat (first | (apply sig_q; exact rfl; exact rfl; exact rfl; intro K hK; go_big_quiet_op; go_big_quiet_on) | (apply sig_skip; exact rfl; exact rfl; exact rfl; intro K hK; go_big_quiet_op; go_big_quiet_on))
              clear g0 g1 g2 g3 g4 g5
              have hc := r_want bi bt be bn rd qa bps.length qc ma mc bl y7 hsz (hS4.out.no HL.out (fun _ => id))
              rw [← Hmd.out, show md.vals = #[.string md.q, .string md.o, .string md.c, .int .i64 md.r] from rfl] at hc
              apply sig_m
              exact rfl
              go_wp2_with fail
              refine hc.mono ?_
              rintro en y8 ⟨rfl, hfy⟩
              have HL := Lib.hid (HL.out.step hfy (fun _ _ h => h))
              clear hc
              go_wp2_with fail
              refine OnlyN.mk ⟨hfy, ?_⟩
              clear hfy
              obtain ⟨g0, g1, g2, g3, g4, g5⟩ := HG.out y8 HL.out
              repeat (first | (apply sig_q; exact rfl; exact rfl; exact rfl; intro K hK; go_big_quiet_op; go_big_quiet_on) | (apply sig_skip; exact rfl; exact rfl; exact rfl; intro K hK; go_big_quiet_op; go_big_quiet_on))
              clear g0 g1 g2 g3 g4 g5
              refine sig_end ?_
              go_wp2_with fail
              go_roundw
              case rel => exact ⟨j + 1, by omega, by go_num, Hf2.out.step HL.out (fun _ _ h => h)⟩
              case measure => simp [intOf]; omega
            · obtain rfl : j = Q.length := by omega
              have hge : ¬ (Q.length : Int) < Q.length := by omega
              have hk := known32 wr (HEz.no hf)
              have hfw := Hfz.out.step hf (fun _ _ h => h)
              clear hAr hf HEz Hfz
              go_wp2_with fail
              refine hk.mono ?_
              rintro en w7 ⟨rfl, hf7⟩
              have hfin := Hw0.out.step (hfw.step hf7 (fun _ _ h => h)) (fun _ _ h => h)
              clear hk hf7 hfw
              go_wp2_with fail
              go_ret
              exact ⟨rfl, hfin⟩
      · go_wp2_with fail
        have hxx : Fr No w0 (w0.alloc (.cells #[.string ai, .slice pa ps.length pc, .int .i64 t, .int .i64 e, .int .i64 n, .slice la ins.length lc] 42)) := (Fr.refl _ _).alloc _
        have q6 := block_alloc w0 (.cells #[.string ai, .slice pa ps.length pc, .int .i64 t, .int .i64 e, .int .i64 n, .slice la ins.length lc] 42)
        refine OnlyN.mk ⟨(Fr.refl _ _).alloc _, ?_⟩
        obtain ⟨X1, hY⟩ : ∃ Y, Y = w0.alloc (.cells #[.string ai, .slice pa ps.length pc, .int .i64 t, .int .i64 e, .int .i64 n, .slice la ins.length lc] 42) := ⟨_, rfl⟩
        rw [← hY] at hxx q6 ⊢
        have HF : Fr No w0 X1 := HF.step hxx (fun _ _ h => h)
        clear hxx hY
        repeat (first | (apply tree_q; exact rfl; exact rfl; exact rfl; intro K hK; go_big_quiet_op; go_big_quiet_on) | (apply tree_skip; exact rfl; exact rfl; exact rfl; intro K hK; go_big_quiet_op; go_big_quiet_on))
        refine tree_m1 rfl ?_
        go_wp2_with fail
        have hxx : Fr No X1 (X1.alloc (.cells #[.slice za zl.length zc, .int .i64 0] 29)) := (Fr.refl _ _).alloc _
        have ht := Tape.make (hZ.no HF (fun _ => id)) 29
        refine OnlyN.mk ⟨(Fr.refl _ _).alloc _, ?_⟩
        obtain ⟨X2, hY⟩ : ∃ Y, Y = X1.alloc (.cells #[.slice za zl.length zc, .int .i64 0] 29) := ⟨_, rfl⟩
        rw [← hY] at hxx ht ⊢
        have htb : w0.heap.size ≤ X1.heap.size := HF.size
        have h62 := lt_of_block q6
        have q6 := hxx.heap q6 id
        have HF : Fr No w0 X2 := HF.step hxx (fun _ _ h => h)
        clear hxx hY
        repeat (first | (apply tree_q; exact rfl; exact rfl; exact rfl; intro K hK; go_big_quiet_op; go_big_quiet_on) | (apply tree_skip; exact rfl; exact rfl; exact rfl; intro K hK; go_big_quiet_op; go_big_quiet_on))
        refine tree_m1 rfl ?_
        have hms := made_mbs (X1.heap.size) (X1.heap.size) 0 7 X2 ht (by omega) (by omega)
        have htl := ht.lt
        go_wp2_with fail
        refine hms.mono ?_
        rintro en X3 ⟨⟨L, a1, c1, k1, rfl, hL, _, _, hLo, hLl, _, _, _⟩, hxx⟩
        clear hms ht
        go_wp2_with fail
        refine OnlyN.mk ⟨hxx.mono (fun b _ h => by unfold Is at h; unfold From; omega), ?_⟩
        have q6 := hxx.heap q6 (fun h => by unfold Is at h; omega)
        have HF : Fr No w0 X3 := HF.trans hxx (fun _ _ h => h) (fun b hb h => by unfold Is at h; omega)
        clear hxx
        repeat (first | (apply tree_q; exact rfl; exact rfl; exact rfl; intro K hK; go_big_quiet_op; go_big_quiet_on) | (apply tree_skip; exact rfl; exact rfl; exact rfl; intro K hK; go_big_quiet_op; go_big_quiet_on))
        refine tree_m1 rfl ?_
        have hEx := HE.out.fr HF (fun _ _ => id)
        obtain ⟨m0, hm0⟩ := hEx.len
        have hgb : w0.heap.size ≤ X3.heap.size := HF.size
        have hzz := hEx.sz
        have hgr := a_group a1 c1 L m0 X3 hL (mb_small hLo (by omega)) hm0 (by omega)
        clear hEx hm0
        go_wp2_with fail
        refine hgr.mono ?_
        rintro en X4 ⟨⟨oa, oc, O, ids, rfl, _, _, hOfr, hids, hOe, hOl, hOown⟩, hxx⟩
        have hOi : ∀ m ∈ O, m.i.size ≤ 1000000 := arrs_id (mb_small hLo (by omega)) hids hOe
        have hOn : O.length ≤ 1000 := by have h1 := congrArg List.length hOe; simp only [List.length_map] at h1; omega
        clear hgr hL hids hOe hOl
        go_wp2_with fail
        refine OnlyN.mk ⟨hxx.mono (fun _ _ h => h.elim), ?_⟩
        have q6 := hxx.heap q6 id
        have hgs := hxx.size
        have HF : Fr No w0 X4 := HF.step hxx (fun _ _ h => h)
        clear hxx
        repeat (first | (apply tree_q; exact rfl; exact rfl; exact rfl; intro K hK; go_big_quiet_op; go_big_quiet_on) | (apply tree_skip; exact rfl; exact rfl; exact rfl; intro K hK; go_big_quiet_op; go_big_quiet_on))
        refine tree_m1 rfl ?_
        have hsX : X3.heap.size ≤ X4.heap.size := by have := HF.size; first | omega | (have h6 := lt_of_block q6; omega)
        have Hown := Lib.hid hOown
        go_wp2_with (at_builtin; refine wpList_append_own _ rfl _ _ 61 rfl (X3.heap.size) 42 i0 (.agg #[.string ByteArray.empty, .slice none 0 0, .int .i64 0, .int .i64 0, .int .i64 0, .slice none 0 0]) 6 88 Tryz.underlying61 hi0 hz0 hz1 hz2 rfl (by decide) _ _ _ rfl hOown ⟨w0.heap.size, 0, none⟩ 1 1 (ArrM.vals (⟨⟨ai, ps, t, e, n, ins⟩, pa, pc, la, lc⟩ : ArrM)).toList rfl rfl (cells_at q6) (arvals_one _) (by unfold maxLen; omega) (by omega) (by first | omega | (simp; done) | (simp; omega)) ?_; intro v' X9 hown9 hgrow9 _; obtain ⟨av', cv', rfl⟩ := ownsRow_slice hown9)
        have hgf : Fr (fun b => (Value.slice oa O.length oc).ownBlock = some b) X4 X9 := Fr.of_grown hgrow9
        refine OnlyN.mk ⟨hgf.mono (fun b _ h => by have := ownsRow_blk Hown.out h; unfold From at *; omega), ?_⟩
        obtain ⟨Q, hQ⟩ : ∃ Q, Q = O ++ [(⟨⟨ai, ps, t, e, n, ins⟩, pa, pc, la, lc⟩ : ArrM)] := ⟨_, rfl⟩
        have hQl : O.length + 1 = Q.length := by rw [hQ]; simp
        have HF : Fr No w0 X9 := HF.trans hgf (fun _ _ h => h) (fun b hb h => by have := ownsRow_blk Hown.out h; unfold From at this; omega)
        have HQ : ∀ m ∈ Q, (Strs X9 m.pa m.pc m.ps ∧ Strs X9 m.la m.lc m.l) ∧ m.i.size ≤ 1000000 := fun m hm => by
          rw [hQ] at hm
          rcases List.mem_append.1 hm with h | h
          · exact ⟨(hOfr.own Hown.out hgf m h).1, hOi m h⟩
          · obtain rfl := List.mem_singleton.1 h
            exact ⟨⟨hSA.out.1.no HF (fun _ => id), hSA.out.2.no HF (fun _ => id)⟩, hai⟩
        have hownQ : X9.ownsRow (X3.heap.size) 42 6 (.slice av' Q.length cv') Q.length (arflat Q) := by rw [← hQl, hQ, arflat_snoc]; exact hown9
        rw [hQl]
        clear hown9 hgrow9 hgf hOown hOfr Hown q6 hQ hQl hOi hOn
        repeat (first | (apply tree_q; exact rfl; exact rfl; exact rfl; intro K hK; go_big_quiet_op; go_big_quiet_on) | (apply tree_skip; exact rfl; exact rfl; exact rfl; intro K hK; go_big_quiet_op; go_big_quiet_on))
        refine tree_end ?_
        obtain ⟨a6, c6, e6, hAr, _⟩ := Arrs.of_own hownQ (fun m hm => (HQ m hm).1)
        cases e6
        have HQ2 := Lib.hid (fun m hm => (HQ m hm).2)
        have Hfz := Lib.hid HF
        have HEz := HE.out.fr HF (fun _ _ => id)
        have hqm := hAr.lenmax
        clear HQ HF hownQ
        go_wp2_with fail
        go_loopw [12] (fun i wr => ∃ j : Nat, j ≤ Q.length ∧ i = .int .i64 (j : Int) ∧ Fr No X9 wr) (fun i _ => Q.length - (intOf i).toNat)
        case atStart => exact ⟨0, by omega, rfl, Fr.refl _ _⟩
        case round =>
          obtain ⟨j, hj, rfl, hf⟩ := hrel
          by_cases hlt : j < Q.length
          · have hlt' : (j : Int) < Q.length := by omega
            obtain ⟨pb, po, B, rfl, hBj, ⟨hS1, hS2⟩, ⟨c0, c1, c2, c3, c4, c5⟩, _⟩ := (hAr.no hf (fun _ => id)).elem hlt
            have hsz := HQ2.out B (List.mem_of_getElem? hBj)
            obtain ⟨⟨bi, bps, bt, be, bn, bl⟩, qa, qc, ma, mc⟩ := B
            simp only at c0 c1 c2 c3 c4 c5 hS1 hS2 hsz
            have hal : Fr No wr (wr.alloc (.cells #[.string bi, .slice qa bps.length qc, .int .i64 bt, .int .i64 be, .int .i64 bn, .slice ma bl.length mc] 42)) := (Fr.refl _ _).alloc _
            have q13 := block_alloc wr (.cells #[.string bi, .slice qa bps.length qc, .int .i64 bt, .int .i64 be, .int .i64 bn, .slice ma bl.length mc] 42)
            obtain ⟨W1, hW1⟩ : ∃ W1, W1 = wr.alloc (.cells #[.string bi, .slice qa bps.length qc, .int .i64 bt, .int .i64 be, .int .i64 bn, .slice ma bl.length mc] 42) := ⟨_, rfl⟩
            rw [← hW1] at hal q13
            have hS3 := hS2.no hal (fun _ => id)
            have Hf1 := Lib.hid (hf.step hal (fun _ _ h => h))
            clear hal hf hBj hS1 hS2
            go_upto_region 8 with (fail)
            rw [← hW1]
            clear hW1 c0 c1 c2 c3 c4 c5
            refine region_sig No [(0, false), (2, false), (1, true), (3, true), (4, false), (5, false), (6, false), (8, false), (7, true), (9, true), (10, false), (11, false), (12, false), (13, false), (14, false), (15, false), (17, false), (18, false), (19, false), (16, true), (20, true), (21, false), (22, false), (23, false), (24, false), (25, false), (27, false), (28, false), (26, true), (29, true), (30, false), (31, false)] (by kernel_rfl) (by kernel_rfl) (fun w0 hf0 => ?_)
            have q14 := hf0.heap q13 id
            have hS4 := Lib.hid (hS3.no hf0 (fun _ => id))
            have Hf2 := Lib.hid (Hf1.out.step hf0 (fun _ _ h => h))
            have hG : ∀ (W : World), Fr No w0 W → (∀ g : Gr No W, g.W.cell? ⟨wr.heap.size, 0, none⟩ = some (.string bi)) ∧ (∀ g : Gr No W, g.W.cell? ⟨wr.heap.size, 1, none⟩ = some (.slice qa bps.length qc)) ∧ (∀ g : Gr No W, g.W.cell? ⟨wr.heap.size, 2, none⟩ = some (.int .i64 bt)) ∧ (∀ g : Gr No W, g.W.cell? ⟨wr.heap.size, 3, none⟩ = some (.int .i64 be)) ∧ (∀ g : Gr No W, g.W.cell? ⟨wr.heap.size, 4, none⟩ = some (.int .i64 bn)) ∧ (∀ g : Gr No W, g.W.cell? ⟨wr.heap.size, 5, none⟩ = some (.slice ma bl.length mc)) := fun W h =>
              ⟨fun g => g.fr.cell (cell_of_block (h.heap q14 id) 0) id, fun g => g.fr.cell (cell_of_block (h.heap q14 id) 1) id, fun g => g.fr.cell (cell_of_block (h.heap q14 id) 2) id, fun g => g.fr.cell (cell_of_block (h.heap q14 id) 3) id, fun g => g.fr.cell (cell_of_block (h.heap q14 id) 4) id, fun g => g.fr.cell (cell_of_block (h.heap q14 id) 5) id⟩
            have HG := Lib.hid hG
            obtain ⟨g0, g1, g2, g3, g4, g5⟩ := hG w0 (Fr.refl _ _)
            clear q13 q14 hf0 Hf1 hG hS3
            repeat (first | (apply sig_q; exact rfl; exact rfl; exact rfl; intro K hK; go_big_quiet_op; go_big_quiet_on) | (apply sig_skip; exact rfl; exact rfl; exact rfl; intro K hK; go_big_quiet_op; go_big_quiet_on))
            clear g0 g1 g2 g3 g4 g5
            have hc := a_whole bi bt be bn qa bps.length qc ma mc bl w0
            apply sig_m
            exact rfl
            go_wp2_with fail
            refine hc.mono ?_
            rintro en y1 ⟨rfl, hfy⟩
            have HL := Lib.hid hfy
            clear hc
            go_wp2_with fail
            refine OnlyN.mk ⟨hfy, ?_⟩
            clear hfy
            obtain ⟨g0, g1, g2, g3, g4, g5⟩ := HG.out y1 HL.out
            repeat (first | (apply sig_q; exact rfl; exact rfl; exact rfl; intro K hK; go_big_quiet_op; go_big_quiet_on) | (apply sig_skip; exact rfl; exact rfl; exact rfl; intro K hK; go_big_quiet_op; go_big_quiet_on))
            clear g0 g1 g2 g3 g4 g5
            have hc := r_whole bi bt be bn qa bps.length qc ma mc bl y1
            apply sig_m
            exact rfl
            go_wp2_with fail
            refine hc.mono ?_
            rintro en y2 ⟨rfl, hfy⟩
            have HL := Lib.hid (HL.out.step hfy (fun _ _ h => h))
            clear hc
            go_wp2_with fail
            refine OnlyN.mk ⟨hfy, ?_⟩
            clear hfy
            obtain ⟨g0, g1, g2, g3, g4, g5⟩ := HG.out y2 HL.out
            repeat (first | (apply sig_q; exact rfl; exact rfl; exact rfl; intro K hK; go_big_quiet_op; go_big_quiet_on) | (apply sig_skip; exact rfl; exact rfl; exact rfl; intro K hK; go_big_quiet_op; go_big_quiet_on))
            clear g0 g1 g2 g3 g4 g5
            have hc := a_enough bi bt be bn qa bps.length qc ma mc bl y2
            apply sig_m
            exact rfl
            go_wp2_with fail
            refine hc.mono ?_
            rintro en y3 ⟨rfl, hfy⟩
            have HL := Lib.hid (HL.out.step hfy (fun _ _ h => h))
            clear hc
            go_wp2_with fail
            refine OnlyN.mk ⟨hfy, ?_⟩
            clear hfy
            obtain ⟨g0, g1, g2, g3, g4, g5⟩ := HG.out y3 HL.out
            repeat (first | (apply sig_q; exact rfl; exact rfl; exact rfl; intro K hK; go_big_quiet_op; go_big_quiet_on) | (apply sig_skip; exact rfl; exact rfl; exact rfl; intro K hK; go_big_quiet_op; go_big_quiet_on))
            clear g0 g1 g2 g3 g4 g5
            have hc := r_enough bi bt be bn qa bps.length qc ma mc bl y3
            apply sig_m
            exact rfl
            go_wp2_with fail
            refine hc.mono ?_
            rintro en y4 ⟨rfl, hfy⟩
            have HL := Lib.hid (HL.out.step hfy (fun _ _ h => h))
            clear hc
            go_wp2_with fail
            refine OnlyN.mk ⟨hfy, ?_⟩
            clear hfy
            obtain ⟨g0, g1, g2, g3, g4, g5⟩ := HG.out y4 HL.out
            repeat (first | (apply sig_q; exact rfl; exact rfl; exact rfl; intro K hK; go_big_quiet_op; go_big_quiet_on) | (apply sig_skip; exact rfl; exact rfl; exact rfl; intro K hK; go_big_quiet_op; go_big_quiet_on))
            clear g0 g1 g2 g3 g4 g5
            have hc := a_must bi bt be bn qa bps.length qc ma mc bl ex xp y4
            apply sig_m
            exact rfl
            go_wp2_with fail
            refine hc.mono ?_
            rintro en y5 ⟨rfl, hfy⟩
            have HL := Lib.hid (HL.out.step hfy (fun _ _ h => h))
            clear hc
            go_wp2_with fail
            refine OnlyN.mk ⟨hfy, ?_⟩
            clear hfy
            obtain ⟨g0, g1, g2, g3, g4, g5⟩ := HG.out y5 HL.out
            repeat (first | (apply sig_q; exact rfl; exact rfl; exact rfl; intro K hK; go_big_quiet_op; go_big_quiet_on) | (apply sig_skip; exact rfl; exact rfl; exact rfl; intro K hK; go_big_quiet_op; go_big_quiet_on))
            clear g0 g1 g2 g3 g4 g5
            have hc := r_must bi bt be bn qa bps.length qc ma mc bl ex xp y5
            apply sig_m
            exact rfl
            go_wp2_with fail
            refine hc.mono ?_
            rintro en y6 ⟨rfl, hfy⟩
            have HL := Lib.hid (HL.out.step hfy (fun _ _ h => h))
            clear hc
            go_wp2_with fail
            refine OnlyN.mk ⟨hfy, ?_⟩
            clear hfy
            obtain ⟨g0, g1, g2, g3, g4, g5⟩ := HG.out y6 HL.out
            repeat (first | (apply sig_q; exact rfl; exact rfl; exact rfl; intro K hK; go_big_quiet_op; go_big_quiet_on) | (apply sig_skip; exact rfl; exact rfl; exact rfl; intro K hK; go_big_quiet_op; go_big_quiet_on))
            clear g0 g1 g2 g3 g4 g5
            have hc := a_want bi bt be bn rd qa bps.length qc ma mc bl y6 hsz (hS4.out.no HL.out (fun _ => id))
            obtain ⟨md, hmd⟩ : ∃ md, md = mdOf bi bl rd := ⟨_, rfl⟩
            have Hmd := Lib.hid hmd
            clear hmd
            rw [← Hmd.out, show md.vals = #[.string md.q, .string md.o, .string md.c, .int .i64 md.r] from rfl] at hc
            apply sig_m
            exact rfl
            go_wp2_with fail
            refine hc.mono ?_
            rintro en y7 ⟨rfl, hfy⟩
            have HL := Lib.hid (HL.out.step hfy (fun _ _ h => h))
            clear hc
            go_wp2_with fail
            refine OnlyN.mk ⟨hfy, ?_⟩
            clear hfy
            obtain ⟨g0, g1, g2, g3, g4, g5⟩ := HG.out y7 HL.out
            repeat (first | (apply sig_q; exact rfl; exact rfl; exact rfl; intro K hK; go_big_quiet_op; go_big_quiet_on) | (apply sig_skip; exact rfl; exact rfl; exact rfl; intro K hK; go_big_quiet_op; go_big_quiet_on))
            clear g0 g1 g2 g3 g4 g5
            have hc := r_want bi bt be bn rd qa bps.length qc ma mc bl y7 hsz (hS4.out.no HL.out (fun _ => id))
            rw [← Hmd.out, show md.vals = #[.string md.q, .string md.o, .string md.c, .int .i64 md.r] from rfl] at hc
            apply sig_m
            exact rfl
            go_wp2_with fail
            refine hc.mono ?_
            rintro en y8 ⟨rfl, hfy⟩
            have HL := Lib.hid (HL.out.step hfy (fun _ _ h => h))
            clear hc
            go_wp2_with fail
            refine OnlyN.mk ⟨hfy, ?_⟩
            clear hfy
            obtain ⟨g0, g1, g2, g3, g4, g5⟩ := HG.out y8 HL.out
            repeat (first | (apply sig_q; exact rfl; exact rfl; exact rfl; intro K hK; go_big_quiet_op; go_big_quiet_on) | (apply sig_skip; exact rfl; exact rfl; exact rfl; intro K hK; go_big_quiet_op; go_big_quiet_on))
            clear g0 g1 g2 g3 g4 g5
            refine sig_end ?_
            go_wp2_with fail
            go_roundw
            case rel => exact ⟨j + 1, by omega, by go_num, Hf2.out.step HL.out (fun _ _ h => h)⟩
            case measure => simp [intOf]; omega
          · obtain rfl : j = Q.length := by omega
            have hge : ¬ (Q.length : Int) < Q.length := by omega
            have hk := known32 wr (HEz.no hf)
            have hfw := Hfz.out.step hf (fun _ _ h => h)
            clear hAr hf HEz Hfz
            go_wp2_with fail
            refine hk.mono ?_
            rintro en w7 ⟨rfl, hf7⟩
            have hfin := Hw0.out.step (hfw.step hf7 (fun _ _ h => h)) (fun _ _ h => h)
            clear hk hf7 hfw
            go_wp2_with fail
            go_ret
            exact ⟨rfl, hfin⟩
    · have h2' : (200 : Int) < ai.size := by omega
      go_wp2_with fail
      refine hkn.mono ?_
      rintro en wf ⟨rfl, hff⟩
      have hfin := Hx.out.step hff (fun _ _ h => h)
      clear hkn hff
      go_wp2_with fail
      go_ret
      exact ⟨rfl, hfin⟩
  · have h1' : (50 : Int) < ins.length := by omega
    go_wp2_with fail
    refine hkn.mono ?_
    rintro en wf ⟨rfl, hff⟩
    have hfin := Hx.out.step hff (fun _ _ h => h)
    clear hkn hff
    go_wp2_with fail
    go_ret
    exact ⟨rfl, hfin⟩
end Go.Proofs.YtbblkknndaoefaaGreatDoor
namespace Go.Proofs.YtbblkknndaoefaaGreatDoor.arrayMusts
open Go.ChangeShapes Go.WideShapes Go.ChangeAt Go.RowKit
open Go.ChangeMaps (open_string shut_string)
set_option linter.unusedVariables false

theorem own : ownKnob Tryz.prog.godebug = none := by kernel_rfl
theorem laidOut : laidOutB Tryz.prog = true := by kernel_rfl

set_option maxRecDepth 100000 in
theorem lifted (os : Os) (started : os.Started) (H : Type) (enc : TypeId × Value → H) :
    ReturnsInHanded {} Tryz.checked os 14 .any (fun w args => (Rows.arrayMustsSpec.pre enc Tryz.prog Tryz.f14 Rows.arrayMustsRow.domain false w args ∧ laidMetH Tryz.prog Rows.arrayMustsRow.laid w) ∧ sizedMet enc Tryz.prog Tryz.f14 (OpenSpec.ofChange Rows.arrayMustsSpec) false w args)
      (Rows.arrayMustsSpec.post enc Tryz.prog Tryz.f14 false true false false) := by
  refine returns_laid_sized (C := Tryz.checked) (X := fun w _ => laidMetH Tryz.prog Rows.arrayMustsRow.laid w) (fun _ _ _ hh h => h.of_heap hh) own started (by kernel_rfl) Tryz.func14
    (ChangeSpec.witness_shaped (enc := enc) (C := Tryz.checked) (os := os) (X := fun w _ => laidMetH Tryz.prog Rows.arrayMustsRow.laid w) false (World.laidAll Tryz.prog os Rows.arrayMustsRow.laid) #[.slice none 0 0, .agg #[.string ⟨#[]⟩, .slice none 0 0, .int .i64 0, .int .i64 0, .int .i64 0, .slice none 0 0], .bool false, .bool false, .int .i64 0] 8 (World.laidAll_os _ _ _)
      (World.shaped_of_ZipB (by kernel_rfl) (by kernel_rfl)) (by kernel_rfl) (by kernel_rfl) (by kernel_rfl)
      (by rw [MakeChecks.laidMetH_plain _ _ _ (by kernel_rfl)]; exact laidMet_laidAll _ (by kernel_rfl) (by kernel_rfl))) ?_
  intro W base args ds gs before hval0 hW hz hL hsh
  have hval : ∀ (j : Nat) t v, Tryz.f14.params[j]? = some t → args[j]? = some v → Value.okWide Tryz.prog W .any base t v := hval0
  have hW' := hW
  obtain ⟨p, q, hA0, hV, rfl, hfz, hnd⟩ := hW
  have hA : DataW.TrodAll enc Tryz.prog W 0 (fun _ => true) true Tryz.f14.params.toList args.toList ds p := hA0
  have hsz : ∀ (j : Nat) (t : TypeId) (d : DataW H), (Tryz.f14.params.toList ++ (OpenSpec.ofChange Rows.arrayMustsSpec).bare.plain.varTypes Tryz.prog)[j]? = some t → (ds ++ gs)[j]? = some d → Wt t d := fun j t d h1 h2 => wt_each hz h1 h2
  rw [Tryz.params14] at hA hval hsz
  obtain ⟨v0, vs0, d0, ds0, p0, q0, hargs, rfl, rfl, h0, r0⟩ := trodAll_cons hA
  obtain ⟨v1, vs1, d1, ds1, p1, q1, rfl, rfl, rfl, h1, r1⟩ := trodAll_cons r0
  obtain ⟨v2, vs2, d2, ds2, p2, q2, rfl, rfl, rfl, h2, r2⟩ := trodAll_cons r1
  obtain ⟨v3, vs3, d3, ds3, p3, q3, rfl, rfl, rfl, h3, r3⟩ := trodAll_cons r2
  obtain ⟨v4, vs4, d4, ds4, p4, q4, rfl, rfl, rfl, h4, r4⟩ := trodAll_cons r3
  obtain ⟨rfl, rfl, rfl⟩ := trodAll_nil r4
  obtain rfl : args = #[v0, v1, v2, v3, v4] := by cases args; simp_all
  obtain ⟨rfl, rfl⟩ := trodVars_none hV
  have z0 : Wt 22 d0 := hsz 0 _ _ rfl rfl
  have z1 : Wt 42 d1 := hsz 1 _ _ rfl rfl
  have z2 : Wt 4 d2 := hsz 2 _ _ rfl rfl
  have z3 : Wt 4 d3 := hsz 3 _ _ rfl rfl
  have z4 : Wt 3 d4 := hsz 4 _ _ rfl rfl
  clear hsz hz
  obtain ⟨a0, len0, cap0, rfl⟩ := okWide_slice Tryz.underlying22 (hval 0 22 v0 rfl rfl)
  have k0 := h0
  have lt0 : ∀ x ∈ p0, x.block < W.heap.size := by obtain ⟨m, hm⟩ := k0; exact DataW.trod_lt m _ _ _ hm
  obtain ⟨l0, rfl, hl0⟩ : ∃ l : List Int, l.length = len0 ∧ Ints W a0 cap0 l := by
    obtain ⟨fuel, hf⟩ := h0
    rcases open_ints Tryz.underlying22 Tryz.underlying3 (by kernel_rfl) hf with ⟨hcs, _⟩ | ⟨x, l, c, zs, hcs, _, hl, hm, hz, _, hcell, hwz⟩
    · simp [Value.cells] at hcs
      obtain ⟨rfl, rfl, rfl⟩ := hcs
      exact Ints.of_isRow (zs := []) (.inl ⟨rfl, rfl, rfl, rfl⟩)
    · simp [Value.cells] at hcs
      obtain ⟨rfl, rfl, rfl⟩ := hcs
      exact Ints.of_isRow (zs := zs) (.inr ⟨_, rfl, hl, hm, by simpa using hz, hcell, hwz⟩)
  obtain ⟨cs1, rfl, _⟩ := okWide_struct Tryz.underlying42 (hval 1 42 v1 rfl rfl)
  have k1 := h1
  have lt1 : ∀ x ∈ p1, x.block < W.heap.size := by obtain ⟨m, hm⟩ := k1; exact DataW.trod_lt m _ _ _ hm
  obtain ⟨a1, e1, hl1, b1⟩ : ∃ m : ArrM, cs1 = m.vals ∧ (Strs W m.pa m.pc m.ps ∧ Strs W m.la m.lc m.l) ∧ ArrIn m := by
    obtain ⟨fuel, hf⟩ := h1
    obtain ⟨m, hcs, h1, h2⟩ := open_arr_raw hf z1
    refine ⟨m, ?_, h1, h2⟩
    simp [Value.cells] at hcs
    exact hcs
  subst e1
  obtain ⟨a2, rfl, rfl, rfl⟩ := open_bool Tryz.underlying4 (hval 2 4 v2 rfl rfl) h2
  obtain ⟨a3, rfl, rfl, rfl⟩ := open_bool Tryz.underlying4 (hval 3 4 v3 rfl rfl) h3
  obtain ⟨a4, rfl, rfl, rfl, w4⟩ := open_int Tryz.underlying3 (hval 4 3 v4 rfl rfl) h4
  rw [MakeChecks.laidMetH_plain _ _ _ (by kernel_rfl)] at hL
  have hE := env_of hsh hL
  clear hA0 hval0
  refine (amusts_walk a0 cap0 l0 a1 a2 a3 a4 W hl0 hl1 b1 w4 hE).mono fun e W' ⟨he, hfr⟩ => ?_
  have bel : Below W.heap.size W W' := hfr.below (Nat.le_refl _) (fun b hb e => e)
  subst he
  exact ⟨_, rfl, _, _, _, [], _, [], hW', trodAll_mk1 (shut_bool Tryz.underlying4 _), (trodAll_cons_mk (Below.trod laidOut (by kernel_rfl) (of_decide_eq_true (by kernel_rfl)) k0 bel lt0) (trodAll_cons_mk (Below.trod laidOut (by kernel_rfl) (of_decide_eq_true (by kernel_rfl)) k1 bel lt1) (trodAll_cons_mk (shut_bool Tryz.underlying4 a2) (trodAll_cons_mk (shut_bool Tryz.underlying4 a3) (trodAll_cons_mk (shut_int Tryz.underlying3 w4) trodAll_mk0))))), rfl, bel.frame _, fun h => by cases h⟩

theorem isNamed : Tryz.pinned.checked.prog.funcNamed Rows.arrayMustsRow.func = some 14 := by kernel_rfl
theorem and2 {a b : Bool} (h : a = true) (k : b = true) : (a && b) = true := by rw [h, k]; rfl
theorem c0 : (Rows.arrayMustsRow.wf (OpenSpec.ofChange Rows.arrayMustsSpec)) = true := by kernel_rfl
theorem c1 : (laidOutB Tryz.pinned.checked.prog) = true := by kernel_rfl
theorem c2 : (mapsRowed Tryz.pinned.checked.prog) = true := by kernel_rfl
theorem c3 : (Tryz.f14.params.all (Tryz.pinned.checked.prog.readableRec ·)) = true := by kernel_rfl
theorem c4 : (namedTie Tryz.pinned.checked.prog Rows.arrayMustsRow.named Rows.arrayMustsSpec.vars) = true := by kernel_rfl
theorem c5 : ((Rows.arrayMustsRow.stops == [])) = true := by kernel_rfl
theorem c6 : ((Tryz.pinned.checked.prog.stops == [])) = true := by kernel_rfl
theorem c7 : ((Rows.arrayMustsRow.knobs == [])) = true := by kernel_rfl
theorem c8 : ((Tryz.pinned.checked.prog.stopKnobs == [])) = true := by kernel_rfl
theorem c9 : ((Rows.arrayMustsRow.inPlace == Tryz.pinned.checked.prog.inPlace 14)) = true := by kernel_rfl
theorem c10 : ((Rows.arrayMustsRow.unfollowed == Tryz.pinned.checked.prog.unfollowed 14)) = true := by kernel_rfl
theorem c11 : ((Rows.arrayMustsRow.recurses == Tryz.pinned.checked.prog.recurses 14)) = true := by kernel_rfl
theorem c12 : ((Rows.arrayMustsRow.named == Tryz.pinned.checked.prog.varsNamed 14)) = true := by kernel_rfl
theorem c13 : ((Rows.arrayMustsRow.maps == (Tryz.f14.params.toList ++ Rows.arrayMustsSpec.plain.varTypes Tryz.pinned.checked.prog).any (Tryz.pinned.checked.prog.mapsRec ·))) = true := by kernel_rfl
theorem c14 : ((Rows.arrayMustsRow.ifaces == (Tryz.f14.params.toList ++ Rows.arrayMustsSpec.plain.varTypes Tryz.pinned.checked.prog).any (Tryz.pinned.checked.prog.ifacesRec ·))) = true := by kernel_rfl
theorem c15 : ((Rows.arrayMustsRow.mapsOut == Tryz.pinned.checked.prog.mapsAmong Tryz.f14.resultTypes.toList)) = true := by kernel_rfl
theorem c16 : ((Rows.arrayMustsRow.loops == (Tryz.f14.params.toList ++ Rows.arrayMustsSpec.plain.varTypes Tryz.pinned.checked.prog).any (Tryz.pinned.checked.prog.loopsFrom ·))) = true := by kernel_rfl
theorem c17 : ((Rows.arrayMustsRow.wideKeys == (Tryz.f14.params.toList ++ Rows.arrayMustsSpec.plain.varTypes Tryz.pinned.checked.prog ++ Tryz.f14.resultTypes.toList).any (Tryz.pinned.checked.prog.wideKeysFrom ·))) = true := by kernel_rfl
theorem c18 : (Rows.arrayMustsSpec.vars.all (Tryz.pinned.checked.prog.varReadable ·)) = true := by kernel_rfl
theorem c19 : (Tryz.f14.resultTypes.all (fun t => Tryz.pinned.checked.prog.readableRec t && decide (t < Tryz.pinned.checked.prog.types.size))) = true := by kernel_rfl
theorem c20 : ((Rows.arrayMustsRow.ifacesOut == Tryz.f14.resultTypes.toList.any (Tryz.pinned.checked.prog.ifacesRec ·))) = true := by kernel_rfl
theorem c21 : ((Rows.arrayMustsRow.loopsOut == Tryz.f14.resultTypes.toList.any (Tryz.pinned.checked.prog.loopsFrom ·))) = true := by kernel_rfl
theorem c22 : ((Rows.arrayMustsRow.plainKeys == Tryz.pinned.checked.prog.plainKeys)) = true := by kernel_rfl
theorem c23 : (Rows.arrayMustsRow.shortTexts.isNone) = true := by kernel_rfl
theorem c24 : (Tryz.pinned.checked.prog.stopsHeard) = true := by kernel_rfl
theorem c25 : (Tryz.pinned.checked.prog.mayEnter) = true := by kernel_rfl
theorem c26 : ((Rows.arrayMustsRow.lifted == Tryz.pinned.checked.prog.liftsFinal)) = true := by kernel_rfl
theorem c27 : ((Tryz.pinned.checked.prog.make == some Rows.arrayMustsRow.make)) = true := by kernel_rfl
theorem c28 : ((Rows.arrayMustsRow.kinds == (if Rows.arrayMustsRow.domain.isEmpty then [] else Tryz.f14.params.toList.map fun t => match Tryz.pinned.checked.prog.underlying t with | some (.int k) => some k | _ => none))) = true := by kernel_rfl
theorem c29 : ((Rows.arrayMustsRow.pinned == Rows.arrayMustsRow.pinnedBy)) = true := by kernel_rfl
theorem c30 : ((Rows.arrayMustsRow.veiled == (Tryz.f14.params.toList ++ Rows.arrayMustsSpec.plain.varTypes Tryz.pinned.checked.prog ++ Tryz.f14.resultTypes.toList).any (Tryz.pinned.checked.prog.veiledRec ·))) = true := by kernel_rfl
theorem c31 : (Rows.arrayMustsRow.veiledFits Tryz.pinned.checked.prog Tryz.f14.params.toList (Tryz.f14.params.toList ++ Rows.arrayMustsSpec.plain.varTypes Tryz.pinned.checked.prog ++ Tryz.f14.resultTypes.toList)) = true := by kernel_rfl
set_option maxRecDepth 100000 in
theorem closed : joinedFacts Tryz.pinned.checked.prog 14 Tryz.f14 Rows.arrayMustsSpec Rows.arrayMustsRow = true := by
  unfold joinedFacts
  exact (and2 (and2 (and2 (and2 (and2 (and2 (and2 (and2 (and2 (and2 (and2 (and2 (and2 (and2 (and2 (and2 (and2 (and2 (and2 (and2 (and2 (and2 (and2 (and2 (and2 (and2 (and2 (and2 (and2 (and2 (and2 c0 c1) c2) c3) c4) c5) c6) c7) c8) c9) c10) c11) c12) c13) c14) c15) c16) c17) c18) c19) c20) c21) c22) c23) c24) c25) c26) c27) c28) c29) c30) c31)
theorem inst : Tryz.f14.isInstance Tryz.pinned.checked.prog Rows.arrayMustsRow.origin Rows.arrayMustsRow.targs := of_decide_eq_true (by kernel_rfl)
theorem wrap : Tryz.f14.isWrapper Tryz.pinned.checked.prog Rows.arrayMustsRow.wrapper Rows.arrayMustsRow.mainSum := by
  unfold Func.isWrapper; first | (rw [if_pos (by decide +kernel)]; kernel_rfl) | (rw [if_neg (by decide +kernel)]; exact ⟨rfl, rfl⟩)
theorem over : Rows.arrayMustsRow.holds Tryz.pinned (OpenSpec.ofChange Rows.arrayMustsSpec) :=
  OpenClaim.holds_of_wide 14 Tryz.f14 rfl rfl rfl rfl rfl rfl rfl ⟨rfl, rfl, rfl, rfl, rfl⟩ rfl rfl rfl rfl rfl isNamed Tryz.func14 closed inst wrap
    (fun os started H enc _ => lifted os started H enc)

theorem t1 : Rows.arrayMustsRow.wfByText (OpenSpec.ofChange Rows.arrayMustsSpec) = true := by kernel_rfl
theorem t2 : Tryz.pinned.checked.prog.mainIs = some ((true, "7c35bbe876a6797357c7d4d4c7eda80dfa3d5b512daa5cf20d9229a0a48d5af4").1, (true, "7c35bbe876a6797357c7d4d4c7eda80dfa3d5b512daa5cf20d9229a0a48d5af4").2.toList) := by kernel_rfl
theorem t3 : true = Tryz.pinned.checked.prog.looks [] := by kernel_rfl
theorem t4 : false = Rows.arrayMustsRow.goesBy Tryz.pinned.checked.prog := by kernel_rfl
theorem t5 : Tryz.prog.funcNamed "coldplug/coldpluglaw32.ArrayMusts" = some 14 := by kernel_rfl
theorem t6 : ([22, 42, 4, 4, 3].all fun u => !Tryz.prog.wantsStandIn u) = true := by kernel_rfl
theorem proved : Rows.ArrayMustsCardSaid :=
  Claim7.holds_tied_plain_at .later [] [.data, .data, .data, .data, .sentinel, .sentinel, .pinned, .pinned] true (true, "7c35bbe876a6797357c7d4d4c7eda80dfa3d5b512daa5cf20d9229a0a48d5af4") true over (fun _ h => by cases h) t1 (fun _ h => by cases h) arrayMusts_row_tie rfl ⟨rfl, rfl⟩ t2 rfl
    (fun f fn hf hfn => by
      obtain rfl : f = 14 := Option.some.inj (t5.symm.trans hf) |>.symm
      obtain rfl : fn = Tryz.f14 := (Option.some.inj (Tryz.func14.symm.trans hfn)).symm
      exact ⟨t3, fun j t ht => by
        rw [Tryz.params14] at ht
        have hm : t ∈ [22, 42, 4, 4, 3] := by simpa using Array.mem_of_getElem? ht
        have hall : ([22, 42, 4, 4, 3].all fun u => !Tryz.prog.wantsStandIn u) = true := t6
        exact (show Tryz.prog.wantsStandIn t = false by simpa using List.all_eq_true.1 hall t hm)⟩)
    t4
#print axioms proved
end Go.Proofs.YtbblkknndaoefaaGreatDoor.arrayMusts
