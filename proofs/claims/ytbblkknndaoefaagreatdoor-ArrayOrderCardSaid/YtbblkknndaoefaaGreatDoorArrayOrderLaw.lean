/- The law ArrayOrder returns true at every input and leaves its arguments as they were. Conditions: none beyond the given statement's own. -/
import Derived.Test.YtbblkknndaoefaaGreatDoorZA13
import Derived.Test.YtbblkknndaoefaaGreatDoorZA23
import Derived.Test.YtbblkknndaoefaaGreatDoorZA24
import Derived.Test.YtbblkknndaoefaaGreatDoorZA25
import Derived.Test.YtbblkknndaoefaaGreatDoorZA20
import Derived.Test.YtbblkknndaoefaaGreatDoorCards
import Derived.Test.YtbblkknndaoefaaGreatDoorTie
import Derived.WalkKit
import Derived.ProofKit
import Derived.OpenShut
import Derived.ShutString
import Derived.ChangeOld
import Derived.Below
import Derived.LaidMore
import Derived.Lay
import Derived.SevenTiedAt
import Derived.Shelf.Vars
import Derived.Stop.LaidErr
import Derived.MakeChecks
import Derived.SizedLaws
namespace Go.Proofs.YtbblkknndaoefaaGreatDoor
open Go.RowKit Go.Maps
set_option linter.unusedVariables false

theorem mb_small {L : List Mem} (h : ∀ m ∈ L, MbOk m) (hl : L.length ≤ 100) : MemSmall2 L := by
  refine ⟨by omega, ?_, ?_, ?_, ?_⟩ <;> intro m hm
  · have := (h m hm).p; omega
  · have h1 := (h m hm).i
    have h2 : ∀ x ∈ mbIds, x.size ≤ 1000000 := by decide
    exact h2 _ h1
  · have := (h m hm).n; omega
  · have := (h m hm).s; exact WalkArith.wf_i64 (by omega)
theorem app_small3 {L R : List Mem} {K : List ByteArray} (hL : MemSmall2 L) (hl : L.length ≤ 100) (hR : FewOk R K) (hin : ∀ m ∈ R, MemIn m) : MemSmall2 (L ++ R) := by
  have h2 := hR.n
  refine ⟨by rw [List.length_append]; omega, ?_, ?_, ?_, ?_⟩ <;> intro m hm <;> rcases List.mem_append.1 hm with h | h
  · exact hL.p m h
  · have := (hR.m m h).1; omega
  · exact hL.i m h
  · have := (hR.m m h).2.1; omega
  · exact hL.l m h
  · have := (hR.m m h).2.2; omega
  · exact hL.s m h
  · exact (hin m h).s
theorem small_of3 {L : List Mem} (h : MemSmall2 L) : MemSmall L := ⟨h.len, h.p, h.i, h.l⟩

set_option maxRecDepth 100000 in
set_option maxHeartbeats 8000000 in
theorem agroups_walk (la : Option Addr) (lc : Nat) (l : List Int) (ra : Option Addr) (rc : Nat) (R : List Mem) (w : World) (hl : Ints w la lc l) (hR : Mems w ra rc R) (hin : ∀ m ∈ R, MemIn m) (hE : Env w) :
    Calls Tryz.prog 13 #[.slice la l.length lc, .slice ra R.length rc] w fun e w' => e = .returned (.bool true) ∧ Fr No w w' := by
  obtain ⟨i0, hi0, hz0, hz1, hz2⟩ := info_parts infoM
  have hfew := few32 ra rc R w hR hin
  have hrm := hR.lenmax
  go_enter Tryz.func13, Tryz.ntmps13
  go_wp2_with fail
  refine hfew.mono ?_
  rintro e w1 ⟨⟨b, rfl, hb⟩, hf1⟩
  have hE1 := hE.no hf1
  clear hfew
  cases b with
  | false =>
    go_wp2_with fail
    refine (known32 w1 hE1).mono ?_
    rintro e wf ⟨rfl, hff⟩
    have hfin := hf1.step hff (fun _ _ h => h)
    go_wp2_with fail
    go_ret
    exact ⟨rfl, hfin⟩
  | true =>
    have hok := hb rfl
    have hl1 := hl.no hf1 (fun _ => id)
    have hR1 := hR.no hf1 (fun _ => id)
    have hx : Fr No w1 (w1.alloc (.cells #[.slice la l.length lc, .int .i64 0] 29)) := (Fr.refl _ _).alloc _
    have ht := Tape.make hl1 29
    have hE0 := hE1.no hx
    have hs0 : (w1.alloc (.cells #[.slice la l.length lc, .int .i64 0] 29)).heap.size = w1.heap.size + 1 := by simp
    have hsz := hE1.sz
    obtain ⟨W0, hW0⟩ : ∃ W0, W0 = w1.alloc (.cells #[.slice la l.length lc, .int .i64 0] 29) := ⟨_, rfl⟩
    rw [← hW0] at hx ht hE0 hs0
    have hs0' : w1.heap.size + 1 ≤ W0.heap.size := by omega
    have hpv := made_mbs w1.heap.size w1.heap.size 0 9 W0 ht (by omega) (by omega)
    have Hx := Lib.hid (hf1.step hx (fun _ _ h => h))
    have hxk := hx
    have hs1 := hf1.size
    have HW0 := Lib.hid hW0.symm
    have Hok := Lib.hid hok
    have Hin := Lib.hid hin
    have hrl := hok.n
    clear hs0 hx hE hE1 hf1 hl1 hl hR ht hok hb hin hW0
    go_wp2_with fail
    rw [HW0.out]
    clear HW0
    refine hpv.mono ?_
    rintro e w2 ⟨⟨L, a1, c1, k1, rfl, hL, hLf, hLm, hLo, hLl, hk1, ht1, hown⟩, hf2⟩
    have hE2 := hE0.fr hf2 (fun b hb h => by unfold Is at h; omega)
    have hfx2 : Fr (From w1.heap.size) w1 w2 := (hxk.mono (fun _ _ h => h.elim)).step hf2 (fun b _ h => by unfold Is at h; unfold From; omega)
    have hR2 := hR1.keep hfx2 (fun b hb h => by unfold From at h; omega)
    have hfw2 : Fr No w w2 := Hx.out.trans hf2 (fun _ _ h => h) (fun b hb h => by unfold Is at h; omega)
    have hup := hR2.upto R.length (Nat.le_refl _)
    rw [List.take_length] at hup
    have hs2 := hf2.size
    clear hpv hL hLf hk1 ht1 hf2 hE0 hxk
    have Hown := Lib.hid hown
    go_wp2_with (at_builtin; refine wpList_append_src rfl _ _ 23 rfl W0.heap.size 58 i0 (.agg #[.string ByteArray.empty, .string ByteArray.empty, .int .i64 0, .int .i64 0, .int .i64 0, .int .i64 0, .slice none 0 0]) 7 88 Tryz.underlying23 hi0 hz0 hz1 hz2 rfl (by decide) _ _ _ rfl hown _ R.length _ (mflat R) rfl hup.2 (by rw [mflat_len]) hup.1 (mflat_one _) (by unfold maxLen; omega) (by omega) (by first | omega | (simp; done) | (simp; omega)) ?_; intro v3 w3 own3 gr3; obtain ⟨av, cv, rfl⟩ := ownsRow_slice own3)
    have hg3 : Fr (From W0.heap.size) w2 w3 := (Fr.of_grown gr3).mono (fun b _ h => ownsRow_blk Hown.out h)
    have hR3 := hR1.keep (hfx2.step hg3 (fun b _ h => by unfold From at *; omega)) (fun b hb h => by unfold From at h; omega)
    have hL3 : MFresh w3 W0.heap.size L := MFresh.own hLm Hown.out (Fr.of_grown gr3)
    obtain ⟨Q, hQ⟩ : ∃ Q, Q = L ++ R := ⟨_, rfl⟩
    have hQl : L.length + R.length = Q.length := by rw [hQ, List.length_append]
    have hsmQ : MemSmall2 Q := by rw [hQ]; exact app_small3 (mb_small hLo (by omega)) (by omega) Hok.out Hin.out
    have hSQ : ∀ m ∈ Q, Strs w3 m.a m.c m.l := fun m hm => by
      rw [hQ] at hm
      rcases List.mem_append.1 hm with h | h
      · exact (hL3 m h).1
      · exact hR3.ok m h
    have hownQ : w3.ownsRow W0.heap.size 58 7 (.slice av Q.length cv) Q.length (mflat Q) := by rw [← hQl, hQ, mflat_append]; exact own3
    obtain ⟨a6, c6, e6, hM3, _⟩ := Mems.of_own hownQ hSQ
    cases e6
    have hfw3 : Fr No w w3 := hfw2.trans hg3 (fun _ _ h => h) (fun b hb h => by unfold From at h; omega)
    have hE3 := hE2.fr hg3 (fun b hb h => by unfold From at h; omega)
    obtain ⟨m0, hm3⟩ := hE3.len
    have hs3 := hg3.size
    clear hg3 hR3 hL3 hSQ hownQ own3 gr3 hup hfx2 hR2 hR1 hfw2 hE2 hLm hown Hown hQ
    rw [hQl]
    clear hQl
    have hvg := a_group av cv Q m0 w3 hM3 hsmQ hm3 (by omega)
    go_wp2_with fail
    refine hvg.mono ?_
    rintro e w4 ⟨⟨oa, oc, O, ids, rfl, hO, _, _, hids, hOe, _, _⟩, hf4⟩
    have HOe := Lib.hid hOe
    have Hids := Lib.hid hids
    have hM4 := hM3.no hf4 (fun _ => id)
    have hm4 := hf4.cell hm3 id
    have hE4 := hE3.no hf4
    have hs4 := hf4.size
    have hfw4 := hfw3.step hf4 (fun _ _ h => h)
    clear hvg hf4 hOe hids hM3 hm3 hE3 hfw3
    have hrg := ref_group32 av cv Q m0 w4 hM4 (small_of3 hsmQ) hm4 (by omega)
    go_wp2_with fail
    refine hrg.mono ?_
    rintro e w5 ⟨⟨pa, pc, P, rfl, hP, hPe⟩, hf5⟩
    have hOP : O.map ArrM.toArr = P.map ArrM.toArr := by rw [HOe.out, hPe, Hids.out.unique (ids34 Q)]
    have hO5 := hO.no hf5 (fun _ => id)
    have hE5 := hE4.no hf5
    have hs5 := hf5.size
    have hfw5 := hfw4.step hf5 (fun _ _ h => h)
    have hsa := same_arrays_eq oa pa oc pc O P w5 hO5 hP hOP
    have HPe := Lib.hid hPe
    clear hrg hf5 hPe hM4 hm4 hE4 hfw4 hO hOP hO5
    go_wp2_with fail
    refine hsa.mono ?_
    rintro e w6 ⟨rfl, hf6⟩
    have hP6 := hP.no hf6 (fun _ => id)
    have hE6 := hE5.no hf6
    have hfw6 := hfw5.step hf6 (fun _ _ h => h)
    have hpm := hP6.lenmax
    clear hsa hf6 hP hP6 hE5 hfw5 HOe Hids hpm
    have hk := known32 w6 hE6
    go_wp2_with fail
    refine hk.mono ?_
    rintro e w7 ⟨rfl, hf7⟩
    have hfin := hfw6.step hf7 (fun _ _ h => h)
    clear hk hf7 hfw6 hE6
    go_wp2_with fail
    go_ret
    exact ⟨rfl, hfin⟩
end Go.Proofs.YtbblkknndaoefaaGreatDoor
namespace Go.Proofs.YtbblkknndaoefaaGreatDoor
open Go.RowKit Go.Maps
set_option linter.unusedVariables false

set_option maxRecDepth 100000 in
set_option maxHeartbeats 8000000 in
theorem aorder_walk (la : Option Addr) (lc : Nat) (l : List Int) (turn : Int) (w : World) (hl : Ints w la lc l) (hturn : (Lit.int .i64 turn).wf = true) (hE : Env w) :
    Calls Tryz.prog 8 #[.slice la l.length lc, .int .i64 turn] w fun e w' => e = .returned (.bool true) ∧ Fr No w w' := by
  obtain ⟨j0, hj0, hy0, hy1, hy2⟩ := info_parts infoM
  have hx : Fr No w (w.alloc (.cells #[.slice la l.length lc, .int .i64 0] 29)) := (Fr.refl _ _).alloc _
  have ht := Tape.make hl 29
  have hE0 := hE.no hx
  have hs0 : (w.alloc (.cells #[.slice la l.length lc, .int .i64 0] 29)).heap.size = w.heap.size + 1 := by simp
  have hsz := hE.sz
  obtain ⟨W0, hW0⟩ : ∃ W0, W0 = w.alloc (.cells #[.slice la l.length lc, .int .i64 0] 29) := ⟨_, rfl⟩
  rw [← hW0] at hx ht hE0 hs0
  have hs0' : w.heap.size + 1 ≤ W0.heap.size := by omega
  clear hs0
  have hpv := made_mbs w.heap.size w.heap.size 0 9 W0 ht (by omega) (by omega)
  have Hx := Lib.hid hx
  clear hx hE
  go_enter Tryz.func8, Tryz.ntmps8
  go_wp2_with fail
  rw [← hW0]
  clear hW0
  refine hpv.mono ?_
  rintro e w1 ⟨⟨L, a1, c1, k1, rfl, hL1, hLf, hLm, hLo, hLl, hk1, ht1, _⟩, hf1⟩
  have hE1 := hE0.fr hf1 (fun b hb h => by unfold Is at h; omega)
  have hfw1 : Fr No w w1 := (Hx.out.mono (fun _ _ h => h)).trans hf1 (fun _ _ h => h) (fun b hb h => by unfold Is at h; omega)
  obtain ⟨m0, hm1⟩ := hE1.len
  have hs1 := hf1.size
  have HLo := Lib.hid hLo
  clear hpv ht1 hf1 hE0 ht hLf hLm hLo
  go_wp2_with fail
  go_loopw [6] (fun i wr => ∃ q : Nat, q ≤ L.length ∧ i = .int .i64 (q : Int) ∧ Hid (∀ (i j : Nat) (m o : Mem), i < q → j < i → L[i]? = some m → L[j]? = some o → m.p ≠ o.p) ∧ Fr No w1 wr) (fun i _ => L.length - (intOf i).toNat)
  case atStart => exact ⟨0, by omega, rfl, fun i j m o h => absurd h (Nat.not_lt_zero _), Fr.refl _ _⟩
  case round =>
    obtain ⟨q, hq, rfl, HD, hfr⟩ := hrel
    by_cases hlt : q < L.length
    · have hlt' : (q : Int) < L.length := by omega
      obtain ⟨m, hm⟩ : ∃ m, L[q]? = some m := ⟨_, List.getElem?_eq_getElem hlt⟩
      have Hm := Lib.hid hm
      clear hm
      go_wp2_with fail
      go_loopw [7] (fun i wr1 => ∃ j : Nat, j ≤ q ∧ i = .int .i64 (j : Int) ∧ Hid (∀ (k : Nat) (o : Mem), k < j → L[k]? = some o → m.p ≠ o.p) ∧ Fr No w1 wr1) (fun i _ => q - (intOf i).toNat)
      case atStart => exact ⟨0, by omega, rfl, fun k o h => absurd h (Nat.not_lt_zero _), hfr⟩
      case round =>
        obtain ⟨j, hj, rfl, HJ, hfr1⟩ := hrel
        by_cases hlt : j < q
        · have hlt2 : (j : Int) < q := by omega
          have hlt3 : (j : Int) < L.length := by omega
          have hlt4 : (q : Int) < L.length := by omega
          go_wp2_with fail
          refine region_sig No [(0, false), (1, false), (2, false), (3, false), (4, false), (5, false), (6, false), (7, false), (8, false), (9, false), (10, false)] (by kernel_rfl) (by kernel_rfl) (fun w0 hf0 => ?_)
          have hfr2 := hfr1.step hf0 (fun _ _ h => h)
          obtain ⟨lb, lo, o, rfl, ho, _, ⟨o0, _, _, _, _, _, _⟩, _⟩ := (hL1.no hfr2 (fun _ => id)).elem (show j < L.length by omega)
          obtain ⟨lb', lo', m', e1, hm', _, ⟨m0', _, _, _, _, _, _⟩, _⟩ := (hL1.no hfr2 (fun _ => id)).elem (show q < L.length by omega)
          cases e1
          obtain rfl : m = m' := by rw [Hm.out] at hm'; exact Option.some.inj hm'
          have g0 : ∀ g : Gr No w0, g.W.cell? ⟨lb, lo + q * 7, none⟩ = some (.string m.p) := fun g => g.fr.cell m0' id
          have g1 : ∀ g : Gr No w0, g.W.cell? ⟨lb, lo + j * 7, none⟩ = some (.string o.p) := fun g => g.fr.cell o0 id
          have Ho := Lib.hid ho
          clear o0 m0' hm' ho
          repeat (apply sig_q; exact rfl; exact rfl; exact rfl; intro K hK; go_big_quiet_op; go_big_quiet_on)
          clear g0 g1
          refine sig_end ?_
          rcases hc : (m.p.toList == o.p.toList) with _ | _
          · have Hn : Hid (∀ (k : Nat) (o : Mem), k < j + 1 → L[k]? = some o → m.p ≠ o.p) := by
              intro k o' hk ho'
              by_cases hkj : k = j
              · subst hkj
                rw [Ho.out] at ho'; cases ho'
                intro e
                rw [e] at hc; simp at hc
              · exact HJ.out k o' (by omega) ho'
            clear hc
            go_wp2_with fail
            go_roundw
            case rel => exact ⟨j + 1, by omega, by go_num, Hn, hfr2⟩
            case measure => simp [intOf]; omega
          · have hkn := known32 w0 (hE1.no hfr2)
            clear hc
            go_wp2_with fail
            refine hkn.mono ?_
            rintro e wf ⟨rfl, hff⟩
            have hfin := hfw1.step (hfr2.step hff (fun _ _ h => h)) (fun _ _ h => h)
            go_wp2_with fail
            go_ret
            exact ⟨rfl, hfin⟩
        · obtain rfl : j = q := by omega
          have Hn : Hid (∀ (i j' : Nat) (m o : Mem), i < j + 1 → j' < i → L[i]? = some m → L[j']? = some o → m.p ≠ o.p) := by
            intro i j' m' o hi hj' hmi hoj
            by_cases hij : i = j
            · subst hij
              rw [Hm.out] at hmi; cases hmi
              exact HJ.out j' o hj' hoj
            · exact HD.out i j' m' o (by omega) hj' hmi hoj
          go_wp2_with fail
          go_roundw
          case rel => exact ⟨j + 1, by omega, by go_num, Hn, hfr1⟩
          case measure => simp [intOf]; omega
    · obtain rfl : q = L.length := by omega
      have hdiff : Diff L := diff_of (fun i j m o hj hm ho => HD.out i j m o (List.getElem?_eq_some_iff.1 hm).1 hj hm ho)
      have Hdiff := Lib.hid hdiff
      clear HD hdiff
      by_cases hz0 : L.length = 0
      · have hz0' : (L.length : Int) = 0 := by omega
        have hkn := known32 wr (hE1.no hfr)
        clear hL1
        go_wp2_with fail
        refine hkn.mono ?_
        rintro e wf ⟨rfl, hff⟩
        have hfin := hfw1.step (hfr.step hff (fun _ _ h => h)) (fun _ _ h => h)
        clear hkn hff hfr hfw1
        go_wp2_with fail
        go_ret
        exact ⟨rfl, hfin⟩
      have hz0' : ¬ (L.length : Int) = 0 := by omega
      have hfold := fold_any turn (L.length : Int) wr (by omega) (by omega) hturn
      go_wp2_with fail
      refine hfold.mono ?_
      rintro e w3 ⟨n, rfl, hn0, hn1, rfl⟩
      obtain ⟨n, rfl⟩ := Int.eq_ofNat_of_zero_le hn0
      have hnl : n ≤ L.length := by omega
      have hnl' : (n : Int) ≤ L.length := by omega
      have hL3 := hL1.no hfr (fun _ => id)
      have hlen3 := hL3.len
      clear hfold hL1 hn0 hn1
      go_wp2_with fail
      refine region_sig (From wr.heap.size) [(0, false), (2, false), (3, false), (4, false), (6, false), (7, false), (8, false), (1, true), (5, true), (9, true), (10, true), (11, true), (12, false), (13, true), (14, false), (15, false)] (by kernel_rfl) (by kernel_rfl) (fun w0 hf0 => ?_)
      have hL4 := hL3.no hf0 (fun _ => id)
      have hs4 := hf0.size
      have Hf0 := Lib.hid (hfr.step hf0 (fun _ _ h => h))
      have hm4 := Hf0.out.cell hm1 id
      have hsw := Hf0.out.size
      have hfr0 := hf0
      clear hf0
      repeat (apply sig_q; exact rfl; exact rfl; exact rfl; intro K hK; go_big_quiet_op; go_big_quiet_on)
      have hLm := hL4.max
      obtain ⟨A1, hA1⟩ : ∃ A1, A1 = (if c1 = n then a1 else Option.map (fun x => x.add (n * 7)) a1) := ⟨_, rfl⟩
      rw [← hA1]
      have HA1 := Lib.hid hA1
      clear hA1
      have hg := a_group a1 c1 L m0 w0 hL4 (mb_small HLo.out (by omega)) hm4 (by omega)
      apply sig_m
      exact rfl
      go_wp2_with fail
      refine hg.mono ?_
      rintro e w4 ⟨⟨ga, gc, O, ids, rfl, hO, _, _, hids, hOe, _⟩, hf4⟩
      have HOe := Lib.hid (And.intro hids hOe)
      have hL5 := hL4.no hf4 (fun _ => id)
      have hs5 := hf4.size
      have hf4' := hf4
      have Hf4 := Lib.hid (hfr0.step hf4 (fun _ _ h => h))
      clear hg hids hOe hL4 hf4 hfr0
      go_wp2_with fail
      refine OnlyN.mk ⟨hf4'.mono (fun _ _ h => h.elim), ?_⟩
      clear hf4'
      have hfi := hL5.from_if n hnl
      rw [← HA1.out] at hfi
      apply sig_m
      exact rfl
      go_wp2_with (at_builtin; refine wpList_append_src rfl _ _ 23 rfl w4.heap.size 58 j0 (.agg #[.string ByteArray.empty, .string ByteArray.empty, .int .i64 0, .int .i64 0, .int .i64 0, .int .i64 0, .slice none 0 0]) 7 88 Tryz.underlying23 hj0 hy0 hy1 hy2 rfl (by decide) _ 0 [] rfl (World.ownsRow_nil _ _ _ _) _ (L.length - n) _ (mflat (L.drop n)) rfl hfi.2 (by rw [mflat_len, List.length_drop]) hfi.1 (mflat_one _) (by unfold maxLen; omega) (by omega) (by first | omega | (simp; done) | (simp; omega)) ?_; intro v5 w5 own1 gr1; simp only [Nat.zero_add, List.nil_append] at own1; obtain ⟨av1, cv1, rfl⟩ := ownsRow_slice own1)
      have hf5 : Fr No w4 w5 := Fr.of_grown_none gr1
      have hs6 := hf5.size
      have hL6 := hL5.no hf5 (fun _ => id)
      have Hf45 := Lib.hid hf5
      refine OnlyN.mk ⟨hf5.mono (fun _ _ h => h.elim), ?_⟩
      have Hf5 := Lib.hid (Hf4.out.step hf5 (fun _ _ h => h))
      have hup := hL6.upto n hnl
      clear hf5 gr1 hL5 hfi
      apply sig_m
      exact rfl
      go_wp2_with (at_builtin; refine wpList_append_src rfl _ _ 23 rfl w4.heap.size 58 j0 (.agg #[.string ByteArray.empty, .string ByteArray.empty, .int .i64 0, .int .i64 0, .int .i64 0, .int .i64 0, .slice none 0 0]) 7 88 Tryz.underlying23 hj0 hy0 hy1 hy2 rfl (by decide) _ _ _ rfl own1 _ n _ (mflat (L.take n)) rfl hup.2 (by rw [mflat_len, List.length_take, Nat.min_eq_left hnl]) hup.1 (mflat_one _) (by unfold maxLen; omega) (by omega) (by first | omega | (simp; done) | (simp; omega)) ?_; intro v6 w6 own2 gr2; obtain ⟨av2, cv2, rfl⟩ := ownsRow_slice own2)
      have hg6 : Fr (From wr.heap.size) w5 w6 := (Fr.of_grown gr2).mono (fun b _ h => by have := ownsRow_blk own1 h; unfold From at this ⊢; omega)
      have hO6 : Arrs w6 ga gc O := hO.keep (S := From w4.heap.size) ((Hf45.out.mono (fun _ _ h => h.elim)).step (Fr.of_grown gr2) (fun b _ h => ownsRow_blk own1 h)) (fun b hb h => by unfold From at h; omega)
      refine OnlyN.mk ⟨hg6, ?_⟩
      obtain ⟨O2, hO2⟩ : ∃ O2, O2 = L.drop n ++ L.take n := ⟨_, rfl⟩
      have hO2l : O2.length = L.length - n + n := by rw [hO2, List.length_append, List.length_drop, List.length_take]; omega
      have hO2e : O2.length = L.length := by omega
      have hfr6 : Fr No wr w6 := ((Hf5.out.mono (T := From wr.heap.size) (fun _ _ h => h.elim)).step hg6 (fun _ _ h => h)).mono (fun b hb h => by unfold From at h; omega)
      have hL7 := hL3.no hfr6 (fun _ => id)
      have hS6 : ∀ m ∈ O2, Strs w6 m.a m.c m.l := fun m hm => hL7.ok m ((turn_mem L n m).2 (by rw [← hO2]; exact hm))
      have hown6 : w6.ownsRow w4.heap.size 58 7 (.slice av2 (L.length - n + n) cv2) O2.length (mflat O2) := by rw [hO2l, hO2, mflat_append]; exact own2
      obtain ⟨a6, c6, e6, hM6, _⟩ := Mems.of_own hown6 hS6
      rw [hO2e, show L.length - n + n = L.length by omega] at e6
      cases e6
      have hbb : best2 soundA O2 = best2 soundA L := funext fun x => by
        rw [hO2]
        exact (best2_order Hdiff.out (diff_turn Hdiff.out n) (turn_mem L n) x).symm
      have hMs : MemSmall2 O2 := mb_small (fun m hm => HLo.out m ((turn_mem L n m).2 (by rw [← hO2]; exact hm))) (by omega)
      have hE6 := hE1.no (hfr.step hfr6 (fun _ _ h => h))
      have hm6 := (hfr.step hfr6 (fun _ _ h => h)).cell hm1 id
      have hs7 := (hfr.step hfr6 (fun _ _ h => h)).size
      have hg2 := a_group av2 cv2 O2 m0 w6 hM6 hMs hm6 (by omega)
      rw [hO2e, hbb] at hg2
      have HF6 := Lib.hid (hfw1.step (hfr.step hfr6 (fun _ _ h => h)) (fun _ _ h => h))
      clear hO2 hO2l hO2e hown6 own2 gr2 own1 hg6 hL6 hup hfr6 hS6 hL3 hMs hO hbb hM6 hL7
      apply sig_m
      exact rfl
      go_wp2_with fail
      refine hg2.mono ?_
      rintro e w7 ⟨⟨ha, hc, P, ids2, rfl, hP, _, _, hids2, hPe, _⟩, hf7⟩
      have hO7 := hO6.no hf7 (fun _ => id)
      have hOP : O.map ArrM.toArr = P.map ArrM.toArr := by
        rw [HOe.out.2, hPe, HOe.out.1.unique hids2]
      have hE7 := hE6.no hf7
      have hf7' := hf7
      have HF7 := Lib.hid (HF6.out.step hf7 (fun _ _ h => h))
      have hsa := same_arrays_eq ga ha gc hc O P w7 hO7 hP hOP
      clear hg2 hids2 hPe hO6 hf7 hE6 hO7 hP hOP
      go_wp2_with fail
      refine OnlyN.mk ⟨hf7'.mono (fun _ _ h => h.elim), ?_⟩
      clear hf7'
      apply sig_m
      exact rfl
      go_wp2_with fail
      refine hsa.mono ?_
      rintro e w8 ⟨rfl, hf8⟩
      have hkn := known32 w8 (hE7.no hf8)
      have hf8' := hf8
      have HF8 := Lib.hid (HF7.out.step hf8 (fun _ _ h => h))
      clear hsa hE7 hf8
      go_wp2_with fail
      refine OnlyN.mk ⟨hf8'.mono (fun _ _ h => h.elim), ?_⟩
      clear hf8'
      repeat (apply sig_q; exact rfl; exact rfl; exact rfl; intro K hK; go_big_quiet_op; go_big_quiet_on)
      apply sig_m
      exact rfl
      go_wp2_with fail
      refine hkn.mono ?_
      rintro e w9 ⟨rfl, hf9⟩
      have HF9 := Lib.hid (HF8.out.step hf9 (fun _ _ h => h))
      go_wp2_with fail
      refine OnlyN.mk ⟨hf9.mono (fun _ _ h => h.elim), ?_⟩
      clear hkn
      repeat (apply sig_q; exact rfl; exact rfl; exact rfl; intro K hK; go_big_quiet_op; go_big_quiet_on)
      refine sig_end ?_
      go_wp2_with fail
      go_ret
      exact ⟨rfl, HF9.out⟩
end Go.Proofs.YtbblkknndaoefaaGreatDoor
namespace Go.Proofs.YtbblkknndaoefaaGreatDoor.arrayOrder
open Go.ChangeShapes Go.WideShapes Go.ChangeAt Go.RowKit
open Go.ChangeMaps (open_string shut_string)
set_option linter.unusedVariables false

theorem own : ownKnob Tryz.prog.godebug = none := by kernel_rfl
theorem laidOut : laidOutB Tryz.prog = true := by kernel_rfl

set_option maxRecDepth 100000 in
theorem lifted (os : Os) (started : os.Started) (H : Type) (enc : TypeId × Value → H) :
    ReturnsInHanded {} Tryz.checked os 8 .any (fun w args => (Rows.arrayOrderSpec.pre enc Tryz.prog Tryz.f8 Rows.arrayOrderRow.domain false w args ∧ laidMetH Tryz.prog Rows.arrayOrderRow.laid w) ∧ sizedMet enc Tryz.prog Tryz.f8 (OpenSpec.ofChange Rows.arrayOrderSpec) false w args)
      (Rows.arrayOrderSpec.post enc Tryz.prog Tryz.f8 false true false false) := by
  refine returns_laid_sized (C := Tryz.checked) (X := fun w _ => laidMetH Tryz.prog Rows.arrayOrderRow.laid w) (fun _ _ _ hh h => h.of_heap hh) own started (by kernel_rfl) Tryz.func8
    (ChangeSpec.witness_shaped (enc := enc) (C := Tryz.checked) (os := os) (X := fun w _ => laidMetH Tryz.prog Rows.arrayOrderRow.laid w) false (World.laidAll Tryz.prog os Rows.arrayOrderRow.laid) #[.slice none 0 0, .int .i64 0] 8 (World.laidAll_os _ _ _)
      (World.shaped_of_ZipB (by kernel_rfl) (by kernel_rfl)) (by kernel_rfl) (by kernel_rfl) (by kernel_rfl)
      (by rw [MakeChecks.laidMetH_plain _ _ _ (by kernel_rfl)]; exact laidMet_laidAll _ (by kernel_rfl) (by kernel_rfl))) ?_
  intro W base args ds gs before hval0 hW hz hL hsh
  have hval : ∀ (j : Nat) t v, Tryz.f8.params[j]? = some t → args[j]? = some v → Value.okWide Tryz.prog W .any base t v := hval0
  have hW' := hW
  obtain ⟨p, q, hA0, hV, rfl, hfz, hnd⟩ := hW
  have hA : DataW.TrodAll enc Tryz.prog W 0 (fun _ => true) true Tryz.f8.params.toList args.toList ds p := hA0
  have hsz : ∀ (j : Nat) (t : TypeId) (d : DataW H), (Tryz.f8.params.toList ++ (OpenSpec.ofChange Rows.arrayOrderSpec).bare.plain.varTypes Tryz.prog)[j]? = some t → (ds ++ gs)[j]? = some d → Wt t d := fun j t d h1 h2 => wt_each hz h1 h2
  rw [Tryz.params8] at hA hval hsz
  obtain ⟨v0, vs0, d0, ds0, p0, q0, hargs, rfl, rfl, h0, r0⟩ := trodAll_cons hA
  obtain ⟨v1, vs1, d1, ds1, p1, q1, rfl, rfl, rfl, h1, r1⟩ := trodAll_cons r0
  obtain ⟨rfl, rfl, rfl⟩ := trodAll_nil r1
  obtain rfl : args = #[v0, v1] := by cases args; simp_all
  obtain ⟨rfl, rfl⟩ := trodVars_none hV
  have z0 : Wt 22 d0 := hsz 0 _ _ rfl rfl
  have z1 : Wt 3 d1 := hsz 1 _ _ rfl rfl
  clear hsz hz
  obtain ⟨a0, len0, cap0, rfl⟩ := okWide_slice Tryz.underlying22 (hval 0 22 v0 rfl rfl)
  have k0 := h0
  have lt0 : ∀ x ∈ p0, x.block < W.heap.size := by obtain ⟨m, hm⟩ := k0; exact DataW.trod_lt m _ _ _ hm
  obtain ⟨l0, rfl, hl0⟩ : ∃ l : List Int, l.length = len0 ∧ Ints W a0 cap0 l := by
    obtain ⟨fuel, hf⟩ := h0
    rcases open_ints Tryz.underlying22 Tryz.underlying3 (by kernel_rfl) hf with ⟨hcs, _⟩ | ⟨x, l, c, zs, hcs, _, hl, hm, hz, _, hcell, hwz⟩
    · simp [Value.cells] at hcs
      obtain ⟨rfl, rfl, rfl⟩ := hcs
      exact Ints.of_isRow (zs := []) (.inl ⟨rfl, rfl, rfl, rfl⟩)
    · simp [Value.cells] at hcs
      obtain ⟨rfl, rfl, rfl⟩ := hcs
      exact Ints.of_isRow (zs := zs) (.inr ⟨_, rfl, hl, hm, by simpa using hz, hcell, hwz⟩)
  obtain ⟨a1, rfl, rfl, rfl, w1⟩ := open_int Tryz.underlying3 (hval 1 3 v1 rfl rfl) h1
  rw [MakeChecks.laidMetH_plain _ _ _ (by kernel_rfl)] at hL
  have hE := env_of hsh hL
  clear hA0 hval0
  refine (aorder_walk a0 cap0 l0 a1 W hl0 w1 hE).mono fun e W' ⟨he, hfr⟩ => ?_
  have bel : Below W.heap.size W W' := hfr.below (Nat.le_refl _) (fun b hb e => e)
  subst he
  exact ⟨_, rfl, _, _, _, [], _, [], hW', trodAll_mk1 (shut_bool Tryz.underlying4 _), (trodAll_cons_mk (Below.trod laidOut (by kernel_rfl) (of_decide_eq_true (by kernel_rfl)) k0 bel lt0) (trodAll_cons_mk (shut_int Tryz.underlying3 w1) trodAll_mk0)), rfl, bel.frame _, fun h => by cases h⟩

theorem isNamed : Tryz.pinned.checked.prog.funcNamed Rows.arrayOrderRow.func = some 8 := by kernel_rfl
theorem and2 {a b : Bool} (h : a = true) (k : b = true) : (a && b) = true := by rw [h, k]; rfl
theorem c0 : (Rows.arrayOrderRow.wf (OpenSpec.ofChange Rows.arrayOrderSpec)) = true := by kernel_rfl
theorem c1 : (laidOutB Tryz.pinned.checked.prog) = true := by kernel_rfl
theorem c2 : (mapsRowed Tryz.pinned.checked.prog) = true := by kernel_rfl
theorem c3 : (Tryz.f8.params.all (Tryz.pinned.checked.prog.readableRec ·)) = true := by kernel_rfl
theorem c4 : (namedTie Tryz.pinned.checked.prog Rows.arrayOrderRow.named Rows.arrayOrderSpec.vars) = true := by kernel_rfl
theorem c5 : ((Rows.arrayOrderRow.stops == [])) = true := by kernel_rfl
theorem c6 : ((Tryz.pinned.checked.prog.stops == [])) = true := by kernel_rfl
theorem c7 : ((Rows.arrayOrderRow.knobs == [])) = true := by kernel_rfl
theorem c8 : ((Tryz.pinned.checked.prog.stopKnobs == [])) = true := by kernel_rfl
theorem c9 : ((Rows.arrayOrderRow.inPlace == Tryz.pinned.checked.prog.inPlace 8)) = true := by kernel_rfl
theorem c10 : ((Rows.arrayOrderRow.unfollowed == Tryz.pinned.checked.prog.unfollowed 8)) = true := by kernel_rfl
theorem c11 : ((Rows.arrayOrderRow.recurses == Tryz.pinned.checked.prog.recurses 8)) = true := by kernel_rfl
theorem c12 : ((Rows.arrayOrderRow.named == Tryz.pinned.checked.prog.varsNamed 8)) = true := by kernel_rfl
theorem c13 : ((Rows.arrayOrderRow.maps == (Tryz.f8.params.toList ++ Rows.arrayOrderSpec.plain.varTypes Tryz.pinned.checked.prog).any (Tryz.pinned.checked.prog.mapsRec ·))) = true := by kernel_rfl
theorem c14 : ((Rows.arrayOrderRow.ifaces == (Tryz.f8.params.toList ++ Rows.arrayOrderSpec.plain.varTypes Tryz.pinned.checked.prog).any (Tryz.pinned.checked.prog.ifacesRec ·))) = true := by kernel_rfl
theorem c15 : ((Rows.arrayOrderRow.mapsOut == Tryz.pinned.checked.prog.mapsAmong Tryz.f8.resultTypes.toList)) = true := by kernel_rfl
theorem c16 : ((Rows.arrayOrderRow.loops == (Tryz.f8.params.toList ++ Rows.arrayOrderSpec.plain.varTypes Tryz.pinned.checked.prog).any (Tryz.pinned.checked.prog.loopsFrom ·))) = true := by kernel_rfl
theorem c17 : ((Rows.arrayOrderRow.wideKeys == (Tryz.f8.params.toList ++ Rows.arrayOrderSpec.plain.varTypes Tryz.pinned.checked.prog ++ Tryz.f8.resultTypes.toList).any (Tryz.pinned.checked.prog.wideKeysFrom ·))) = true := by kernel_rfl
theorem c18 : (Rows.arrayOrderSpec.vars.all (Tryz.pinned.checked.prog.varReadable ·)) = true := by kernel_rfl
theorem c19 : (Tryz.f8.resultTypes.all (fun t => Tryz.pinned.checked.prog.readableRec t && decide (t < Tryz.pinned.checked.prog.types.size))) = true := by kernel_rfl
theorem c20 : ((Rows.arrayOrderRow.ifacesOut == Tryz.f8.resultTypes.toList.any (Tryz.pinned.checked.prog.ifacesRec ·))) = true := by kernel_rfl
theorem c21 : ((Rows.arrayOrderRow.loopsOut == Tryz.f8.resultTypes.toList.any (Tryz.pinned.checked.prog.loopsFrom ·))) = true := by kernel_rfl
theorem c22 : ((Rows.arrayOrderRow.plainKeys == Tryz.pinned.checked.prog.plainKeys)) = true := by kernel_rfl
theorem c23 : (Rows.arrayOrderRow.shortTexts.isNone) = true := by kernel_rfl
theorem c24 : (Tryz.pinned.checked.prog.stopsHeard) = true := by kernel_rfl
theorem c25 : (Tryz.pinned.checked.prog.mayEnter) = true := by kernel_rfl
theorem c26 : ((Rows.arrayOrderRow.lifted == Tryz.pinned.checked.prog.liftsFinal)) = true := by kernel_rfl
theorem c27 : ((Tryz.pinned.checked.prog.make == some Rows.arrayOrderRow.make)) = true := by kernel_rfl
theorem c28 : ((Rows.arrayOrderRow.kinds == (if Rows.arrayOrderRow.domain.isEmpty then [] else Tryz.f8.params.toList.map fun t => match Tryz.pinned.checked.prog.underlying t with | some (.int k) => some k | _ => none))) = true := by kernel_rfl
theorem c29 : ((Rows.arrayOrderRow.pinned == Rows.arrayOrderRow.pinnedBy)) = true := by kernel_rfl
theorem c30 : ((Rows.arrayOrderRow.veiled == (Tryz.f8.params.toList ++ Rows.arrayOrderSpec.plain.varTypes Tryz.pinned.checked.prog ++ Tryz.f8.resultTypes.toList).any (Tryz.pinned.checked.prog.veiledRec ·))) = true := by kernel_rfl
theorem c31 : (Rows.arrayOrderRow.veiledFits Tryz.pinned.checked.prog Tryz.f8.params.toList (Tryz.f8.params.toList ++ Rows.arrayOrderSpec.plain.varTypes Tryz.pinned.checked.prog ++ Tryz.f8.resultTypes.toList)) = true := by kernel_rfl
set_option maxRecDepth 100000 in
theorem closed : joinedFacts Tryz.pinned.checked.prog 8 Tryz.f8 Rows.arrayOrderSpec Rows.arrayOrderRow = true := by
  unfold joinedFacts
  exact (and2 (and2 (and2 (and2 (and2 (and2 (and2 (and2 (and2 (and2 (and2 (and2 (and2 (and2 (and2 (and2 (and2 (and2 (and2 (and2 (and2 (and2 (and2 (and2 (and2 (and2 (and2 (and2 (and2 (and2 (and2 c0 c1) c2) c3) c4) c5) c6) c7) c8) c9) c10) c11) c12) c13) c14) c15) c16) c17) c18) c19) c20) c21) c22) c23) c24) c25) c26) c27) c28) c29) c30) c31)
theorem inst : Tryz.f8.isInstance Tryz.pinned.checked.prog Rows.arrayOrderRow.origin Rows.arrayOrderRow.targs := of_decide_eq_true (by kernel_rfl)
theorem wrap : Tryz.f8.isWrapper Tryz.pinned.checked.prog Rows.arrayOrderRow.wrapper Rows.arrayOrderRow.mainSum := by
  unfold Func.isWrapper; first | (rw [if_pos (by decide +kernel)]; kernel_rfl) | (rw [if_neg (by decide +kernel)]; exact ⟨rfl, rfl⟩)
theorem over : Rows.arrayOrderRow.holds Tryz.pinned (OpenSpec.ofChange Rows.arrayOrderSpec) :=
  OpenClaim.holds_of_wide 8 Tryz.f8 rfl rfl rfl rfl rfl rfl rfl ⟨rfl, rfl, rfl, rfl, rfl⟩ rfl rfl rfl rfl rfl isNamed Tryz.func8 closed inst wrap
    (fun os started H enc _ => lifted os started H enc)

theorem t1 : Rows.arrayOrderRow.wfByText (OpenSpec.ofChange Rows.arrayOrderSpec) = true := by kernel_rfl
theorem t2 : Tryz.pinned.checked.prog.mainIs = some ((true, "7c35bbe876a6797357c7d4d4c7eda80dfa3d5b512daa5cf20d9229a0a48d5af4").1, (true, "7c35bbe876a6797357c7d4d4c7eda80dfa3d5b512daa5cf20d9229a0a48d5af4").2.toList) := by kernel_rfl
theorem t3 : true = Tryz.pinned.checked.prog.looks [] := by kernel_rfl
theorem t4 : false = Rows.arrayOrderRow.goesBy Tryz.pinned.checked.prog := by kernel_rfl
theorem t5 : Tryz.prog.funcNamed "coldplug/coldpluglaw32.ArrayOrder" = some 8 := by kernel_rfl
theorem t6 : ([22, 3].all fun u => !Tryz.prog.wantsStandIn u) = true := by kernel_rfl
theorem proved : Rows.ArrayOrderCardSaid :=
  Claim7.holds_tied_plain_at .later [] [.data, .data, .data, .data, .sentinel, .sentinel, .pinned, .pinned] true (true, "7c35bbe876a6797357c7d4d4c7eda80dfa3d5b512daa5cf20d9229a0a48d5af4") true over (fun _ h => by cases h) t1 (fun _ h => by cases h) arrayOrder_row_tie rfl ⟨rfl, rfl⟩ t2 rfl
    (fun f fn hf hfn => by
      obtain rfl : f = 8 := Option.some.inj (t5.symm.trans hf) |>.symm
      obtain rfl : fn = Tryz.f8 := (Option.some.inj (Tryz.func8.symm.trans hfn)).symm
      exact ⟨t3, fun j t ht => by
        rw [Tryz.params8] at ht
        have hm : t ∈ [22, 3] := by simpa using Array.mem_of_getElem? ht
        have hall : ([22, 3].all fun u => !Tryz.prog.wantsStandIn u) = true := t6
        exact (show Tryz.prog.wantsStandIn t = false by simpa using List.all_eq_true.1 hall t hm)⟩)
    t4
#print axioms proved
end Go.Proofs.YtbblkknndaoefaaGreatDoor.arrayOrder
