/- coldplugref36.Of. -/
import Derived.Test.YtpnpjaemlflplaaGreatDoorKT
import Derived.Test.YtpnpjaemlflplaaGreatDoorKV
import Derived.Test.YtpnpjaemlflplaaGreatDoorK8
namespace Go.Proofs.YtpnpjaemlflplaaGreatDoor
open Go.RowKit Go.Maps
set_option linter.unusedVariables false

theorem isName_empty : isName ⟨#[]⟩ = false := by unfold isName; simp [ByteArray.toList_eq]

set_option maxRecDepth 100000 in
set_option maxHeartbeats 4000000 in
theorem ref_of (a ra : Option Addr) (cap rcap : Nat) (ds : List Dev) (l : List Rec) (n : Int) (w : World) (hl : Devs w a cap ds) (hT : TreeOk ds) (hn : ds.length ≤ 1000) (hr : Recs w ra rcap l) :
    Calls Tryz.prog 16 #[.agg #[.slice a ds.length cap], .slice ra l.length rcap, .int .i64 n] w fun e w' => e = .returned (.string (seatOf ds l n)) ∧ Fr No w w' := by
  have h0 : Fr No w (w.alloc (.cells #[.slice a ds.length cap] 25)) := (Fr.refl _ _).alloc _
  have q3 := block_alloc w (.cells #[.slice a ds.length cap] 25)
  go_enter Tryz.func16, Tryz.ntmps16
  go_wp2_with fail
  generalize w.alloc (.cells #[.slice a ds.length cap] 25) = W0 at *
  have t3 : W0.cell? ⟨w.heap.size, 0, none⟩ = some (.slice a ds.length cap) := cell_of_block q3 0
  have hl0 := hl.no h0 (fun _ => id)
  have hr0 := hr.no h0 (fun _ => id)
  clear hl hr
  cases hlk : look ds n with
  | none =>
    have H : Hid (seatOf ds l n = ⟨#[]⟩) := by unfold Hid seatOf; rw [if_pos hlk]
    have Hlk := Lib.hid hlk
    clear hlk
    go_wp2_with fail
    refine (ref_find_none a cap ds n _ hl0 Hlk.out).mono ?_
    rintro e w1 ⟨rfl, hf1⟩
    unfold Dev.vals Dev.zero
    have Hf := Lib.hid ((h0.step hf1 (fun _ _ h => h)).alloc (.cells Dev.zero.vals 32))
    clear hf1
    go_wp2_with fail
    go_ret
    exact ⟨by rw [H.out]; rfl, Hf.out⟩
  | some d =>
    have H : Hid (seatOf ds l n = seatL ds l ((chain ds n).map Dev.index)) := by unfold Hid seatOf; rw [if_neg (by rw [hlk]; simp)]
    have Hlk := Lib.hid hlk
    clear hlk
    go_wp2_with fail
    refine (ref_find_some a cap ds n d _ hl0 Hlk.out).mono ?_
    rintro e w1 ⟨rfl, hf1⟩
    unfold Dev.vals
    have hx1 : Fr No w1 (w1.alloc (.cells d.vals 32)) := (Fr.refl _ _).alloc _
    have q31 := hx1.heap (hf1.heap q3 id) id
    have t31 : (w1.alloc (.cells d.vals 32)).cell? ⟨w.heap.size, 0, none⟩ = some (.slice a ds.length cap) := cell_of_block q31 0
    have hf1x := hf1.step hx1 (fun _ _ h => h)
    unfold Dev.vals at t31
    go_wp2_with fail
    refine (ref_chain a cap ds n _ (hl0.no hf1x (fun _ => id)) (by omega)).mono ?_
    rintro e w2 ⟨⟨v, rfl, hown⟩, hf2⟩
    have hlen := chain_len ds n
    obtain ⟨ac, cc, rfl, hD, -⟩ := Devs.of_own hown
    have q32 := hf2.heap q31 id
    have hf2x := hf1x.step hf2 (fun _ _ h => h)
    have hl2 := hl0.no hf2x (fun _ => id)
    have hr2 := hr0.no hf2x (fun _ => id)
    have Hfx := Lib.hid (h0.step hf2x (fun _ _ h => h))
    obtain ⟨C, hC⟩ : ∃ C, C = chain ds n := ⟨_, rfl⟩
    rw [← hC] at hD hlen H ⊢
    clear hown hf1 hx1 q31 t31 hf1x hf2 hf2x hl0 hr0 q3 t3 hC h0
    go_wp2_with fail
    go_loopw [10] (fun i wr => ∃ k : Nat, k ≤ C.length ∧ i = .int .i64 (k : Int) ∧ Hid (∀ x ∈ (C.map Dev.index).take k, isName (idSeat ds l x) = false) ∧ Fr No w2 wr) (fun i _ => C.length - (intOf i).toNat)
    case atStart => exact ⟨0, by omega, rfl, by unfold Hid; simp, Fr.refl _ _⟩
    case round =>
      obtain ⟨k, hk, rfl, hno, hfr⟩ := hrel
      obtain ⟨W4, rfl⟩ : ∃ W4, W4 = wr := ⟨_, rfl⟩
      by_cases hlt : k < C.length
      · have hlt' : (k : Int) < C.length := by omega
        have hD4 := hD.no hfr (fun _ => id)
        have hl4 := hl2.no hfr (fun _ => id)
        have hr4 := hr2.no hfr (fun _ => id)
        have q34 := hfr.heap q32 id
        obtain ⟨cb, co, x, rfl, hxk, y0, _⟩ := hD4.dev hlt
        have Hxk : Hid ((C.map Dev.index)[k]? = some x.index) := by unfold Hid; rw [List.getElem?_map, hxk]; rfl
        have hblk : cb < W4.heap.size := (hD4.cell _ rfl (by intro e; rw [e] at hlt; simp at hlt)).2.1
        have hdl : idSeat ds l x.index = getP ((recOf ds l x.index).getD Rec.zero).props keySeat := rfl
        have hok4 := recOf_ok hr4 ds x.index
        have hnn : (recOf ds l x.index).isSome = false → idSeat ds l x.index = ⟨#[]⟩ := by
          intro e
          rw [hdl]
          cases ho : recOf ds l x.index with
          | none => rfl
          | some r => rw [ho] at e; cases e
        have hFo : ∀ e, FoundR (recOf ds l x.index) e → e = .returned (.tuple #[.agg ((recOf ds l x.index).getD Rec.zero).vals, .bool (recOf ds l x.index).isSome]) := fun e h => h.eq
        have hrec := fun (X : World) (h : Fr No W4 X) => ref_record a ra cap rcap ds l x.index X (hl4.no h (fun _ => id)) hT hn (hr4.no h (fun _ => id))
        have Hrec := Lib.hid hrec
        have Hn := Lib.hid (And.intro hdl (And.intro hnn hFo))
        have lt3 := lt_of_block q34
        clear hxk hdl hnn hFo hrec
        generalize (recOf ds l x.index).isSome = bs at *
        generalize (recOf ds l x.index).getD Rec.zero = r at *
        go_upto_region 8 with (fail)
        go_cut [11, 12] (fun v ok wx => ∃ b : Nat, v = .pointer (some ⟨b, 0, none⟩) ∧ ok = .bool bs ∧ wx.heap[b]? = some (.cells r.vals 42) ∧ Fr No W4 wx)
        case first =>
          refine region_tree (From W4.heap.size) (.q 0 (.q 1 (.q 2 (.q 3 (.q 4 (.q 5 (.q 6 (.m2 7 (.q 8 (.q 9 (.q 10 (.m1 11 (.m1 12 (.q 13 .fin)))))) 11 (.m1 7 (.q 8 (.q 9 (.q 10 (.m1 12 (.q 13 .fin)))))))))))))) _ (by kernel_rfl) (by kernel_rfl) (fun w0 hf0 => ?_) (fun _ _ h => h)
          have hs0 := hf0.size
          have g3 : ∀ g : Gr (From W4.heap.size) w0, g.W.cell? ⟨w.heap.size, 0, none⟩ = some (.slice a ds.length cap) := fun g => g.fr.cell (cell_of_block (hf0.heap q34 id) 0) (by unfold From; simp; omega)
          have g0 : ∀ g : Gr (From W4.heap.size) w0, g.W.cell? ⟨cb, co + k * 10, none⟩ = some (.int .i64 x.index) := fun g => g.fr.cell (hf0.cell y0 id) (by unfold From; simp; omega)
          repeat (apply tree_q; exact rfl; exact rfl; exact rfl; intro K hK; go_big_quiet_op; go_big_quiet_on)
          clear g3 g0 y0
          unfold Rec.vals at *
          refine tree_m2 rfl rfl ?_ ?_
          · go_wp2_with fail
            refine (Hrec.out w0 hf0).mono ?_
            rintro e w5 ⟨hF, hf5⟩
            obtain rfl := Hn.out.2.2 e hF
            have hs5 := hf5.size
            go_wp2_with fail
            refine OnlyN.mk ⟨hf5.mono (fun _ _ h => h.elim), ?_⟩
            repeat (apply tree_q; exact rfl; exact rfl; exact rfl; intro K hK; go_big_quiet_op; go_big_quiet_on)
            refine tree_m1 rfl ?_
            go_wp2_with fail
            refine OnlyN.mk ⟨(Fr.refl _ _).alloc _, ?_⟩
            refine tree_m1 rfl ?_
            go_wp2_with fail
            refine OnlyN.mk ⟨Fr.swap _ _ _ (by unfold From; omega), ?_⟩
            repeat (apply tree_q; exact rfl; exact rfl; exact rfl; intro K hK; go_big_quiet_op; go_big_quiet_on)
            refine tree_end ?_
            go_wp2_with fail
            go_meet
            exact ⟨w5.heap.size, rfl, rfl, block_alloc _ _, (hf0.step hf5 (fun _ _ h => h)).step ((Fr.refl _ _).alloc _) (fun _ _ h => h)⟩
          · go_wp2_with fail
            refine OnlyN.mk ⟨(Fr.refl _ _).alloc _, ?_⟩
            generalize hX : w0.alloc (.cells #[.string ⟨#[]⟩, .int .i64 0, .slice none 0 0, .slice none 0 0, .slice none 0 0, .slice none 0 0, .slice none 0 0, .string ⟨#[]⟩, .int .i64 0, .string ⟨#[]⟩, .string ⟨#[]⟩, .int .i64 0] 42) = X
            have hXb : X.heap[w0.heap.size]? = some (.cells #[.string ⟨#[]⟩, .int .i64 0, .slice none 0 0, .slice none 0 0, .slice none 0 0, .slice none 0 0, .slice none 0 0, .string ⟨#[]⟩, .int .i64 0, .string ⟨#[]⟩, .string ⟨#[]⟩, .int .i64 0] 42) := by rw [← hX]; exact block_alloc _ _
            have hXf : Fr No w0 X := by rw [← hX]; exact (Fr.refl _ _).alloc _
            clear hX
            refine tree_m1 rfl ?_
            go_wp2_with fail
            refine (Hrec.out X (hf0.step hXf (fun _ _ h => h))).mono ?_
            rintro e w5 ⟨hF, hf5⟩
            obtain rfl := Hn.out.2.2 e hF
            have hY := hf5.heap hXb id
            go_wp2_with fail
            refine OnlyN.mk ⟨hf5.mono (fun _ _ h => h.elim), ?_⟩
            repeat (apply tree_q; exact rfl; exact rfl; exact rfl; intro K hK; go_big_quiet_op; go_big_quiet_on)
            refine tree_m1 rfl ?_
            have z0 : w5.cell? ⟨w0.heap.size, 0, none⟩ = some (.string ⟨#[]⟩) := cell_of_block hY 0
            have z1 : w5.cell? ⟨w0.heap.size, 1, none⟩ = some (.int .i64 0) := cell_of_block hY 1
            have z2 : w5.cell? ⟨w0.heap.size, 2, none⟩ = some (.slice none 0 0) := cell_of_block hY 2
            have z3 : w5.cell? ⟨w0.heap.size, 3, none⟩ = some (.slice none 0 0) := cell_of_block hY 3
            have z4 : w5.cell? ⟨w0.heap.size, 4, none⟩ = some (.slice none 0 0) := cell_of_block hY 4
            have z5 : w5.cell? ⟨w0.heap.size, 5, none⟩ = some (.slice none 0 0) := cell_of_block hY 5
            have z6 : w5.cell? ⟨w0.heap.size, 6, none⟩ = some (.slice none 0 0) := cell_of_block hY 6
            have z7 : w5.cell? ⟨w0.heap.size, 7, none⟩ = some (.string ⟨#[]⟩) := cell_of_block hY 7
            have z8 : w5.cell? ⟨w0.heap.size, 8, none⟩ = some (.int .i64 0) := cell_of_block hY 8
            have z9 : w5.cell? ⟨w0.heap.size, 9, none⟩ = some (.string ⟨#[]⟩) := cell_of_block hY 9
            have z10 : w5.cell? ⟨w0.heap.size, 10, none⟩ = some (.string ⟨#[]⟩) := cell_of_block hY 10
            have z11 : w5.cell? ⟨w0.heap.size, 11, none⟩ = some (.int .i64 0) := cell_of_block hY 11
            have v0 : w5.frozen? ⟨w0.heap.size, 0, none⟩ = false := free_of_block hY 0
            have v1 : w5.frozen? ⟨w0.heap.size, 1, none⟩ = false := free_of_block hY 1
            have v2 : w5.frozen? ⟨w0.heap.size, 2, none⟩ = false := free_of_block hY 2
            have v3 : w5.frozen? ⟨w0.heap.size, 3, none⟩ = false := free_of_block hY 3
            have v4 : w5.frozen? ⟨w0.heap.size, 4, none⟩ = false := free_of_block hY 4
            have v5 : w5.frozen? ⟨w0.heap.size, 5, none⟩ = false := free_of_block hY 5
            have v6 : w5.frozen? ⟨w0.heap.size, 6, none⟩ = false := free_of_block hY 6
            have v7 : w5.frozen? ⟨w0.heap.size, 7, none⟩ = false := free_of_block hY 7
            have v8 : w5.frozen? ⟨w0.heap.size, 8, none⟩ = false := free_of_block hY 8
            have v9 : w5.frozen? ⟨w0.heap.size, 9, none⟩ = false := free_of_block hY 9
            have v10 : w5.frozen? ⟨w0.heap.size, 10, none⟩ = false := free_of_block hY 10
            have v11 : w5.frozen? ⟨w0.heap.size, 11, none⟩ = false := free_of_block hY 11
            go_wp2_with fail
            have h12 := set12 hY rfl r
            refine OnlyN.mk ⟨h12.2.mono (fun _ _ h => by unfold Is at h; unfold From; omega), ?_⟩
            repeat (apply tree_q; exact rfl; exact rfl; exact rfl; intro K hK; go_big_quiet_op; go_big_quiet_on)
            refine tree_end ?_
            go_wp2_with fail
            go_meet
            exact ⟨w0.heap.size, rfl, rfl, h12.1, ((hf0.step hXf (fun _ _ h => h)).step hf5 (fun _ _ h => h)).step h12.2 (fun b hb e => by unfold Is at e; omega)⟩
        case rest =>
          obtain ⟨b, rfl, rfl, hrb, hf5⟩ := hcut
          have hf5w := hfr.step hf5 (fun _ _ h => h)
          have hok5 := hok4.no hf5 (fun _ => id)
          have hgs : (getP r.props keySeat).size ≤ maxLen := getP_le hok5.props keySeat
          have HF := Lib.hid hf5w
          have r0 : wc.cell? ⟨b, 0, none⟩ = some (.string r.path) := cell_of_block hrb 0
          have r1 : wc.cell? ⟨b, 1, none⟩ = some (.int .i64 r.index) := cell_of_block hrb 1
          have r2 : wc.cell? ⟨b, 2, none⟩ = some (.slice r.pa r.props.length r.pc) := cell_of_block hrb 2
          have r3 : wc.cell? ⟨b, 3, none⟩ = some (.slice r.ta r.tags.length r.tc) := cell_of_block hrb 3
          have r4 : wc.cell? ⟨b, 4, none⟩ = some (.slice r.la r.ln r.lc) := cell_of_block hrb 4
          have r5 : wc.cell? ⟨b, 5, none⟩ = some (.slice r.ra r.rn r.rc) := cell_of_block hrb 5
          have r6 : wc.cell? ⟨b, 6, none⟩ = some (.slice r.oa r.on r.oc) := cell_of_block hrb 6
          have r7 : wc.cell? ⟨b, 7, none⟩ = some (.string r.name) := cell_of_block hrb 7
          have r8 : wc.cell? ⟨b, 8, none⟩ = some (.int .i64 r.prio) := cell_of_block hrb 8
          have r9 : wc.cell? ⟨b, 9, none⟩ = some (.string r.owner) := cell_of_block hrb 9
          have r10 : wc.cell? ⟨b, 10, none⟩ = some (.string r.group) := cell_of_block hrb 10
          have r11 : wc.cell? ⟨b, 11, none⟩ = some (.int .i64 r.mode) := cell_of_block hrb 11
          clear hf5 hf5w hrb hfr hok4 y0
          go_wp2_with fail
          have hget := ref_get25 r keySeat wc hok5
          unfold keySeat at hget
          refine hget.mono ?_
          rintro e w6 ⟨rfl, hf6⟩
          have HF6 := Lib.hid (HF.out.step hf6 (fun _ _ h => h))
          obtain ⟨sv, hsv⟩ : ∃ sv, sv = getP r.props keySeat := ⟨_, rfl⟩
          rw [← hsv] at hgs
          have Hid1 : Hid (idSeat ds l x.index = sv) := by unfold Hid; rw [hsv]; exact Hn.out.1
          rw [show getP r.props ⟨#[73, 68, 95, 83, 69, 65, 84]⟩ = sv from hsv.symm]
          have hstep : isName sv = false → Hid (∀ y ∈ (C.map Dev.index).take (k + 1), isName (idSeat ds l y) = false) := by
            intro hb y hy
            rw [List.take_add_one, Hxk.out] at hy
            rcases List.mem_append.1 hy with h | h
            · exact hno.out y h
            · simp at h; subst h; rw [Hid1.out]; exact hb
          have Hst := Lib.hid hstep
          clear hsv hf6 r0 r1 r2 r3 r4 r5 r6 r7 r8 r9 r10 r11 hok5 hstep
          cases bs with
          | false =>
            have hb : isName sv = false := by rw [← Hid1.out, Hn.out.2.1 rfl]; exact isName_empty
            have Hs2 := Hst.out hb
            clear hb
            go_wp2_with fail
            go_roundw
            case rel => exact ⟨k + 1, by omega, by go_num, Hs2, HF6.out⟩
            case measure => simp [intOf]; omega
          | true =>
            go_wp2_with fail
            refine (v_valid sv _ hgs).mono ?_
            rintro e w7 ⟨rfl, rfl⟩
            cases hb : isName sv with
            | false =>
              have Hs2 := Hst.out hb
              clear hb
              go_wp2_with fail
              go_roundw
              case rel => exact ⟨k + 1, by omega, by go_num, Hs2, HF6.out⟩
              case measure => simp [intOf]; omega
            | true =>
              have Hres : Hid (seatOf ds l n = sv) := by
                unfold Hid
                rw [H.out, seatL_at ds l _ k x.index Hxk.out (by rw [Hid1.out]; exact hb) hno.out]
                exact Hid1.out
              clear hb
              go_wp2_with fail
              go_ret
              exact ⟨by rw [Hres.out]; rfl, Hfx.out.step HF6.out (fun _ _ h => h)⟩
      · obtain rfl : k = C.length := by omega
        have Hres : Hid (seatOf ds l n = seat0) := by
          unfold Hid
          have h := hno.out
          rw [List.take_of_length_le (by simp)] at h
          rw [H.out]
          exact seatL_no ds l _ h
        have HF := Lib.hid (Hfx.out.step hfr (fun _ _ h => h))
        clear hno hfr
        go_wp2_with fail
        go_ret
        exact ⟨by rw [Hres.out]; rfl, HF.out⟩
end Go.Proofs.YtpnpjaemlflplaaGreatDoor
