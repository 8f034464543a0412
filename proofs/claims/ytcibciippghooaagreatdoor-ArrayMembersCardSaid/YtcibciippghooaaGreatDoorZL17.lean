/- coldplugref07.Parse, coldplugref32.Texts. crypt.Of. volume.Of. -/
import Derived.Test.YtcibciippghooaaGreatDoorZL10
import Derived.Test.YtcibciippghooaaGreatDoorZL16
namespace Go.Proofs.YtcibciippghooaaGreatDoor
open Go.RowKit Go.Maps
set_option linter.unusedVariables false

theorem CAt.of_vals {w : World} {X : Nat → Prop} {k sl t e : Int} {i l : ByteArray} {a : Option Addr} {m c : Nat} {ct : Ct} (h : CAt w X #[.int .i64 k, .string i, .string l, .int .i64 sl, .int .i64 t, .int .i64 e, .slice a m c] ct) : ∃ n, ct = .mk k i l sl t e n ∧ m = n.length ∧ InAt w X a c n := by
  obtain ⟨k', i', l', sl', t', e', n⟩ := ct
  obtain ⟨a', cap', hv, hin⟩ := h.inAt
  simp at hv
  obtain ⟨h1, h2, h3, h4, h5, h6, h7, h8, h9⟩ := hv
  subst h1; subst h2; subst h3; subst h4; subst h5; subst h6; subst h7; subst h8; subst h9
  exact ⟨n, rfl, rfl, hin⟩
theorem parse_rd {s : ByteArray} (hl : s.size ≤ 256) : parseC s = match rd 6 (bl s) with | some (c, []) => if c.valid = true ∧ c.text = bl s then some c else none | _ => none := by
  rw [← rParse_eq]; unfold rParse; rw [if_neg (by show ¬ 256 < s.size; omega)]; rfl
theorem txt_eq (c : Ct) (s : ByteArray) : (c.txt.toList == s.toList) = decide (c.text = bl s) := by
  rw [ByteArray.toList_eq, ByteArray.toList_eq, ← bl_txt c, Bool.eq_iff_iff, beq_iff_eq, decide_eq_true_iff]

set_option maxRecDepth 100000 in
set_option maxHeartbeats 4000000 in
theorem r_parse (s : ByteArray) (w : World) (hE : Env w) (hs : s.size ≤ 100000) :
    Calls Tryz.prog 25 #[.string s] w fun en w2 => PaRes w s en w2 ∧ Fr No w w2 := by
  have h0 : Fr No w (w.alloc (.cells #[.int .i64 0, .string ⟨#[]⟩, .string ⟨#[]⟩, .int .i64 0, .int .i64 0, .int .i64 0, .slice none 0 0] 48)) := (Fr.refl _ _).alloc _
  have q0 := block_alloc w (.cells #[.int .i64 0, .string ⟨#[]⟩, .string ⟨#[]⟩, .int .i64 0, .int .i64 0, .int .i64 0, .slice none 0 0] 48)
  have hsz : w.heap.size < (w.alloc (.cells #[.int .i64 0, .string ⟨#[]⟩, .string ⟨#[]⟩, .int .i64 0, .int .i64 0, .int .i64 0, .slice none 0 0] 48)).heap.size := by simp
  obtain ⟨W0, hW0⟩ : ∃ W0, W0 = w.alloc (.cells #[.int .i64 0, .string ⟨#[]⟩, .string ⟨#[]⟩, .int .i64 0, .int .i64 0, .int .i64 0, .slice none 0 0] 48) := ⟨_, rfl⟩
  rw [← hW0] at h0 q0 hsz
  have HE0 := Lib.hid (hE.no h0)
  have H0 := Lib.hid h0
  clear h0 hE
  go_enter Tryz.func25, Tryz.ntmps25
  go_upto_region 1 with (fail)
  rw [← hW0]
  clear hW0
  by_cases hl : 256 < s.size
  · have hl' : (256 : Int) < (s.size : Int) := by omega
    have Hn : Hid (parseC s = none) := by unfold Hid parseC; rw [if_pos (show 256 < (bl s).length from hl)]
    have h7 := set7 q0 rfl (.int .i64 0) (.string ⟨#[]⟩) (.string ⟨#[]⟩) (.int .i64 0) (.int .i64 0) (.int .i64 0) (.slice none 0 0)
    have Hfin := Lib.hid (H0.out.step h7.2 (fun b hb h => by unfold Is at h; omega))
    have H72 := Lib.hid h7.2
    have Hq := Lib.hid h7.1
    have b0 : W0.cell? ⟨w.heap.size, 0, none⟩ = some (.int .i64 0) := cell_of_block q0 0
    have f0 : W0.frozen? ⟨w.heap.size, 0, none⟩ = false := free_of_block q0 0
    have b1 : W0.cell? ⟨w.heap.size, 1, none⟩ = some (.string ⟨#[]⟩) := cell_of_block q0 1
    have f1 : W0.frozen? ⟨w.heap.size, 1, none⟩ = false := free_of_block q0 1
    have b2 : W0.cell? ⟨w.heap.size, 2, none⟩ = some (.string ⟨#[]⟩) := cell_of_block q0 2
    have f2 : W0.frozen? ⟨w.heap.size, 2, none⟩ = false := free_of_block q0 2
    have b3 : W0.cell? ⟨w.heap.size, 3, none⟩ = some (.int .i64 0) := cell_of_block q0 3
    have f3 : W0.frozen? ⟨w.heap.size, 3, none⟩ = false := free_of_block q0 3
    have b4 : W0.cell? ⟨w.heap.size, 4, none⟩ = some (.int .i64 0) := cell_of_block q0 4
    have f4 : W0.frozen? ⟨w.heap.size, 4, none⟩ = false := free_of_block q0 4
    have b5 : W0.cell? ⟨w.heap.size, 5, none⟩ = some (.int .i64 0) := cell_of_block q0 5
    have f5 : W0.frozen? ⟨w.heap.size, 5, none⟩ = false := free_of_block q0 5
    have b6 : W0.cell? ⟨w.heap.size, 6, none⟩ = some (.slice none 0 0) := cell_of_block q0 6
    have f6 : W0.frozen? ⟨w.heap.size, 6, none⟩ = false := free_of_block q0 6
    clear h7 
    go_wp2_with fail
    have y0 := cell_of_block Hq.out 0
    have y1 := cell_of_block Hq.out 1
    have y2 := cell_of_block Hq.out 2
    have y3 := cell_of_block Hq.out 3
    have y4 := cell_of_block Hq.out 4
    have y5 := cell_of_block Hq.out 5
    have y6 := cell_of_block Hq.out 6
    refine bodyPost_ret (v := .tuple #[.agg #[.int .i64 0, .string ⟨#[]⟩, .string ⟨#[]⟩, .int .i64 0, .int .i64 0, .int .i64 0, .slice none 0 0], .int .i64 71]) (by simp [results, Tryz.results25, go_sem, y0, y1, y2, y3, y4, y5, y6]) rfl ?_
    exact ⟨.inl ⟨71, Hn.out, by decide, rfl⟩, Hfin.out⟩
  have hl' : ¬ (256 : Int) < (s.size : Int) := by omega
  have hpo := parse_rd (s := s) (by omega)
  have Hpo := Lib.hid hpo
  have hrd : Calls Tryz.prog 44 #[.string s, .int .i64 6] W0 (RdRes W0 6 s) := r_read 6 (by omega) s W0 (by omega) HE0.out
  have hss : s.size ≤ 256 := by omega
  clear hpo
  go_wp2_with fail
  refine hrd.mono ?_
  rintro en w1 ⟨hf1, k, i, l, sl, t, e, a, m, c, rest, ok, rfl, hcase⟩
  have hs1 := hf1.size
  have hx : Fr No w1 (w1.alloc (.cells #[.int .i64 k, .string i, .string l, .int .i64 sl, .int .i64 t, .int .i64 e, .slice a m c] 48)) := (Fr.refl _ _).alloc _
  have q2 := hx.heap (hf1.heap q0 id) id
  have qt := block_alloc w1 (.cells #[.int .i64 k, .string i, .string l, .int .i64 sl, .int .i64 t, .int .i64 e, .slice a m c] 48)
  have Hf2 := Lib.hid ((H0.out.step hf1 (fun _ _ h => h)).step hx (fun _ _ h => h))
  have Hcase : Hid ((ok = false ∧ rd 6 (bl s) = none) ∨ (ok = true ∧ ∃ ct, rd 6 (bl s) = some (ct, bl rest) ∧ CAt (w1.alloc (.cells #[.int .i64 k, .string i, .string l, .int .i64 sl, .int .i64 t, .int .i64 e, .slice a m c] 48)) (From W0.heap.size) #[.int .i64 k, .string i, .string l, .int .i64 sl, .int .i64 t, .int .i64 e, .slice a m c] ct)) := by
    rcases hcase with h | ⟨h, ct, h2, h3⟩
    · exact .inl h
    · exact .inr ⟨h, ct, h2, h3.fr hx (fun _ _ h => h)⟩
  have hs2 : w1.heap.size < (w1.alloc (.cells #[.int .i64 k, .string i, .string l, .int .i64 sl, .int .i64 t, .int .i64 e, .slice a m c] 48)).heap.size := by simp
  clear hrd hf1 hx hcase q0
  go_upto_region 4 with (fail)
  generalize w1.alloc (.cells #[.int .i64 k, .string i, .string l, .int .i64 sl, .int .i64 t, .int .i64 e, .slice a m c] 48) = W2 at *
  have z0 : W2.cell? ⟨w1.heap.size, 0, none⟩ = some (.int .i64 k) := cell_of_block qt 0
  have z1 : W2.cell? ⟨w1.heap.size, 1, none⟩ = some (.string i) := cell_of_block qt 1
  have z2 : W2.cell? ⟨w1.heap.size, 2, none⟩ = some (.string l) := cell_of_block qt 2
  have z3 : W2.cell? ⟨w1.heap.size, 3, none⟩ = some (.int .i64 sl) := cell_of_block qt 3
  have z4 : W2.cell? ⟨w1.heap.size, 4, none⟩ = some (.int .i64 t) := cell_of_block qt 4
  have z5 : W2.cell? ⟨w1.heap.size, 5, none⟩ = some (.int .i64 e) := cell_of_block qt 5
  have z6 : W2.cell? ⟨w1.heap.size, 6, none⟩ = some (.slice a m c) := cell_of_block qt 6
  cases ok with
  | false =>
    have Hn : Hid (parseC s = none) := by
      unfold Hid
      rcases Hcase.out with ⟨_, h⟩ | ⟨h, _⟩
      · rw [Hpo.out, h]
      · cases h
    have h7 := set7 q2 rfl (.int .i64 0) (.string ⟨#[]⟩) (.string ⟨#[]⟩) (.int .i64 0) (.int .i64 0) (.int .i64 0) (.slice none 0 0)
    have Hfin := Lib.hid (Hf2.out.step h7.2 (fun b hb h => by unfold Is at h; omega))
    have H72 := Lib.hid h7.2
    have Hq := Lib.hid h7.1
    have b0 : W2.cell? ⟨w.heap.size, 0, none⟩ = some (.int .i64 0) := cell_of_block q2 0
    have f0 : W2.frozen? ⟨w.heap.size, 0, none⟩ = false := free_of_block q2 0
    have b1 : W2.cell? ⟨w.heap.size, 1, none⟩ = some (.string ⟨#[]⟩) := cell_of_block q2 1
    have f1 : W2.frozen? ⟨w.heap.size, 1, none⟩ = false := free_of_block q2 1
    have b2 : W2.cell? ⟨w.heap.size, 2, none⟩ = some (.string ⟨#[]⟩) := cell_of_block q2 2
    have f2 : W2.frozen? ⟨w.heap.size, 2, none⟩ = false := free_of_block q2 2
    have b3 : W2.cell? ⟨w.heap.size, 3, none⟩ = some (.int .i64 0) := cell_of_block q2 3
    have f3 : W2.frozen? ⟨w.heap.size, 3, none⟩ = false := free_of_block q2 3
    have b4 : W2.cell? ⟨w.heap.size, 4, none⟩ = some (.int .i64 0) := cell_of_block q2 4
    have f4 : W2.frozen? ⟨w.heap.size, 4, none⟩ = false := free_of_block q2 4
    have b5 : W2.cell? ⟨w.heap.size, 5, none⟩ = some (.int .i64 0) := cell_of_block q2 5
    have f5 : W2.frozen? ⟨w.heap.size, 5, none⟩ = false := free_of_block q2 5
    have b6 : W2.cell? ⟨w.heap.size, 6, none⟩ = some (.slice none 0 0) := cell_of_block q2 6
    have f6 : W2.frozen? ⟨w.heap.size, 6, none⟩ = false := free_of_block q2 6
    clear h7 
    go_upto_region 5 with (fail)
    go_wp2_with fail
    have y0 := cell_of_block Hq.out 0
    have y1 := cell_of_block Hq.out 1
    have y2 := cell_of_block Hq.out 2
    have y3 := cell_of_block Hq.out 3
    have y4 := cell_of_block Hq.out 4
    have y5 := cell_of_block Hq.out 5
    have y6 := cell_of_block Hq.out 6
    refine bodyPost_ret (v := .tuple #[.agg #[.int .i64 0, .string ⟨#[]⟩, .string ⟨#[]⟩, .int .i64 0, .int .i64 0, .int .i64 0, .slice none 0 0], .int .i64 70]) (by simp [results, Tryz.results25, go_sem, y0, y1, y2, y3, y4, y5, y6]) rfl ?_
    exact ⟨.inl ⟨70, Hn.out, by decide, rfl⟩, Hfin.out⟩
  | true =>
    have Hct : Hid (∃ ct, rd 6 (bl s) = some (ct, bl rest) ∧ CAt W2 (From W0.heap.size) #[.int .i64 k, .string i, .string l, .int .i64 sl, .int .i64 t, .int .i64 e, .slice a m c] ct) := by
      rcases Hcase.out with ⟨h, _⟩ | ⟨_, h⟩
      · cases h
      · exact h
    rcases hre : rest.toList.isEmpty with _ | _
    · have Hn : Hid (parseC s = none) := by
        unfold Hid
        obtain ⟨ct, h1, _⟩ := Hct.out
        obtain ⟨hp, tr, htr⟩ := bl_first hre
        rw [Hpo.out, h1, htr]
      have h7 := set7 q2 rfl (.int .i64 0) (.string ⟨#[]⟩) (.string ⟨#[]⟩) (.int .i64 0) (.int .i64 0) (.int .i64 0) (.slice none 0 0)
      have Hfin := Lib.hid (Hf2.out.step h7.2 (fun b hb h => by unfold Is at h; omega))
      have H72 := Lib.hid h7.2
      have Hq := Lib.hid h7.1
      have b0 : W2.cell? ⟨w.heap.size, 0, none⟩ = some (.int .i64 0) := cell_of_block q2 0
      have f0 : W2.frozen? ⟨w.heap.size, 0, none⟩ = false := free_of_block q2 0
      have b1 : W2.cell? ⟨w.heap.size, 1, none⟩ = some (.string ⟨#[]⟩) := cell_of_block q2 1
      have f1 : W2.frozen? ⟨w.heap.size, 1, none⟩ = false := free_of_block q2 1
      have b2 : W2.cell? ⟨w.heap.size, 2, none⟩ = some (.string ⟨#[]⟩) := cell_of_block q2 2
      have f2 : W2.frozen? ⟨w.heap.size, 2, none⟩ = false := free_of_block q2 2
      have b3 : W2.cell? ⟨w.heap.size, 3, none⟩ = some (.int .i64 0) := cell_of_block q2 3
      have f3 : W2.frozen? ⟨w.heap.size, 3, none⟩ = false := free_of_block q2 3
      have b4 : W2.cell? ⟨w.heap.size, 4, none⟩ = some (.int .i64 0) := cell_of_block q2 4
      have f4 : W2.frozen? ⟨w.heap.size, 4, none⟩ = false := free_of_block q2 4
      have b5 : W2.cell? ⟨w.heap.size, 5, none⟩ = some (.int .i64 0) := cell_of_block q2 5
      have f5 : W2.frozen? ⟨w.heap.size, 5, none⟩ = false := free_of_block q2 5
      have b6 : W2.cell? ⟨w.heap.size, 6, none⟩ = some (.slice none 0 0) := cell_of_block q2 6
      have f6 : W2.frozen? ⟨w.heap.size, 6, none⟩ = false := free_of_block q2 6
      clear h7 
      go_upto_region 5 with (fail)
      go_wp2_with fail
      have y0 := cell_of_block Hq.out 0
      have y1 := cell_of_block Hq.out 1
      have y2 := cell_of_block Hq.out 2
      have y3 := cell_of_block Hq.out 3
      have y4 := cell_of_block Hq.out 4
      have y5 := cell_of_block Hq.out 5
      have y6 := cell_of_block Hq.out 6
      refine bodyPost_ret (v := .tuple #[.agg #[.int .i64 0, .string ⟨#[]⟩, .string ⟨#[]⟩, .int .i64 0, .int .i64 0, .int .i64 0, .slice none 0 0], .int .i64 70]) (by simp [results, Tryz.results25, go_sem, y0, y1, y2, y3, y4, y5, y6]) rfl ?_
      exact ⟨.inl ⟨70, Hn.out, by decide, rfl⟩, Hfin.out⟩
    · obtain ⟨ct, hct, hca⟩ := Hct.out
      obtain ⟨n, hcn, hmn, hin⟩ := hca.of_vals
      have hrk := rd_ok (bl s).length 6 (bl s) ct (bl rest) (Nat.le_refl _) hct
      have hbr : bl rest = [] := by rw [ByteArray.toList_eq, List.isEmpty_iff] at hre; exact hre
      rw [hbr] at hct hrk
      have hrc := hrk.count
      have hsl : (bl s).length = s.size := (Lib.size_eq s).symm
      subst hcn; subst hmn
      have Hpc : Hid (parseC s = if (Ct.mk k i l sl t e n).valid = true ∧ (Ct.mk k i l sl t e n).text = bl s then some (Ct.mk k i l sl t e n) else none) := by
        unfold Hid; rw [Hpo.out, hct]
      have hcc : (Ct.mk k i l sl t e n).count ≤ 257 := by simp at hrc; omega
      have hval := r_Valid (bl s).length (by unfold maxLen; omega) k sl t e i l n a c W2 _ hrk.small hin
      have htb : (Ct.mk k i l sl t e n).valid = true → (Ct.mk k i l sl t e n).good = true ∧ (Ct.mk k i l sl t e n).text.length ≤ 100000 := by
        intro h
        unfold Ct.valid at h
        rw [Bool.and_eq_true] at h
        have := text_bound _ h.2
        exact ⟨h.2, by omega⟩
      have Htb := Lib.hid htb
      have Hin := Lib.hid hin
      have Hca := Lib.hid hca
      have hcn2 : Ct.counts n < 257 := by rw [Ct.count] at hcc; omega
      obtain ⟨v, hv⟩ : ∃ v, v = (Ct.mk k i l sl t e n).valid := ⟨_, rfl⟩
      rw [← hv] at hval
      have Hv := Lib.hid hv
      clear hct hca hrk hbr hrc hsl hcc htb hin hv
      go_wp2_with fail
      refine hval.mono ?_
      rintro en w3 ⟨rfl, hf3⟩
      have q3 := hf3.heap q2 id
      have qt3 := hf3.heap qt id
      have Hf3 := Lib.hid (Hf2.out.step hf3 (fun _ _ h => h))
      have hs3 := hf3.size
      have Hin3 := Lib.hid (Hin.out.fr hf3 (fun _ _ h => h))
      have Hca3 := Lib.hid (Hca.out.fr hf3 (fun _ _ h => h))
      clear hval hf3 q2 qt z0 z1 z2 z3 z4 z5 z6
      have z0 : w3.cell? ⟨w1.heap.size, 0, none⟩ = some (.int .i64 k) := cell_of_block qt3 0
      have z1 : w3.cell? ⟨w1.heap.size, 1, none⟩ = some (.string i) := cell_of_block qt3 1
      have z2 : w3.cell? ⟨w1.heap.size, 2, none⟩ = some (.string l) := cell_of_block qt3 2
      have z3 : w3.cell? ⟨w1.heap.size, 3, none⟩ = some (.int .i64 sl) := cell_of_block qt3 3
      have z4 : w3.cell? ⟨w1.heap.size, 4, none⟩ = some (.int .i64 t) := cell_of_block qt3 4
      have z5 : w3.cell? ⟨w1.heap.size, 5, none⟩ = some (.int .i64 e) := cell_of_block qt3 5
      have z6 : w3.cell? ⟨w1.heap.size, 6, none⟩ = some (.slice a n.length c) := cell_of_block qt3 6
      cases v with
      | false =>
        have Hn : Hid (parseC s = none) := by unfold Hid; rw [Hpc.out, ← Hv.out, if_neg (by simp)]
        have h7 := set7 q3 rfl (.int .i64 0) (.string ⟨#[]⟩) (.string ⟨#[]⟩) (.int .i64 0) (.int .i64 0) (.int .i64 0) (.slice none 0 0)
        have Hfin := Lib.hid (Hf3.out.step h7.2 (fun b hb h => by unfold Is at h; omega))
        have H72 := Lib.hid h7.2
        have Hq := Lib.hid h7.1
        have b0 : w3.cell? ⟨w.heap.size, 0, none⟩ = some (.int .i64 0) := cell_of_block q3 0
        have f0 : w3.frozen? ⟨w.heap.size, 0, none⟩ = false := free_of_block q3 0
        have b1 : w3.cell? ⟨w.heap.size, 1, none⟩ = some (.string ⟨#[]⟩) := cell_of_block q3 1
        have f1 : w3.frozen? ⟨w.heap.size, 1, none⟩ = false := free_of_block q3 1
        have b2 : w3.cell? ⟨w.heap.size, 2, none⟩ = some (.string ⟨#[]⟩) := cell_of_block q3 2
        have f2 : w3.frozen? ⟨w.heap.size, 2, none⟩ = false := free_of_block q3 2
        have b3 : w3.cell? ⟨w.heap.size, 3, none⟩ = some (.int .i64 0) := cell_of_block q3 3
        have f3 : w3.frozen? ⟨w.heap.size, 3, none⟩ = false := free_of_block q3 3
        have b4 : w3.cell? ⟨w.heap.size, 4, none⟩ = some (.int .i64 0) := cell_of_block q3 4
        have f4 : w3.frozen? ⟨w.heap.size, 4, none⟩ = false := free_of_block q3 4
        have b5 : w3.cell? ⟨w.heap.size, 5, none⟩ = some (.int .i64 0) := cell_of_block q3 5
        have f5 : w3.frozen? ⟨w.heap.size, 5, none⟩ = false := free_of_block q3 5
        have b6 : w3.cell? ⟨w.heap.size, 6, none⟩ = some (.slice none 0 0) := cell_of_block q3 6
        have f6 : w3.frozen? ⟨w.heap.size, 6, none⟩ = false := free_of_block q3 6
        clear h7 
        go_upto_region 5 with (fail)
        go_wp2_with fail
        have y0 := cell_of_block Hq.out 0
        have y1 := cell_of_block Hq.out 1
        have y2 := cell_of_block Hq.out 2
        have y3 := cell_of_block Hq.out 3
        have y4 := cell_of_block Hq.out 4
        have y5 := cell_of_block Hq.out 5
        have y6 := cell_of_block Hq.out 6
        refine bodyPost_ret (v := .tuple #[.agg #[.int .i64 0, .string ⟨#[]⟩, .string ⟨#[]⟩, .int .i64 0, .int .i64 0, .int .i64 0, .slice none 0 0], .int .i64 70]) (by simp [results, Tryz.results25, go_sem, y0, y1, y2, y3, y4, y5, y6]) rfl ?_
        exact ⟨.inl ⟨70, Hn.out, by decide, rfl⟩, Hfin.out⟩
      | true =>
        obtain ⟨hgood, htl⟩ := Htb.out Hv.out.symm
        have htx := r_text_n 257 (by omega) k sl t e i l n a c w3 _ hcn2 Hin3.out hgood htl
        have hte := txt_eq (Ct.mk k i l sl t e n) s
        obtain ⟨tx, htxe⟩ : ∃ tx, tx = (Ct.mk k i l sl t e n).txt := ⟨_, rfl⟩
        rw [← htxe] at htx hte
        have Hte := Lib.hid hte
        clear hte htxe hgood htl
        go_wp2_with fail
        refine htx.mono ?_
        rintro en w4 ⟨rfl, hf4⟩
        have q4 := hf4.heap q3 id
        have qt4 := hf4.heap qt3 id
        have Hf4 := Lib.hid (Hf3.out.step hf4 (fun _ _ h => h))
        have hs4 := hf4.size
        have Hca4 := Lib.hid (Hca3.out.fr hf4 (fun _ _ h => h))
        clear htx hf4 q3 qt3 z0 z1 z2 z3 z4 z5 z6
        have z0 : w4.cell? ⟨w1.heap.size, 0, none⟩ = some (.int .i64 k) := cell_of_block qt4 0
        have z1 : w4.cell? ⟨w1.heap.size, 1, none⟩ = some (.string i) := cell_of_block qt4 1
        have z2 : w4.cell? ⟨w1.heap.size, 2, none⟩ = some (.string l) := cell_of_block qt4 2
        have z3 : w4.cell? ⟨w1.heap.size, 3, none⟩ = some (.int .i64 sl) := cell_of_block qt4 3
        have z4 : w4.cell? ⟨w1.heap.size, 4, none⟩ = some (.int .i64 t) := cell_of_block qt4 4
        have z5 : w4.cell? ⟨w1.heap.size, 5, none⟩ = some (.int .i64 e) := cell_of_block qt4 5
        have z6 : w4.cell? ⟨w1.heap.size, 6, none⟩ = some (.slice a n.length c) := cell_of_block qt4 6
        rcases hq : (tx.toList == s.toList) with _ | _
        · have Hn : Hid (parseC s = none) := by
            unfold Hid; rw [Hpc.out, if_neg]
            intro h
            have h1 := Hte.out
            rw [hq, h.2] at h1
            simp at h1
          have h7 := set7 q4 rfl (.int .i64 0) (.string ⟨#[]⟩) (.string ⟨#[]⟩) (.int .i64 0) (.int .i64 0) (.int .i64 0) (.slice none 0 0)
          have Hfin := Lib.hid (Hf4.out.step h7.2 (fun b hb h => by unfold Is at h; omega))
          have H72 := Lib.hid h7.2
          have Hq := Lib.hid h7.1
          have b0 : w4.cell? ⟨w.heap.size, 0, none⟩ = some (.int .i64 0) := cell_of_block q4 0
          have f0 : w4.frozen? ⟨w.heap.size, 0, none⟩ = false := free_of_block q4 0
          have b1 : w4.cell? ⟨w.heap.size, 1, none⟩ = some (.string ⟨#[]⟩) := cell_of_block q4 1
          have f1 : w4.frozen? ⟨w.heap.size, 1, none⟩ = false := free_of_block q4 1
          have b2 : w4.cell? ⟨w.heap.size, 2, none⟩ = some (.string ⟨#[]⟩) := cell_of_block q4 2
          have f2 : w4.frozen? ⟨w.heap.size, 2, none⟩ = false := free_of_block q4 2
          have b3 : w4.cell? ⟨w.heap.size, 3, none⟩ = some (.int .i64 0) := cell_of_block q4 3
          have f3 : w4.frozen? ⟨w.heap.size, 3, none⟩ = false := free_of_block q4 3
          have b4 : w4.cell? ⟨w.heap.size, 4, none⟩ = some (.int .i64 0) := cell_of_block q4 4
          have f4 : w4.frozen? ⟨w.heap.size, 4, none⟩ = false := free_of_block q4 4
          have b5 : w4.cell? ⟨w.heap.size, 5, none⟩ = some (.int .i64 0) := cell_of_block q4 5
          have f5 : w4.frozen? ⟨w.heap.size, 5, none⟩ = false := free_of_block q4 5
          have b6 : w4.cell? ⟨w.heap.size, 6, none⟩ = some (.slice none 0 0) := cell_of_block q4 6
          have f6 : w4.frozen? ⟨w.heap.size, 6, none⟩ = false := free_of_block q4 6
          clear h7 
          go_upto_region 5 with (fail)
          go_wp2_with fail
          have y0 := cell_of_block Hq.out 0
          have y1 := cell_of_block Hq.out 1
          have y2 := cell_of_block Hq.out 2
          have y3 := cell_of_block Hq.out 3
          have y4 := cell_of_block Hq.out 4
          have y5 := cell_of_block Hq.out 5
          have y6 := cell_of_block Hq.out 6
          refine bodyPost_ret (v := .tuple #[.agg #[.int .i64 0, .string ⟨#[]⟩, .string ⟨#[]⟩, .int .i64 0, .int .i64 0, .int .i64 0, .slice none 0 0], .int .i64 70]) (by simp [results, Tryz.results25, go_sem, y0, y1, y2, y3, y4, y5, y6]) rfl ?_
          exact ⟨.inl ⟨70, Hn.out, by decide, rfl⟩, Hfin.out⟩
        · have Hn : Hid (parseC s = some (Ct.mk k i l sl t e n)) := by
            unfold Hid; rw [Hpc.out, if_pos]
            refine ⟨Hv.out.symm, ?_⟩
            have h1 := Hte.out
            rw [hq] at h1
            exact of_decide_eq_true h1.symm
          have h7 := set7 q4 rfl (.int .i64 k) (.string i) (.string l) (.int .i64 sl) (.int .i64 t) (.int .i64 e) (.slice a n.length c)
          have Hfin := Lib.hid (Hf4.out.step h7.2 (fun b hb h => by unfold Is at h; omega))
          have H72 := Lib.hid h7.2
          have Hq := Lib.hid h7.1
          have b0 : w4.cell? ⟨w.heap.size, 0, none⟩ = some (.int .i64 0) := cell_of_block q4 0
          have f0 : w4.frozen? ⟨w.heap.size, 0, none⟩ = false := free_of_block q4 0
          have b1 : w4.cell? ⟨w.heap.size, 1, none⟩ = some (.string ⟨#[]⟩) := cell_of_block q4 1
          have f1 : w4.frozen? ⟨w.heap.size, 1, none⟩ = false := free_of_block q4 1
          have b2 : w4.cell? ⟨w.heap.size, 2, none⟩ = some (.string ⟨#[]⟩) := cell_of_block q4 2
          have f2 : w4.frozen? ⟨w.heap.size, 2, none⟩ = false := free_of_block q4 2
          have b3 : w4.cell? ⟨w.heap.size, 3, none⟩ = some (.int .i64 0) := cell_of_block q4 3
          have f3 : w4.frozen? ⟨w.heap.size, 3, none⟩ = false := free_of_block q4 3
          have b4 : w4.cell? ⟨w.heap.size, 4, none⟩ = some (.int .i64 0) := cell_of_block q4 4
          have f4 : w4.frozen? ⟨w.heap.size, 4, none⟩ = false := free_of_block q4 4
          have b5 : w4.cell? ⟨w.heap.size, 5, none⟩ = some (.int .i64 0) := cell_of_block q4 5
          have f5 : w4.frozen? ⟨w.heap.size, 5, none⟩ = false := free_of_block q4 5
          have b6 : w4.cell? ⟨w.heap.size, 6, none⟩ = some (.slice none 0 0) := cell_of_block q4 6
          have f6 : w4.frozen? ⟨w.heap.size, 6, none⟩ = false := free_of_block q4 6
          clear h7 
          go_upto_region 6 with (fail)
          go_wp2_with fail
          have y0 := cell_of_block Hq.out 0
          have y1 := cell_of_block Hq.out 1
          have y2 := cell_of_block Hq.out 2
          have y3 := cell_of_block Hq.out 3
          have y4 := cell_of_block Hq.out 4
          have y5 := cell_of_block Hq.out 5
          have y6 := cell_of_block Hq.out 6
          refine bodyPost_ret (v := .tuple #[.agg #[.int .i64 k, .string i, .string l, .int .i64 sl, .int .i64 t, .int .i64 e, .slice a n.length c], .int .i64 0]) (by simp [results, Tryz.results25, go_sem, y0, y1, y2, y3, y4, y5, y6]) rfl ?_
          exact ⟨.inr ⟨_, _, Hn.out, rfl, (Hca4.out.fr H72.out (fun b hb h => by unfold Is at h; unfold From at hb; omega)).mono (fun b _ hb => by unfold From at *; omega)⟩, Hfin.out⟩
end Go.Proofs.YtcibciippghooaaGreatDoor
namespace Go.Proofs.YtcibciippghooaaGreatDoor
open Go.RowKit Go.Maps
set_option linter.unusedVariables false

/-- What Of answers. -/
def OfRes (w : World) (p s : ByteArray) (rd : Int) (e : Ending) (w' : World) : Prop :=
  ((∀ c, parseC s = some c → c.kind ≠ 3) ∧ e = .returned (.tuple #[.agg #[.string ⟨#[]⟩, .string ⟨#[]⟩, .int .i64 0, .int .i64 0, .int .i64 0, .int .i64 0, .slice none 0 0], .bool false])) ∨
  (∃ (c : Ct) (a' : Option Addr) (cap' : Nat), parseC s = some c ∧ c.kind = 3 ∧ e = .returned (.tuple #[.agg #[.string p, .string c.id, .int .i64 rd, .int .i64 0, .int .i64 0, .int .i64 0, .slice a' c.inner.length cap'], .bool true]) ∧ Strs w' a' cap' (c.inner.map Ct.txt) ∧ ∀ ad, a' = some ad → w.heap.size ≤ ad.block)

set_option maxRecDepth 100000 in
set_option maxHeartbeats 3000000 in
theorem crypt_of (p s : ByteArray) (rd : Int) (w : World) (hE : Env w) (hs : s.size ≤ 100000) :
    Calls Tryz.prog 9 #[.string p, .int .i64 rd, .string s] w fun en w2 => OfRes w p s rd en w2 ∧ Fr No w w2 := by
  have h0 : Fr No w (w.alloc (.cells #[.string ⟨#[]⟩, .string ⟨#[]⟩, .int .i64 0, .int .i64 0, .int .i64 0, .int .i64 0, .slice none 0 0] 31)) := (Fr.refl _ _).alloc _
  have q0 := block_alloc w (.cells #[.string ⟨#[]⟩, .string ⟨#[]⟩, .int .i64 0, .int .i64 0, .int .i64 0, .int .i64 0, .slice none 0 0] 31)
  have hsz : w.heap.size < (w.alloc (.cells #[.string ⟨#[]⟩, .string ⟨#[]⟩, .int .i64 0, .int .i64 0, .int .i64 0, .int .i64 0, .slice none 0 0] 31)).heap.size := by simp
  obtain ⟨W0, hW0⟩ : ∃ W0, W0 = w.alloc (.cells #[.string ⟨#[]⟩, .string ⟨#[]⟩, .int .i64 0, .int .i64 0, .int .i64 0, .int .i64 0, .slice none 0 0] 31) := ⟨_, rfl⟩
  rw [← hW0] at h0 q0 hsz
  have hrd := c_read s 3 W0 (hE.no h0) hs
  have H0 := Lib.hid h0
  clear h0 hE
  go_enter Tryz.func9, Tryz.ntmps9
  go_upto_region 1 with (fail)
  rw [← hW0]
  clear hW0
  go_wp2_with fail
  refine hrd.mono ?_
  rintro en w1 ⟨hres, hf1⟩
  have hs1 := hf1.size
  have q1 := hf1.heap q0 id
  have Hf1 := Lib.hid (H0.out.step hf1 (fun _ _ h => h))
  clear hrd q0 hf1
  rcases hres with ⟨hno, rfl⟩ | ⟨k, sl, t, le, i, l, n, a, a', cap, cap', hpc, hk, rfl, hin, hst, hfresh⟩
  · have Hn : Hid (∀ c, parseC s = some c → c.kind ≠ 3) := hno
    have hx : Fr No w1 (w1.alloc (.cells #[.int .i64 0, .string ⟨#[]⟩, .string ⟨#[]⟩, .int .i64 0, .int .i64 0, .int .i64 0, .slice none 0 0] 48)) := (Fr.refl _ _).alloc _
    have q2 := hx.heap q1 id
    have Hf2 := Lib.hid (Hf1.out.step hx (fun _ _ h => h))
    have Hq2 := Lib.hid q2
    clear q1 hx hno q2
    go_upto_region 3 with (fail)
    generalize w1.alloc (.cells #[.int .i64 0, .string ⟨#[]⟩, .string ⟨#[]⟩, .int .i64 0, .int .i64 0, .int .i64 0, .slice none 0 0] 48) = W2 at *
    have q2 := Hq2.out
    have b0 : W2.cell? ⟨w.heap.size, 0, none⟩ = some (.string ⟨#[]⟩) := cell_of_block q2 0
    have b1 : W2.cell? ⟨w.heap.size, 1, none⟩ = some (.string ⟨#[]⟩) := cell_of_block q2 1
    have b2 : W2.cell? ⟨w.heap.size, 2, none⟩ = some (.int .i64 0) := cell_of_block q2 2
    have b3 : W2.cell? ⟨w.heap.size, 3, none⟩ = some (.int .i64 0) := cell_of_block q2 3
    have b4 : W2.cell? ⟨w.heap.size, 4, none⟩ = some (.int .i64 0) := cell_of_block q2 4
    have b5 : W2.cell? ⟨w.heap.size, 5, none⟩ = some (.int .i64 0) := cell_of_block q2 5
    have b6 : W2.cell? ⟨w.heap.size, 6, none⟩ = some (.slice none 0 0) := cell_of_block q2 6
    have f0 : W2.frozen? ⟨w.heap.size, 0, none⟩ = false := free_of_block q2 0
    have f1 : W2.frozen? ⟨w.heap.size, 1, none⟩ = false := free_of_block q2 1
    have f2 : W2.frozen? ⟨w.heap.size, 2, none⟩ = false := free_of_block q2 2
    have f3 : W2.frozen? ⟨w.heap.size, 3, none⟩ = false := free_of_block q2 3
    have f4 : W2.frozen? ⟨w.heap.size, 4, none⟩ = false := free_of_block q2 4
    have f5 : W2.frozen? ⟨w.heap.size, 5, none⟩ = false := free_of_block q2 5
    have f6 : W2.frozen? ⟨w.heap.size, 6, none⟩ = false := free_of_block q2 6
    have h7 := set7 q2 rfl (.string ⟨#[]⟩) (.string ⟨#[]⟩) (.int .i64 0) (.int .i64 0) (.int .i64 0) (.int .i64 0) (.slice none 0 0)
    have Hfin := Lib.hid (Hf2.out.step h7.2 (fun b hb h => by unfold Is at h; omega))
    have Hq := Lib.hid h7.1
    clear h7 q2
    go_wp2_with fail
    have y0 := cell_of_block Hq.out 0
    have y1 := cell_of_block Hq.out 1
    have y2 := cell_of_block Hq.out 2
    have y3 := cell_of_block Hq.out 3
    have y4 := cell_of_block Hq.out 4
    have y5 := cell_of_block Hq.out 5
    have y6 := cell_of_block Hq.out 6
    refine bodyPost_ret (v := .tuple #[.agg #[.string ⟨#[]⟩, .string ⟨#[]⟩, .int .i64 0, .int .i64 0, .int .i64 0, .int .i64 0, .slice none 0 0], .bool false]) (by simp [results, Tryz.results9, go_sem, y0, y1, y2, y3, y4, y5, y6]) rfl ?_
    exact ⟨.inl ⟨Hn.out, rfl⟩, Hfin.out⟩
  · subst hk
    have Hpc : Hid (parseC s = some (.mk 3 i l sl t le n)) := hpc
    have Hfresh := Lib.hid hfresh
    have hx : Fr No w1 (w1.alloc (.cells #[.int .i64 3, .string i, .string l, .int .i64 sl, .int .i64 t, .int .i64 le, .slice a n.length cap] 48)) := (Fr.refl _ _).alloc _
    have Hq2 := Lib.hid (hx.heap q1 id)
    have qt := block_alloc w1 (.cells #[.int .i64 3, .string i, .string l, .int .i64 sl, .int .i64 t, .int .i64 le, .slice a n.length cap] 48)
    have Hf2 := Lib.hid (Hf1.out.step hx (fun _ _ h => h))
    have Hst := Lib.hid (hst.no hx (fun _ => id))
    clear q1 hx hst hpc hfresh hin
    go_upto_region 4 with (fail)
    generalize w1.alloc (.cells #[.int .i64 3, .string i, .string l, .int .i64 sl, .int .i64 t, .int .i64 le, .slice a n.length cap] 48) = W2 at *
    have zt1 : W2.cell? ⟨w1.heap.size, 1, none⟩ = some (.string i) := cell_of_block qt 1
    have q2 := Hq2.out
    clear qt
    have b0 : W2.cell? ⟨w.heap.size, 0, none⟩ = some (.string ⟨#[]⟩) := cell_of_block q2 0
    have b1 : W2.cell? ⟨w.heap.size, 1, none⟩ = some (.string ⟨#[]⟩) := cell_of_block q2 1
    have b2 : W2.cell? ⟨w.heap.size, 2, none⟩ = some (.int .i64 0) := cell_of_block q2 2
    have b3 : W2.cell? ⟨w.heap.size, 3, none⟩ = some (.int .i64 0) := cell_of_block q2 3
    have b4 : W2.cell? ⟨w.heap.size, 4, none⟩ = some (.int .i64 0) := cell_of_block q2 4
    have b5 : W2.cell? ⟨w.heap.size, 5, none⟩ = some (.int .i64 0) := cell_of_block q2 5
    have b6 : W2.cell? ⟨w.heap.size, 6, none⟩ = some (.slice none 0 0) := cell_of_block q2 6
    have f0 : W2.frozen? ⟨w.heap.size, 0, none⟩ = false := free_of_block q2 0
    have f1 : W2.frozen? ⟨w.heap.size, 1, none⟩ = false := free_of_block q2 1
    have f2 : W2.frozen? ⟨w.heap.size, 2, none⟩ = false := free_of_block q2 2
    have f3 : W2.frozen? ⟨w.heap.size, 3, none⟩ = false := free_of_block q2 3
    have f4 : W2.frozen? ⟨w.heap.size, 4, none⟩ = false := free_of_block q2 4
    have f5 : W2.frozen? ⟨w.heap.size, 5, none⟩ = false := free_of_block q2 5
    have f6 : W2.frozen? ⟨w.heap.size, 6, none⟩ = false := free_of_block q2 6
    have h7 := set7 q2 rfl (.string p) (.string i) (.int .i64 rd) (.int .i64 0) (.int .i64 0) (.int .i64 0) (.slice a' n.length cap')
    have Hfin := Lib.hid (Hf2.out.step h7.2 (fun b hb h => by unfold Is at h; omega))
    have Hst4 := Lib.hid (Hst.out.fr h7.2 (fun ad e hne h => by have := Hfresh.out ad e; unfold Is at h; omega))
    have Hq := Lib.hid h7.1
    clear h7 q2
    go_wp2_with fail
    have y0 := cell_of_block Hq.out 0
    have y1 := cell_of_block Hq.out 1
    have y2 := cell_of_block Hq.out 2
    have y3 := cell_of_block Hq.out 3
    have y4 := cell_of_block Hq.out 4
    have y5 := cell_of_block Hq.out 5
    have y6 := cell_of_block Hq.out 6
    refine bodyPost_ret (v := .tuple #[.agg #[.string p, .string i, .int .i64 rd, .int .i64 0, .int .i64 0, .int .i64 0, .slice a' n.length cap'], .bool true]) (by simp [results, Tryz.results9, go_sem, y0, y1, y2, y3, y4, y5, y6]) rfl ?_
    exact ⟨.inr ⟨.mk 3 i l sl t le n, a', cap', Hpc.out, rfl, rfl, Hst4.out, fun ad e => by have := Hfresh.out ad e; omega⟩, Hfin.out⟩
end Go.Proofs.YtcibciippghooaaGreatDoor
namespace Go.Proofs.YtcibciippghooaaGreatDoor
open Go.RowKit Go.Maps
set_option linter.unusedVariables false

/-- What Of answers. -/
def OfRes4 (w : World) (p s : ByteArray) (rd : Int) (e : Ending) (w' : World) : Prop :=
  ((∀ c, parseC s = some c → c.kind ≠ 4) ∧ e = .returned (.tuple #[.agg #[.string ⟨#[]⟩, .string ⟨#[]⟩, .int .i64 0, .int .i64 0, .int .i64 0, .int .i64 0, .slice none 0 0], .bool false])) ∨
  (∃ (c : Ct) (a' : Option Addr) (cap' : Nat), parseC s = some c ∧ c.kind = 4 ∧ e = .returned (.tuple #[.agg #[.string p, .string c.id, .int .i64 rd, .int .i64 c.slot, .int .i64 c.total, .int .i64 c.total, .slice a' c.inner.length cap'], .bool true]) ∧ Strs w' a' cap' (c.inner.map Ct.txt) ∧ ∀ ad, a' = some ad → w.heap.size ≤ ad.block)

set_option maxRecDepth 100000 in
set_option maxHeartbeats 3000000 in
theorem volume_of (p s : ByteArray) (rd : Int) (w : World) (hE : Env w) (hs : s.size ≤ 100000) :
    Calls Tryz.prog 14 #[.string p, .int .i64 rd, .string s] w fun en w2 => OfRes4 w p s rd en w2 ∧ Fr No w w2 := by
  have h0 : Fr No w (w.alloc (.cells #[.string ⟨#[]⟩, .string ⟨#[]⟩, .int .i64 0, .int .i64 0, .int .i64 0, .int .i64 0, .slice none 0 0] 31)) := (Fr.refl _ _).alloc _
  have q0 := block_alloc w (.cells #[.string ⟨#[]⟩, .string ⟨#[]⟩, .int .i64 0, .int .i64 0, .int .i64 0, .int .i64 0, .slice none 0 0] 31)
  have hsz : w.heap.size < (w.alloc (.cells #[.string ⟨#[]⟩, .string ⟨#[]⟩, .int .i64 0, .int .i64 0, .int .i64 0, .int .i64 0, .slice none 0 0] 31)).heap.size := by simp
  obtain ⟨W0, hW0⟩ : ∃ W0, W0 = w.alloc (.cells #[.string ⟨#[]⟩, .string ⟨#[]⟩, .int .i64 0, .int .i64 0, .int .i64 0, .int .i64 0, .slice none 0 0] 31) := ⟨_, rfl⟩
  rw [← hW0] at h0 q0 hsz
  have hrd := c_read s 4 W0 (hE.no h0) hs
  have H0 := Lib.hid h0
  clear h0 hE
  go_enter Tryz.func14, Tryz.ntmps14
  go_upto_region 1 with (fail)
  rw [← hW0]
  clear hW0
  go_wp2_with fail
  refine hrd.mono ?_
  rintro en w1 ⟨hres, hf1⟩
  have hs1 := hf1.size
  have q1 := hf1.heap q0 id
  have Hf1 := Lib.hid (H0.out.step hf1 (fun _ _ h => h))
  clear hrd q0 hf1
  rcases hres with ⟨hno, rfl⟩ | ⟨k, sl, t, le, i, l, n, a, a', cap, cap', hpc, hk, rfl, hin, hst, hfresh⟩
  · have Hn : Hid (∀ c, parseC s = some c → c.kind ≠ 4) := hno
    have hx : Fr No w1 (w1.alloc (.cells #[.int .i64 0, .string ⟨#[]⟩, .string ⟨#[]⟩, .int .i64 0, .int .i64 0, .int .i64 0, .slice none 0 0] 48)) := (Fr.refl _ _).alloc _
    have q2 := hx.heap q1 id
    have Hf2 := Lib.hid (Hf1.out.step hx (fun _ _ h => h))
    have Hq2 := Lib.hid q2
    clear q1 hx hno q2
    go_upto_region 3 with (fail)
    generalize w1.alloc (.cells #[.int .i64 0, .string ⟨#[]⟩, .string ⟨#[]⟩, .int .i64 0, .int .i64 0, .int .i64 0, .slice none 0 0] 48) = W2 at *
    have q2 := Hq2.out
    have b0 : W2.cell? ⟨w.heap.size, 0, none⟩ = some (.string ⟨#[]⟩) := cell_of_block q2 0
    have b1 : W2.cell? ⟨w.heap.size, 1, none⟩ = some (.string ⟨#[]⟩) := cell_of_block q2 1
    have b2 : W2.cell? ⟨w.heap.size, 2, none⟩ = some (.int .i64 0) := cell_of_block q2 2
    have b3 : W2.cell? ⟨w.heap.size, 3, none⟩ = some (.int .i64 0) := cell_of_block q2 3
    have b4 : W2.cell? ⟨w.heap.size, 4, none⟩ = some (.int .i64 0) := cell_of_block q2 4
    have b5 : W2.cell? ⟨w.heap.size, 5, none⟩ = some (.int .i64 0) := cell_of_block q2 5
    have b6 : W2.cell? ⟨w.heap.size, 6, none⟩ = some (.slice none 0 0) := cell_of_block q2 6
    have f0 : W2.frozen? ⟨w.heap.size, 0, none⟩ = false := free_of_block q2 0
    have f1 : W2.frozen? ⟨w.heap.size, 1, none⟩ = false := free_of_block q2 1
    have f2 : W2.frozen? ⟨w.heap.size, 2, none⟩ = false := free_of_block q2 2
    have f3 : W2.frozen? ⟨w.heap.size, 3, none⟩ = false := free_of_block q2 3
    have f4 : W2.frozen? ⟨w.heap.size, 4, none⟩ = false := free_of_block q2 4
    have f5 : W2.frozen? ⟨w.heap.size, 5, none⟩ = false := free_of_block q2 5
    have f6 : W2.frozen? ⟨w.heap.size, 6, none⟩ = false := free_of_block q2 6
    have h7 := set7 q2 rfl (.string ⟨#[]⟩) (.string ⟨#[]⟩) (.int .i64 0) (.int .i64 0) (.int .i64 0) (.int .i64 0) (.slice none 0 0)
    have Hfin := Lib.hid (Hf2.out.step h7.2 (fun b hb h => by unfold Is at h; omega))
    have Hq := Lib.hid h7.1
    clear h7 q2
    go_wp2_with fail
    have y0 := cell_of_block Hq.out 0
    have y1 := cell_of_block Hq.out 1
    have y2 := cell_of_block Hq.out 2
    have y3 := cell_of_block Hq.out 3
    have y4 := cell_of_block Hq.out 4
    have y5 := cell_of_block Hq.out 5
    have y6 := cell_of_block Hq.out 6
    refine bodyPost_ret (v := .tuple #[.agg #[.string ⟨#[]⟩, .string ⟨#[]⟩, .int .i64 0, .int .i64 0, .int .i64 0, .int .i64 0, .slice none 0 0], .bool false]) (by simp [results, Tryz.results14, go_sem, y0, y1, y2, y3, y4, y5, y6]) rfl ?_
    exact ⟨.inl ⟨Hn.out, rfl⟩, Hfin.out⟩
  · subst hk
    have Hpc : Hid (parseC s = some (.mk 4 i l sl t le n)) := hpc
    have Hfresh := Lib.hid hfresh
    have hx : Fr No w1 (w1.alloc (.cells #[.int .i64 4, .string i, .string l, .int .i64 sl, .int .i64 t, .int .i64 le, .slice a n.length cap] 48)) := (Fr.refl _ _).alloc _
    have Hq2 := Lib.hid (hx.heap q1 id)
    have qt := block_alloc w1 (.cells #[.int .i64 4, .string i, .string l, .int .i64 sl, .int .i64 t, .int .i64 le, .slice a n.length cap] 48)
    have Hf2 := Lib.hid (Hf1.out.step hx (fun _ _ h => h))
    have Hst := Lib.hid (hst.no hx (fun _ => id))
    clear q1 hx hst hpc hfresh hin
    go_upto_region 4 with (fail)
    generalize w1.alloc (.cells #[.int .i64 4, .string i, .string l, .int .i64 sl, .int .i64 t, .int .i64 le, .slice a n.length cap] 48) = W2 at *
    have zt1 : W2.cell? ⟨w1.heap.size, 1, none⟩ = some (.string i) := cell_of_block qt 1
    have zt3 : W2.cell? ⟨w1.heap.size, 3, none⟩ = some (.int .i64 sl) := cell_of_block qt 3
    have zt4 : W2.cell? ⟨w1.heap.size, 4, none⟩ = some (.int .i64 t) := cell_of_block qt 4
    have q2 := Hq2.out
    clear qt
    have b0 : W2.cell? ⟨w.heap.size, 0, none⟩ = some (.string ⟨#[]⟩) := cell_of_block q2 0
    have b1 : W2.cell? ⟨w.heap.size, 1, none⟩ = some (.string ⟨#[]⟩) := cell_of_block q2 1
    have b2 : W2.cell? ⟨w.heap.size, 2, none⟩ = some (.int .i64 0) := cell_of_block q2 2
    have b3 : W2.cell? ⟨w.heap.size, 3, none⟩ = some (.int .i64 0) := cell_of_block q2 3
    have b4 : W2.cell? ⟨w.heap.size, 4, none⟩ = some (.int .i64 0) := cell_of_block q2 4
    have b5 : W2.cell? ⟨w.heap.size, 5, none⟩ = some (.int .i64 0) := cell_of_block q2 5
    have b6 : W2.cell? ⟨w.heap.size, 6, none⟩ = some (.slice none 0 0) := cell_of_block q2 6
    have f0 : W2.frozen? ⟨w.heap.size, 0, none⟩ = false := free_of_block q2 0
    have f1 : W2.frozen? ⟨w.heap.size, 1, none⟩ = false := free_of_block q2 1
    have f2 : W2.frozen? ⟨w.heap.size, 2, none⟩ = false := free_of_block q2 2
    have f3 : W2.frozen? ⟨w.heap.size, 3, none⟩ = false := free_of_block q2 3
    have f4 : W2.frozen? ⟨w.heap.size, 4, none⟩ = false := free_of_block q2 4
    have f5 : W2.frozen? ⟨w.heap.size, 5, none⟩ = false := free_of_block q2 5
    have f6 : W2.frozen? ⟨w.heap.size, 6, none⟩ = false := free_of_block q2 6
    have h7 := set7 q2 rfl (.string p) (.string i) (.int .i64 rd) (.int .i64 sl) (.int .i64 t) (.int .i64 t) (.slice a' n.length cap')
    have Hfin := Lib.hid (Hf2.out.step h7.2 (fun b hb h => by unfold Is at h; omega))
    have Hst4 := Lib.hid (Hst.out.fr h7.2 (fun ad e hne h => by have := Hfresh.out ad e; unfold Is at h; omega))
    have Hq := Lib.hid h7.1
    clear h7 q2
    go_wp2_with fail
    have y0 := cell_of_block Hq.out 0
    have y1 := cell_of_block Hq.out 1
    have y2 := cell_of_block Hq.out 2
    have y3 := cell_of_block Hq.out 3
    have y4 := cell_of_block Hq.out 4
    have y5 := cell_of_block Hq.out 5
    have y6 := cell_of_block Hq.out 6
    refine bodyPost_ret (v := .tuple #[.agg #[.string p, .string i, .int .i64 rd, .int .i64 sl, .int .i64 t, .int .i64 t, .slice a' n.length cap'], .bool true]) (by simp [results, Tryz.results14, go_sem, y0, y1, y2, y3, y4, y5, y6]) rfl ?_
    exact ⟨.inr ⟨.mk 4 i l sl t le n, a', cap', Hpc.out, rfl, rfl, Hst4.out, fun ad e => by have := Hfresh.out ad e; omega⟩, Hfin.out⟩
end Go.Proofs.YtcibciippghooaaGreatDoor
