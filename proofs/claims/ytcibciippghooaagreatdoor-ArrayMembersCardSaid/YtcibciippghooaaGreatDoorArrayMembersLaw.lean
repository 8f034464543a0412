/- The law ArrayMembers returns true at every input and leaves its arguments as they were. Conditions: none beyond the given statement's own. -/
import Derived.Test.YtcibciippghooaaGreatDoorZL18
import Derived.Test.YtcibciippghooaaGreatDoorZL20
import Derived.Lib.ItoaLen
import Derived.Test.YtcibciippghooaaGreatDoorZP8
import Derived.Test.YtcibciippghooaaGreatDoorZL22
import Derived.Test.YtcibciippghooaaGreatDoorCards
import Derived.Test.YtcibciippghooaaGreatDoorTie
import Derived.WalkKit
import Derived.ProofKit
import Derived.OpenShut
import Derived.ShutString
import Derived.ChangeOld
import Derived.Below
import Derived.LaidMore
import Derived.Lay
import Derived.SevenTiedAt
import Derived.Shelf.Vars
import Derived.Stop.LaidErr
import Derived.MakeChecks
import Derived.SizedLaws
namespace Go.Proofs.YtcibciippghooaaGreatDoor
open Go.RowKit Go.Maps
set_option linter.unusedVariables false

theorem num21 (k : Nat) (h : k < 100) : (numBA k).size ≤ 21 := by
  have h1 : (bl (numBA k)).length = (numBA k).size := (Lib.size_eq _).symm
  have h2 := Lib.itoa_length_le (k : Int) (by omega) (by omega)
  rw [← h1, bl_num]; exact h2
theorem texts_strs (w : World) (x y z : ByteArray) : Strs (w.alloc (.cells #[.string x, .string y, .string z] 9)) (some ⟨w.heap.size, 0, none⟩) 3 [x, y, z] := Strs.new w [x, y, z] 9 (by unfold maxLen; simp)

set_option maxRecDepth 100000 in
set_option maxHeartbeats 4000000 in
theorem amembers_walk (p raw : ByteArray) (la : Option Addr) (lc : Nat) (l : List Int) (rd : Int) (w : World) (bp : p.size ≤ reachBytes) (br : raw.size ≤ reachBytes) (hl : Ints w la lc l) (hrd : (Lit.int .i64 rd).wf = true) (hE : Env w) :
    Calls Tryz.prog 5 #[.string p, .string raw, .slice la l.length lc, .int .i64 rd] w fun e w' => e = .returned (.bool true) ∧ Fr No w w' := by
  have hadd : p.size + raw.size ≤ 9223372036854775807 := by unfold reachBytes at bp br; omega
  have hp9 : p.size ≤ 9223372036854775807 := by omega
  have hr9 : raw.size ≤ 9223372036854775807 := by omega
  have hkn := known32 w hE
  clear bp br
  go_enter Tryz.func5, Tryz.ntmps5
  by_cases h600 : 600 < p.size + raw.size
  · have h6 : (600 : Int) < (p.size : Int) + (raw.size : Int) := by omega
    go_wp2_with fail
    refine hkn.mono ?_
    rintro e w1 ⟨rfl, hf1⟩
    have Hf1 := Lib.hid hf1
    clear hf1 hkn
    go_wp2_with fail
    go_ret
    exact ⟨rfl, Hf1.out⟩
  have h6 : ¬ (600 : Int) < (p.size : Int) + (raw.size : Int) := by omega
  clear hkn
  have hx : Fr No w (w.alloc (.cells #[.slice la l.length lc, .int .i64 0] 26)) := (Fr.refl _ _).alloc _
  have ht0 := Tape.make hl 26
  have HE0 := Lib.hid (hE.no hx)
  have hs0 : w.heap.size < (w.alloc (.cells #[.slice la l.length lc, .int .i64 0] 26)).heap.size := by simp
  have h9 : 9 ≤ w.heap.size := hE.sz
  have Hx := Lib.hid hx
  have hraw : raw.size ≤ 600 := by omega
  clear hx hl hE
  go_upto_region 4 with (fail)
  generalize w.alloc (.cells #[.slice la l.length lc, .int .i64 0] 26) = W0 at *
  clear h6 hadd
  go_wp2_with fail
  refine (tape_next w.heap.size w.heap.size 0 17 _ ht0 (by omega) (by omega) (by omega)).mono ?_
  rintro e wA ⟨r0, rfl, hr0a, hr0b, htA, hfA⟩
  obtain ⟨r0, rfl⟩ := Int.eq_ofNat_of_zero_le hr0a
  have HfA := Lib.hid hfA
  have hsA := hfA.size
  clear hfA ht0
  go_upto_region 5 with (fail)
  obtain ⟨tn, htn⟩ : ∃ tn : Nat, (1 : Int) + (r0 : Int) = (tn : Int) := ⟨1 + r0, by omega⟩
  rw [htn]
  have ht1n : 1 ≤ tn := by omega
  have ht17 : tn ≤ 17 := by omega
  clear htn hr0a hr0b
  refine region_sig (Is w.heap.size) [(0, false), (2, false), (8, false), (9, false), (10, false), (15, false), (19, false), (20, false), (21, false), (1, true), (3, true), (4, false), (5, true), (6, false), (7, false), (11, true), (12, true), (13, false), (14, false), (16, true), (17, false), (18, false), (22, true), (23, true), (24, false), (25, false), (26, true), (27, false)] (by kernel_rfl) (by kernel_rfl) (fun w0 hf0 => ?_)
  have hs00 := hf0.size
  have ht0 := htA.fr hf0 (fun _ _ => id) id
  have Hf0 : Hid (Fr (Is w.heap.size) W0 w0) := HfA.out.step hf0 (fun _ _ h => h.elim)
  clear htA hf0
  repeat (apply sig_q; exact rfl; exact rfl; exact rfl; intro K hK; go_big_quiet_op; go_big_quiet_on)
  apply sig_m
  exact rfl
  go_wp2_with fail
  refine (made_contents w0).mono ?_
  rintro e w1 ⟨rfl, hC1, hfm1⟩
  go_wp2_with fail
  refine OnlyN.mk ⟨hfm1.mono (fun _ _ h => h.elim), ?_⟩
  have hsm1 := hfm1.size
  have ht1 := ht0.fr hfm1 (fun _ _ => id) id
  have Hf1 := Lib.hid (Hf0.out.step hfm1 (fun _ _ h => h.elim))
  apply sig_m
  exact rfl
  go_wp2_with fail
  refine (made_contents w1).mono ?_
  rintro e w2 ⟨rfl, hC2, hfm2⟩
  go_wp2_with fail
  refine OnlyN.mk ⟨hfm2.mono (fun _ _ h => h.elim), ?_⟩
  have hsm2 := hfm2.size
  have ht2 := ht1.fr hfm2 (fun _ _ => id) id
  have Hf2 := Lib.hid (Hf1.out.step hfm2 (fun _ _ h => h.elim))
  apply sig_q; exact rfl; exact rfl; exact rfl; intro K hK; go_big_quiet_op; go_big_quiet_on
  apply sig_m
  exact rfl
  go_wp2_with fail
  refine (tape_next w.heap.size w.heap.size 1 16 w2 ht2 (by omega) (by omega) (by omega)).mono ?_
  rintro e w3 ⟨r, rfl, hr3, hq3, ht3, hfm3⟩
  obtain ⟨r, rfl⟩ := Int.eq_ofNat_of_zero_le hr3
  go_wp2_with fail
  refine OnlyN.mk ⟨hfm3, ?_⟩
  have hsm3 := hfm3.size
  have Hf3 := Lib.hid (Hf2.out.step hfm3 (fun _ _ h => h))
  have hC13 := (hC1.no hfm2 (fun _ => id)).fr hfm3 (fun ad e _ h => by cases e; unfold Is at h; simp only at h; omega)
  have hl4 : r < contents.length := by rw [contents_len]; omega
  obtain ⟨b4, o4, c1, hb4, hc4, hcc4⟩ := (hC13).at hl4
  cases hb4
  rw [Nat.zero_add] at hcc4
  have hcs4 := contents_size c1 (List.mem_of_getElem? hc4)
  have g4 : ∀ g : Gr (Is w.heap.size) w3, g.W.cell? ⟨w0.heap.size, r, none⟩ = some (.string c1) := fun g => g.fr.cell hcc4 (fun h => by unfold Is at h; simp only at h; omega)
  clear hc4 hl4
  repeat (apply sig_q; exact rfl; exact rfl; exact rfl; intro K hK; go_big_quiet_op; go_big_quiet_on)
  clear g4 hcc4
  clear hC1 hC2 hC13 hfm1 hfm2 hfm3
  have hs04 : True := trivial
  have ht4 := ht3
  have Hf4 := Hf3
  apply sig_m
  exact rfl
  go_wp2_with fail
  refine (tape_next w.heap.size w.heap.size 2 ((tn : Int) + 1) w3 ht4 (by omega) (by omega) (by omega)).mono ?_
  rintro e w5 ⟨r2, rfl, hr5, hq5, ht5, hfm5⟩
  obtain ⟨r2, rfl⟩ := Int.eq_ofNat_of_zero_le hr5
  go_wp2_with fail
  refine OnlyN.mk ⟨hfm5, ?_⟩
  have hsm5 := hfm5.size
  have Hf5 := Lib.hid (Hf4.out.step hfm5 (fun _ _ h => h))
  obtain ⟨I0, hI0⟩ : ∃ I : ByteArray, I = numBA r2 := ⟨_, rfl⟩
  have zi0 : I0.size ≤ 21 := by rw [hI0]; exact num21 r2 (by omega)
  have G0 : ∀ W, Calls Tryz.prog 13 #[.int .i64 (r2 : Int)] W fun e w' => e = .returned (.string I0) ∧ W = w' := by rw [hI0]; exact fun W => (Tryz.strconv_Itoa_small r2 (by omega) W).mono fun e w' ⟨h1, h2⟩ => ⟨h1, h2.symm⟩
  have HG0 := Lib.hid G0
  clear hI0 G0
  obtain ⟨I1, hI1⟩ : ∃ I : ByteArray, I = numBA tn := ⟨_, rfl⟩
  have zi1 : I1.size ≤ 21 := by rw [hI1]; exact num21 tn (by omega)
  have G1 : ∀ W, Calls Tryz.prog 13 #[.int .i64 (tn : Int)] W fun e w' => e = .returned (.string I1) ∧ W = w' := by rw [hI1]; exact fun W => (Tryz.strconv_Itoa_small tn (by omega) W).mono fun e w' ⟨h1, h2⟩ => ⟨h1, h2.symm⟩
  have HG1 := Lib.hid G1
  clear hI1 G1
  have z0 : ¬ 9223372036854775807 < 7 + I0.size := by omega
  have z1 : ¬ 9223372036854775807 < 7 + I0.size + 1 := by omega
  have z2 : ¬ 9223372036854775807 < 7 + I0.size + 1 + I1.size := by omega
  have z3 : ¬ 9223372036854775807 < 7 + I0.size + 1 + I1.size + 1 := by omega
  apply sig_m
  exact rfl
  go_wp2_with fail
  refine (HG0.out _).mono ?_
  rintro en wi0 ⟨rfl, rfl⟩
  go_wp2_with fail
  refine OnlyN.mk ⟨Fr.refl _ _, ?_⟩
  repeat (apply sig_q; exact rfl; exact rfl; exact rfl; intro K hK; go_big_quiet_op; go_big_quiet_on)
  apply sig_m
  exact rfl
  go_wp2_with fail
  refine (HG1.out _).mono ?_
  rintro en wi1 ⟨rfl, rfl⟩
  go_wp2_with fail
  refine OnlyN.mk ⟨Fr.refl _ _, ?_⟩
  repeat (apply sig_q; exact rfl; exact rfl; exact rfl; intro K hK; go_big_quiet_op; go_big_quiet_on)
  apply sig_m
  exact rfl
  go_wp2_with fail
  refine (tape_next w.heap.size w.heap.size 3 ((tn : Int) + 2) w5 ht5 (by omega) (by omega) (by omega)).mono ?_
  rintro e w6 ⟨r3, rfl, hr6, hq6, ht6, hfm6⟩
  obtain ⟨r3, rfl⟩ := Int.eq_ofNat_of_zero_le hr6
  go_wp2_with fail
  refine OnlyN.mk ⟨hfm6, ?_⟩
  have hsm6 := hfm6.size
  have Hf6 := Lib.hid (Hf5.out.step hfm6 (fun _ _ h => h))
  obtain ⟨I2, hI2⟩ : ∃ I : ByteArray, I = numBA r3 := ⟨_, rfl⟩
  have zi2 : I2.size ≤ 21 := by rw [hI2]; exact num21 r3 (by omega)
  have G2 : ∀ W, Calls Tryz.prog 13 #[.int .i64 (r3 : Int)] W fun e w' => e = .returned (.string I2) ∧ W = w' := by rw [hI2]; exact fun W => (Tryz.strconv_Itoa_small r3 (by omega) W).mono fun e w' ⟨h1, h2⟩ => ⟨h1, h2.symm⟩
  have HG2 := Lib.hid G2
  clear hI2 G2
  have z4 : ¬ 9223372036854775807 < 7 + I0.size + 1 + I1.size + 1 + I2.size := by omega
  have z5 : ¬ 9223372036854775807 < 7 + I0.size + 1 + I1.size + 1 + I2.size + 7 := by omega
  apply sig_m
  exact rfl
  go_wp2_with fail
  refine (HG2.out _).mono ?_
  rintro en wi2 ⟨rfl, rfl⟩
  go_wp2_with fail
  refine OnlyN.mk ⟨Fr.refl _ _, ?_⟩
  repeat (apply sig_q; exact rfl; exact rfl; exact rfl; intro K hK; go_big_quiet_op; go_big_quiet_on)
  have Hs3 : Hid (((⟨#[114, 97, 105, 100, 58, 114, 58]⟩ : ByteArray) ++ I0 ++ (⟨#[47]⟩ : ByteArray) ++ I1 ++ (⟨#[47]⟩ : ByteArray) ++ I2 ++ (⟨#[40, 102, 115, 58, 120, 58, 41]⟩ : ByteArray)).size ≤ 1000) := by
    unfold Hid; simp only [ByteArray.size_append]
    have u0 : (⟨#[114, 97, 105, 100, 58, 114, 58]⟩ : ByteArray).size = 7 := rfl
    have u1 : (⟨#[47]⟩ : ByteArray).size = 1 := rfl
    have u2 : (⟨#[40, 102, 115, 58, 120, 58, 41]⟩ : ByteArray).size = 7 := rfl
    omega
  generalize ((⟨#[114, 97, 105, 100, 58, 114, 58]⟩ : ByteArray) ++ I0 ++ (⟨#[47]⟩ : ByteArray) ++ I1 ++ (⟨#[47]⟩ : ByteArray) ++ I2 ++ (⟨#[40, 102, 115, 58, 120, 58, 41]⟩ : ByteArray)) = s3 at *
  clear z0 z1 z2 z3 z4 z5
  apply sig_m
  exact rfl
  go_wp2_with fail
  have hfa : Fr No w6 (w6.alloc (.cells #[.string raw, .string c1, .string s3] 9)) := (Fr.refl _ _).alloc _
  have HS := Lib.hid (texts_strs w6 raw c1 s3)
  have hsa := hfa.size
  have Hfa := Lib.hid ((Hx.out.trans (U := No) Hf6.out (fun _ _ h => h) (fun b hb h => by unfold Is at h; omega)).step hfa (fun _ _ h => h))
  have HEa : Hid (Env (w6.alloc (.cells #[.string raw, .string c1, .string s3] 9))) := (HE0.out.fr Hf6.out (fun b hb h => by unfold Is at h; omega)).no hfa
  refine OnlyN.mk ⟨hfa.mono (fun _ _ h => h.elim), ?_⟩
  generalize w6.alloc (.cells #[.string raw, .string c1, .string s3] 9) = W7 at *
  clear hfa
  repeat (apply sig_q; exact rfl; exact rfl; exact rfl; intro K hK; go_big_quiet_op; go_big_quiet_on)
  refine sig_end ?_
  have Hsz : Hid (∀ x ∈ [raw, c1, s3], x.size ≤ 100000) := by
    intro x hx
    simp only [List.mem_cons, List.not_mem_nil, or_false] at hx
    rcases hx with rfl | rfl | rfl
    · omega
    · omega
    · have := Hs3.out; omega
  go_wp2_with fail
  go_loopw [12] (fun v wr => ∃ j : Nat, j ≤ 3 ∧ v = .int .i64 (j : Int) ∧ Fr No W7 wr) (fun v _ => 3 - (intOf v).toNat)
  case atStart => exact ⟨0, by omega, rfl, Fr.refl _ _⟩
  case round =>
    obtain ⟨j, hj, rfl, hfr⟩ := hrel
    obtain ⟨W, rfl⟩ : ∃ W, W = wr := ⟨_, rfl⟩
    have HEr := Lib.hid (HEa.out.no hfr)
    have Hfr := Lib.hid hfr
    have HSr := Lib.hid (HS.out.no hfr (fun _ => id))
    by_cases hlt : j < 3
    · have hlt' : (j : Int) < 3 := by omega
      obtain ⟨b, off, x, hb, hxx, hxc⟩ := HSr.out.at (k := j) (by simpa using hlt)
      have hxs := Hsz.out x (List.mem_of_getElem? hxx)
      injection hb with hb
      injection hb with hb1 hb2
      subst hb1; subst hb2
      rw [Nat.zero_add] at hxc
      have ho1 := array_of p x rd W HEr.out hxs
      clear hfr hxx
      go_wp2_with fail
      refine ho1.mono ?_
      rintro e w8 ⟨hr1, hf8⟩
      have hxc8 := hf8.cell hxc id
      have HE8 := Lib.hid (HEr.out.no hf8)
      have Hf8 := Lib.hid (Hfr.out.step hf8 (fun _ _ h => h))
      clear ho1 hf8 hxc
      rcases hr1 with ⟨hn1, rfl⟩ | ⟨c, a1, k1, hp1, hk1, rfl, hS1, -⟩
      · have Hn1 := Lib.hid hn1
        have hx9 : Fr No w8 (w8.alloc (.cells #[.string ⟨#[]⟩, .string ⟨#[]⟩, .int .i64 0, .int .i64 0, .int .i64 0, .int .i64 0, .slice none 0 0] 31)) := (Fr.refl _ _).alloc _
        have q9 := block_alloc w8 (.cells #[.string ⟨#[]⟩, .string ⟨#[]⟩, .int .i64 0, .int .i64 0, .int .i64 0, .int .i64 0, .slice none 0 0] 31)
        have hxc9 := hx9.cell hxc8 id
        have HE9 := Lib.hid (HE8.out.no hx9)
        have Hf9 := Lib.hid (Hf8.out.step hx9 (fun _ _ h => h))
        clear hx9 hxc8 hn1
        go_upto_region 10 with (fail)
        generalize w8.alloc (.cells #[.string ⟨#[]⟩, .string ⟨#[]⟩, .int .i64 0, .int .i64 0, .int .i64 0, .int .i64 0, .slice none 0 0] 31) = W9 at *
        have ho2 := ref_of32 p x rd W9 HE9.out hxs
        go_wp2_with fail
        refine ho2.mono ?_
        rintro e w10 ⟨hr2, hf10⟩
        have q10 := hf10.heap q9 id
        have Hf10 := Lib.hid (Hf9.out.step hf10 (fun _ _ h => h))
        clear ho2 hf10 q9 hxc9
        rcases hr2 with ⟨hn2, rfl⟩ | ⟨c', a2, k2, hp2, hk2, rfl, hS2, -⟩
        · have hx11 : Fr No w10 (w10.alloc (.cells #[.string ⟨#[]⟩, .string ⟨#[]⟩, .int .i64 0, .int .i64 0, .int .i64 0, .int .i64 0, .slice none 0 0] 31)) := (Fr.refl _ _).alloc _
          have q11 := block_alloc w10 (.cells #[.string ⟨#[]⟩, .string ⟨#[]⟩, .int .i64 0, .int .i64 0, .int .i64 0, .int .i64 0, .slice none 0 0] 31)
          have q12 := hx11.heap q10 id
          have Hf11 := Lib.hid (Hf10.out.step hx11 (fun _ _ h => h))
          clear hx11 q10 hn2
          go_upto_region 11 with (fail)
          generalize w10.alloc (.cells #[.string ⟨#[]⟩, .string ⟨#[]⟩, .int .i64 0, .int .i64 0, .int .i64 0, .int .i64 0, .slice none 0 0] 31) = W11 at *
          have hsame := same_member_eq ⟨#[]⟩ ⟨#[]⟩ 0 0 0 0 none none [] 0 0 W11 (Strs.nil _) (Strs.nil _)
          simp only [List.length_nil] at hsame
          have x0 : W11.cell? ⟨w8.heap.size, 0, none⟩ = some (.string ⟨#[]⟩) := cell_of_block q12 0
          have y0 : W11.cell? ⟨w10.heap.size, 0, none⟩ = some (.string ⟨#[]⟩) := cell_of_block q11 0
          have x1 : W11.cell? ⟨w8.heap.size, 1, none⟩ = some (.string ⟨#[]⟩) := cell_of_block q12 1
          have y1 : W11.cell? ⟨w10.heap.size, 1, none⟩ = some (.string ⟨#[]⟩) := cell_of_block q11 1
          have x2 : W11.cell? ⟨w8.heap.size, 2, none⟩ = some (.int .i64 0) := cell_of_block q12 2
          have y2 : W11.cell? ⟨w10.heap.size, 2, none⟩ = some (.int .i64 0) := cell_of_block q11 2
          have x3 : W11.cell? ⟨w8.heap.size, 3, none⟩ = some (.int .i64 0) := cell_of_block q12 3
          have y3 : W11.cell? ⟨w10.heap.size, 3, none⟩ = some (.int .i64 0) := cell_of_block q11 3
          have x4 : W11.cell? ⟨w8.heap.size, 4, none⟩ = some (.int .i64 0) := cell_of_block q12 4
          have y4 : W11.cell? ⟨w10.heap.size, 4, none⟩ = some (.int .i64 0) := cell_of_block q11 4
          have x5 : W11.cell? ⟨w8.heap.size, 5, none⟩ = some (.int .i64 0) := cell_of_block q12 5
          have y5 : W11.cell? ⟨w10.heap.size, 5, none⟩ = some (.int .i64 0) := cell_of_block q11 5
          have x6 : W11.cell? ⟨w8.heap.size, 6, none⟩ = some (.slice none 0 0) := cell_of_block q12 6
          have y6 : W11.cell? ⟨w10.heap.size, 6, none⟩ = some (.slice none 0 0) := cell_of_block q11 6
          clear q11 q12
          go_wp2_with fail
          refine hsame.mono ?_
          rintro e w12 ⟨rfl, hf12⟩
          have Hf12 := Lib.hid (Hf11.out.step hf12 (fun _ _ h => h))
          clear hsame hf12 x0 y0 x1 y1 x2 y2 x3 y3 x4 y4 x5 y5 x6 y6
          go_wp2_with fail
          go_roundw
          case rel => exact ⟨j + 1, by omega, by go_num, Hf12.out⟩
          case measure => simp [intOf]; omega
        · exact absurd hk2 (Hn1.out c' hp2)
      · have Hp1 := Lib.hid hp1
        have Hk1 := Lib.hid hk1
        have hx9 : Fr No w8 (w8.alloc (.cells #[.string p, .string c.id, .int .i64 rd, .int .i64 c.slot, .int .i64 c.total, .int .i64 c.least, .slice a1 c.inner.length k1] 31)) := (Fr.refl _ _).alloc _
        have q9 := block_alloc w8 (.cells #[.string p, .string c.id, .int .i64 rd, .int .i64 c.slot, .int .i64 c.total, .int .i64 c.least, .slice a1 c.inner.length k1] 31)
        have hxc9 := hx9.cell hxc8 id
        have HE9 := Lib.hid (HE8.out.no hx9)
        have Hf9 := Lib.hid (Hf8.out.step hx9 (fun _ _ h => h))
        have HS9 := Lib.hid (hS1.no hx9 (fun _ => id))
        clear hx9 hxc8 hp1 hk1 hS1
        go_upto_region 10 with (fail)
        generalize w8.alloc (.cells #[.string p, .string c.id, .int .i64 rd, .int .i64 c.slot, .int .i64 c.total, .int .i64 c.least, .slice a1 c.inner.length k1] 31) = W9 at *
        have ho2 := ref_of32 p x rd W9 HE9.out hxs
        go_wp2_with fail
        refine ho2.mono ?_
        rintro e w10 ⟨hr2, hf10⟩
        have q10 := hf10.heap q9 id
        have Hf10 := Lib.hid (Hf9.out.step hf10 (fun _ _ h => h))
        have HS10 := Lib.hid (HS9.out.no hf10 (fun _ => id))
        clear ho2 hf10 q9 hxc9
        rcases hr2 with ⟨hn2, rfl⟩ | ⟨c', a2, k2, hp2, hk2, rfl, hS2, -⟩
        · exact absurd Hk1.out (hn2 c Hp1.out)
        · obtain rfl : c = c' := by rw [Hp1.out] at hp2; exact Option.some.inj hp2
          have hx11 : Fr No w10 (w10.alloc (.cells #[.string p, .string c.id, .int .i64 rd, .int .i64 c.slot, .int .i64 c.total, .int .i64 c.least, .slice a2 c.inner.length k2] 31)) := (Fr.refl _ _).alloc _
          have q11 := block_alloc w10 (.cells #[.string p, .string c.id, .int .i64 rd, .int .i64 c.slot, .int .i64 c.total, .int .i64 c.least, .slice a2 c.inner.length k2] 31)
          have q12 := hx11.heap q10 id
          have Hf11 := Lib.hid (Hf10.out.step hx11 (fun _ _ h => h))
          have hSa := HS10.out.no hx11 (fun _ => id)
          have hSb := hS2.no hx11 (fun _ => id)
          clear hx11 q10 hp2 hk2 hS2
          go_upto_region 11 with (fail)
          generalize w10.alloc (.cells #[.string p, .string c.id, .int .i64 rd, .int .i64 c.slot, .int .i64 c.total, .int .i64 c.least, .slice a2 c.inner.length k2] 31) = W11 at *
          have hsame := same_member_eq p c.id rd c.slot c.total c.least a1 a2 (c.inner.map Ct.txt) k1 k2 W11 hSa hSb
          rw [List.length_map] at hsame
          have x0 : W11.cell? ⟨w8.heap.size, 0, none⟩ = some (.string p) := cell_of_block q12 0
          have y0 : W11.cell? ⟨w10.heap.size, 0, none⟩ = some (.string p) := cell_of_block q11 0
          have x1 : W11.cell? ⟨w8.heap.size, 1, none⟩ = some (.string c.id) := cell_of_block q12 1
          have y1 : W11.cell? ⟨w10.heap.size, 1, none⟩ = some (.string c.id) := cell_of_block q11 1
          have x2 : W11.cell? ⟨w8.heap.size, 2, none⟩ = some (.int .i64 rd) := cell_of_block q12 2
          have y2 : W11.cell? ⟨w10.heap.size, 2, none⟩ = some (.int .i64 rd) := cell_of_block q11 2
          have x3 : W11.cell? ⟨w8.heap.size, 3, none⟩ = some (.int .i64 c.slot) := cell_of_block q12 3
          have y3 : W11.cell? ⟨w10.heap.size, 3, none⟩ = some (.int .i64 c.slot) := cell_of_block q11 3
          have x4 : W11.cell? ⟨w8.heap.size, 4, none⟩ = some (.int .i64 c.total) := cell_of_block q12 4
          have y4 : W11.cell? ⟨w10.heap.size, 4, none⟩ = some (.int .i64 c.total) := cell_of_block q11 4
          have x5 : W11.cell? ⟨w8.heap.size, 5, none⟩ = some (.int .i64 c.least) := cell_of_block q12 5
          have y5 : W11.cell? ⟨w10.heap.size, 5, none⟩ = some (.int .i64 c.least) := cell_of_block q11 5
          have x6 : W11.cell? ⟨w8.heap.size, 6, none⟩ = some (.slice a1 c.inner.length k1) := cell_of_block q12 6
          have y6 : W11.cell? ⟨w10.heap.size, 6, none⟩ = some (.slice a2 c.inner.length k2) := cell_of_block q11 6
          clear q11 q12 hSa hSb
          go_wp2_with fail
          refine hsame.mono ?_
          rintro e w12 ⟨rfl, hf12⟩
          have Hf12 := Lib.hid (Hf11.out.step hf12 (fun _ _ h => h))
          clear hsame hf12 x0 y0 x1 y1 x2 y2 x3 y3 x4 y4 x5 y5 x6 y6
          go_wp2_with fail
          go_roundw
          case rel => exact ⟨j + 1, by omega, by go_num, Hf12.out⟩
          case measure => simp [intOf]; omega
    · have hlt' : ¬ (j : Int) < 3 := by omega
      have hk := known32 W HEr.out
      clear hfr
      go_wp2_with fail
      refine hk.mono ?_
      rintro e w9 ⟨rfl, hf9⟩
      have Hfin := Lib.hid ((Hfa.out.step Hfr.out (fun _ _ h => h)).step hf9 (fun _ _ h => h))
      clear hk hf9
      go_wp2_with fail
      go_ret
      exact ⟨rfl, Hfin.out⟩
end Go.Proofs.YtcibciippghooaaGreatDoor
namespace Go.Proofs.YtcibciippghooaaGreatDoor.arrayMembers
open Go.ChangeShapes Go.WideShapes Go.ChangeAt Go.RowKit
open Go.ChangeMaps (open_string shut_string)
set_option linter.unusedVariables false

theorem own : ownKnob Tryz.prog.godebug = none := by kernel_rfl
theorem laidOut : laidOutB Tryz.prog = true := by kernel_rfl

set_option maxRecDepth 100000 in
theorem lifted (os : Os) (started : os.Started) (H : Type) (enc : TypeId × Value → H) :
    ReturnsInHanded {} Tryz.checked os 5 .any (fun w args => (Rows.arrayMembersSpec.pre enc Tryz.prog Tryz.f5 Rows.arrayMembersRow.domain false w args ∧ laidMetH Tryz.prog Rows.arrayMembersRow.laid w) ∧ sizedMet enc Tryz.prog Tryz.f5 (OpenSpec.ofChange Rows.arrayMembersSpec) false w args)
      (Rows.arrayMembersSpec.post enc Tryz.prog Tryz.f5 false true false false) := by
  refine returns_laid_sized (C := Tryz.checked) (X := fun w _ => laidMetH Tryz.prog Rows.arrayMembersRow.laid w) (fun _ _ _ hh h => h.of_heap hh) own started (by kernel_rfl) Tryz.func5
    (ChangeSpec.witness_shaped (enc := enc) (C := Tryz.checked) (os := os) (X := fun w _ => laidMetH Tryz.prog Rows.arrayMembersRow.laid w) false (World.laidAll Tryz.prog os Rows.arrayMembersRow.laid) #[.string ⟨#[]⟩, .string ⟨#[]⟩, .slice none 0 0, .int .i64 0] 8 (World.laidAll_os _ _ _)
      (World.shaped_of_ZipB (by kernel_rfl) (by kernel_rfl)) (by kernel_rfl) (by kernel_rfl) (by kernel_rfl)
      (by rw [MakeChecks.laidMetH_plain _ _ _ (by kernel_rfl)]; exact laidMet_laidAll _ (by kernel_rfl) (by kernel_rfl))) ?_
  intro W base args ds gs before hval0 hW hz hL hsh
  have hval : ∀ (j : Nat) t v, Tryz.f5.params[j]? = some t → args[j]? = some v → Value.okWide Tryz.prog W .any base t v := hval0
  have hW' := hW
  obtain ⟨p, q, hA0, hV, rfl, hfz, hnd⟩ := hW
  have hA : DataW.TrodAll enc Tryz.prog W 0 (fun _ => true) true Tryz.f5.params.toList args.toList ds p := hA0
  have hsz : ∀ (j : Nat) (t : TypeId) (d : DataW H), (Tryz.f5.params.toList ++ (OpenSpec.ofChange Rows.arrayMembersSpec).bare.plain.varTypes Tryz.prog)[j]? = some t → (ds ++ gs)[j]? = some d → Wt t d := fun j t d h1 h2 => wt_each hz h1 h2
  rw [Tryz.params5] at hA hval hsz
  obtain ⟨v0, vs0, d0, ds0, p0, q0, hargs, rfl, rfl, h0, r0⟩ := trodAll_cons hA
  obtain ⟨v1, vs1, d1, ds1, p1, q1, rfl, rfl, rfl, h1, r1⟩ := trodAll_cons r0
  obtain ⟨v2, vs2, d2, ds2, p2, q2, rfl, rfl, rfl, h2, r2⟩ := trodAll_cons r1
  obtain ⟨v3, vs3, d3, ds3, p3, q3, rfl, rfl, rfl, h3, r3⟩ := trodAll_cons r2
  obtain ⟨rfl, rfl, rfl⟩ := trodAll_nil r3
  obtain rfl : args = #[v0, v1, v2, v3] := by cases args; simp_all
  obtain ⟨rfl, rfl⟩ := trodVars_none hV
  have z0 : Wt 9 d0 := hsz 0 _ _ rfl rfl
  have z1 : Wt 9 d1 := hsz 1 _ _ rfl rfl
  have z2 : Wt 22 d2 := hsz 2 _ _ rfl rfl
  have z3 : Wt 3 d3 := hsz 3 _ _ rfl rfl
  clear hsz hz
  obtain ⟨a0, rfl, rfl, rfl, w0⟩ := open_string Tryz.underlying9 (hval 0 9 v0 rfl rfl) h0
  have b0 : a0.size ≤ reachBytes := wt_string z0
  obtain ⟨a1, rfl, rfl, rfl, w1⟩ := open_string Tryz.underlying9 (hval 1 9 v1 rfl rfl) h1
  have b1 : a1.size ≤ reachBytes := wt_string z1
  obtain ⟨a2, len2, cap2, rfl⟩ := okWide_slice Tryz.underlying22 (hval 2 22 v2 rfl rfl)
  have k2 := h2
  have lt2 : ∀ x ∈ p2, x.block < W.heap.size := by obtain ⟨m, hm⟩ := k2; exact DataW.trod_lt m _ _ _ hm
  obtain ⟨l2, rfl, hl2⟩ : ∃ l : List Int, l.length = len2 ∧ Ints W a2 cap2 l := by
    obtain ⟨fuel, hf⟩ := h2
    rcases open_ints Tryz.underlying22 Tryz.underlying3 (by kernel_rfl) hf with ⟨hcs, _⟩ | ⟨x, l, c, zs, hcs, _, hl, hm, hz, _, hcell, hwz⟩
    · simp [Value.cells] at hcs
      obtain ⟨rfl, rfl, rfl⟩ := hcs
      exact Ints.of_isRow (zs := []) (.inl ⟨rfl, rfl, rfl, rfl⟩)
    · simp [Value.cells] at hcs
      obtain ⟨rfl, rfl, rfl⟩ := hcs
      exact Ints.of_isRow (zs := zs) (.inr ⟨_, rfl, hl, hm, by simpa using hz, hcell, hwz⟩)
  obtain ⟨a3, rfl, rfl, rfl, w3⟩ := open_int Tryz.underlying3 (hval 3 3 v3 rfl rfl) h3
  rw [MakeChecks.laidMetH_plain _ _ _ (by kernel_rfl)] at hL
  have hE := env_of hsh hL
  clear hA0 hval0
  refine (amembers_walk a0 a1 a2 cap2 l2 a3 W b0 b1 hl2 w3 hE).mono fun e W' ⟨he, hfr⟩ => ?_
  have bel : Below W.heap.size W W' := hfr.below (Nat.le_refl _) (fun b hb e => e)
  subst he
  exact ⟨_, rfl, _, _, _, [], _, [], hW', trodAll_mk1 (shut_bool Tryz.underlying4 _), (trodAll_cons_mk (shut_string Tryz.underlying9 w0) (trodAll_cons_mk (shut_string Tryz.underlying9 w1) (trodAll_cons_mk (Below.trod laidOut (by kernel_rfl) (of_decide_eq_true (by kernel_rfl)) k2 bel lt2) (trodAll_cons_mk (shut_int Tryz.underlying3 w3) trodAll_mk0)))), rfl, bel.frame _, fun h => by cases h⟩

theorem isNamed : Tryz.pinned.checked.prog.funcNamed Rows.arrayMembersRow.func = some 5 := by kernel_rfl
theorem and2 {a b : Bool} (h : a = true) (k : b = true) : (a && b) = true := by rw [h, k]; rfl
theorem c0 : (Rows.arrayMembersRow.wf (OpenSpec.ofChange Rows.arrayMembersSpec)) = true := by kernel_rfl
theorem c1 : (laidOutB Tryz.pinned.checked.prog) = true := by kernel_rfl
theorem c2 : (mapsRowed Tryz.pinned.checked.prog) = true := by kernel_rfl
theorem c3 : (Tryz.f5.params.all (Tryz.pinned.checked.prog.readableRec ·)) = true := by kernel_rfl
theorem c4 : (namedTie Tryz.pinned.checked.prog Rows.arrayMembersRow.named Rows.arrayMembersSpec.vars) = true := by kernel_rfl
theorem c5 : ((Rows.arrayMembersRow.stops == [])) = true := by kernel_rfl
theorem c6 : ((Tryz.pinned.checked.prog.stops == [])) = true := by kernel_rfl
theorem c7 : ((Rows.arrayMembersRow.knobs == [])) = true := by kernel_rfl
theorem c8 : ((Tryz.pinned.checked.prog.stopKnobs == [])) = true := by kernel_rfl
theorem c9 : ((Rows.arrayMembersRow.inPlace == Tryz.pinned.checked.prog.inPlace 5)) = true := by kernel_rfl
theorem c10 : ((Rows.arrayMembersRow.unfollowed == Tryz.pinned.checked.prog.unfollowed 5)) = true := by kernel_rfl
theorem c11 : ((Rows.arrayMembersRow.recurses == Tryz.pinned.checked.prog.recurses 5)) = true := by kernel_rfl
theorem c12 : ((Rows.arrayMembersRow.named == Tryz.pinned.checked.prog.varsNamed 5)) = true := by kernel_rfl
theorem c13 : ((Rows.arrayMembersRow.maps == (Tryz.f5.params.toList ++ Rows.arrayMembersSpec.plain.varTypes Tryz.pinned.checked.prog).any (Tryz.pinned.checked.prog.mapsRec ·))) = true := by kernel_rfl
theorem c14 : ((Rows.arrayMembersRow.ifaces == (Tryz.f5.params.toList ++ Rows.arrayMembersSpec.plain.varTypes Tryz.pinned.checked.prog).any (Tryz.pinned.checked.prog.ifacesRec ·))) = true := by kernel_rfl
theorem c15 : ((Rows.arrayMembersRow.mapsOut == Tryz.pinned.checked.prog.mapsAmong Tryz.f5.resultTypes.toList)) = true := by kernel_rfl
theorem c16 : ((Rows.arrayMembersRow.loops == (Tryz.f5.params.toList ++ Rows.arrayMembersSpec.plain.varTypes Tryz.pinned.checked.prog).any (Tryz.pinned.checked.prog.loopsFrom ·))) = true := by kernel_rfl
theorem c17 : ((Rows.arrayMembersRow.wideKeys == (Tryz.f5.params.toList ++ Rows.arrayMembersSpec.plain.varTypes Tryz.pinned.checked.prog ++ Tryz.f5.resultTypes.toList).any (Tryz.pinned.checked.prog.wideKeysFrom ·))) = true := by kernel_rfl
theorem c18 : (Rows.arrayMembersSpec.vars.all (Tryz.pinned.checked.prog.varReadable ·)) = true := by kernel_rfl
theorem c19 : (Tryz.f5.resultTypes.all (fun t => Tryz.pinned.checked.prog.readableRec t && decide (t < Tryz.pinned.checked.prog.types.size))) = true := by kernel_rfl
theorem c20 : ((Rows.arrayMembersRow.ifacesOut == Tryz.f5.resultTypes.toList.any (Tryz.pinned.checked.prog.ifacesRec ·))) = true := by kernel_rfl
theorem c21 : ((Rows.arrayMembersRow.loopsOut == Tryz.f5.resultTypes.toList.any (Tryz.pinned.checked.prog.loopsFrom ·))) = true := by kernel_rfl
theorem c22 : ((Rows.arrayMembersRow.plainKeys == Tryz.pinned.checked.prog.plainKeys)) = true := by kernel_rfl
theorem c23 : (Rows.arrayMembersRow.shortTexts.isNone) = true := by kernel_rfl
theorem c24 : (Tryz.pinned.checked.prog.stopsHeard) = true := by kernel_rfl
theorem c25 : (Tryz.pinned.checked.prog.mayEnter) = true := by kernel_rfl
theorem c26 : ((Rows.arrayMembersRow.lifted == Tryz.pinned.checked.prog.liftsFinal)) = true := by kernel_rfl
theorem c27 : ((Tryz.pinned.checked.prog.make == some Rows.arrayMembersRow.make)) = true := by kernel_rfl
theorem c28 : ((Rows.arrayMembersRow.kinds == (if Rows.arrayMembersRow.domain.isEmpty then [] else Tryz.f5.params.toList.map fun t => match Tryz.pinned.checked.prog.underlying t with | some (.int k) => some k | _ => none))) = true := by kernel_rfl
theorem c29 : ((Rows.arrayMembersRow.pinned == Rows.arrayMembersRow.pinnedBy)) = true := by kernel_rfl
theorem c30 : ((Rows.arrayMembersRow.veiled == (Tryz.f5.params.toList ++ Rows.arrayMembersSpec.plain.varTypes Tryz.pinned.checked.prog ++ Tryz.f5.resultTypes.toList).any (Tryz.pinned.checked.prog.veiledRec ·))) = true := by kernel_rfl
theorem c31 : (Rows.arrayMembersRow.veiledFits Tryz.pinned.checked.prog Tryz.f5.params.toList (Tryz.f5.params.toList ++ Rows.arrayMembersSpec.plain.varTypes Tryz.pinned.checked.prog ++ Tryz.f5.resultTypes.toList)) = true := by kernel_rfl
set_option maxRecDepth 100000 in
theorem closed : joinedFacts Tryz.pinned.checked.prog 5 Tryz.f5 Rows.arrayMembersSpec Rows.arrayMembersRow = true := by
  unfold joinedFacts
  exact (and2 (and2 (and2 (and2 (and2 (and2 (and2 (and2 (and2 (and2 (and2 (and2 (and2 (and2 (and2 (and2 (and2 (and2 (and2 (and2 (and2 (and2 (and2 (and2 (and2 (and2 (and2 (and2 (and2 (and2 (and2 c0 c1) c2) c3) c4) c5) c6) c7) c8) c9) c10) c11) c12) c13) c14) c15) c16) c17) c18) c19) c20) c21) c22) c23) c24) c25) c26) c27) c28) c29) c30) c31)
theorem inst : Tryz.f5.isInstance Tryz.pinned.checked.prog Rows.arrayMembersRow.origin Rows.arrayMembersRow.targs := of_decide_eq_true (by kernel_rfl)
theorem wrap : Tryz.f5.isWrapper Tryz.pinned.checked.prog Rows.arrayMembersRow.wrapper Rows.arrayMembersRow.mainSum := by
  unfold Func.isWrapper; first | (rw [if_pos (by decide +kernel)]; kernel_rfl) | (rw [if_neg (by decide +kernel)]; exact ⟨rfl, rfl⟩)
theorem over : Rows.arrayMembersRow.holds Tryz.pinned (OpenSpec.ofChange Rows.arrayMembersSpec) :=
  OpenClaim.holds_of_wide 5 Tryz.f5 rfl rfl rfl rfl rfl rfl rfl ⟨rfl, rfl, rfl, rfl, rfl⟩ rfl rfl rfl rfl rfl isNamed Tryz.func5 closed inst wrap
    (fun os started H enc _ => lifted os started H enc)

theorem t1 : Rows.arrayMembersRow.wfByText (OpenSpec.ofChange Rows.arrayMembersSpec) = true := by kernel_rfl
theorem t2 : Tryz.pinned.checked.prog.mainIs = some ((true, "c66075463afcb97363b981192f1c4894b532f06237c2bbe857d6b0e66370cf0b").1, (true, "c66075463afcb97363b981192f1c4894b532f06237c2bbe857d6b0e66370cf0b").2.toList) := by kernel_rfl
theorem t3 : true = Tryz.pinned.checked.prog.looks [] := by kernel_rfl
theorem t4 : false = Rows.arrayMembersRow.goesBy Tryz.pinned.checked.prog := by kernel_rfl
theorem t5 : Tryz.prog.funcNamed "coldplug/coldpluglaw32.ArrayMembers" = some 5 := by kernel_rfl
theorem t6 : ([9, 9, 22, 3].all fun u => !Tryz.prog.wantsStandIn u) = true := by kernel_rfl
theorem proved : Rows.ArrayMembersCardSaid :=
  Claim7.holds_tied_plain_at .later [] [.data, .data, .data, .data, .sentinel, .sentinel, .pinned, .pinned] true (true, "c66075463afcb97363b981192f1c4894b532f06237c2bbe857d6b0e66370cf0b") true over (fun _ h => by cases h) t1 (fun _ h => by cases h) arrayMembers_row_tie rfl ⟨rfl, rfl⟩ t2 rfl
    (fun f fn hf hfn => by
      obtain rfl : f = 5 := Option.some.inj (t5.symm.trans hf) |>.symm
      obtain rfl : fn = Tryz.f5 := (Option.some.inj (Tryz.func5.symm.trans hfn)).symm
      exact ⟨t3, fun j t ht => by
        rw [Tryz.params5] at ht
        have hm : t ∈ [9, 9, 22, 3] := by simpa using Array.mem_of_getElem? ht
        have hall : ([9, 9, 22, 3].all fun u => !Tryz.prog.wantsStandIn u) = true := t6
        exact (show Tryz.prog.wantsStandIn t = false by simpa using List.all_eq_true.1 hall t hm)⟩)
    t4
#print axioms proved
end Go.Proofs.YtcibciippghooaaGreatDoor.arrayMembers
