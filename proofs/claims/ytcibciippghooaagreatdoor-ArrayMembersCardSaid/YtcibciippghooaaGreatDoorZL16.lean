/- coldplugref07.Text, coldplugref32.Texts. Format; gather.Read. -/
import Derived.Test.YtcibciippghooaaGreatDoorZL11
import Derived.Test.YtcibciippghooaaGreatDoorZL15
namespace Go.Proofs.YtcibciippghooaaGreatDoor
open Go.RowKit Go.Maps
set_option linter.unusedVariables false

theorem r_joined (av : Option Addr) (cv base : Nat) (n : List Ct) (w : World) (hown : w.ownsRow base 9 1 (.slice av n.length cv) n.length ((n.map Ct.txt).map Value.string)) (hs : (commas (n.map Ct.text)).length ≤ 100000) (hn : n.length ≤ 100000) :
    Calls Tryz.prog 72 #[.slice av n.length cv, .string ⟨#[44]⟩] w fun e w' => e = .returned (.string (inTxt n)) ∧ Fr No w w' := by
  cases n with
  | nil =>
    refine (Tryz.strings_Join_none av cv ⟨#[44]⟩ w).mono ?_
    rintro e w1 ⟨rfl, rfl⟩
    exact ⟨rfl, Fr.refl _ _⟩
  | cons c n =>
    have hlen : ((c :: n).map Ct.txt).length = (c :: n).length := List.length_map _
    rw [← hlen] at hown ⊢
    obtain ⟨a, cap, ev, hst, _⟩ := Strs.of_own hown
    cases ev
    obtain ⟨b, off, x, rfl, _, _⟩ := hst.at (k := 0) (by simp)
    obtain ⟨_, hb, hc⟩ := hst.cell _ rfl (by simp)
    refine (Tryz.strings_Join b off cv _ ⟨#[44]⟩ _ (fun j x hx => hc j x hx) hb (by rw [hlen]; omega) hst.len (by show (Lib.join _ [44]).length ≤ _; rw [in_len]; omega)).mono ?_
    rintro e w1 ⟨rfl, hf⟩
    exact ⟨by rw [← in_join], Fr.of_below_size hf⟩

set_option maxRecDepth 100000 in
set_option maxHeartbeats 4000000 in
theorem r_text_n (m : Nat) : m ≤ 10000 → ∀ (k s t e : Int) (i l : ByteArray) (n : List Ct) (a : Option Addr) (cap : Nat) (w : World) (X : Nat → Prop), Ct.counts n < m → InAt w X a cap n → (Ct.mk k i l s t e n).good = true → (Ct.mk k i l s t e n).text.length ≤ 100000 →
    Calls Tryz.prog 46 #[.agg #[.int .i64 k, .string i, .string l, .int .i64 s, .int .i64 t, .int .i64 e, .slice a n.length cap]] w fun en w2 => en = .returned (.string (Ct.mk k i l s t e n).txt) ∧ Fr No w w2 := by
  obtain ⟨i0, hi0, hz0, hz1, hz2⟩ := info_parts infoS
  induction m with
  | zero => intro _ k s t e i l n a cap w X h; omega
  | succ m ih =>
    intro hm k s t e i l n a cap w X hcn hin hgood htl
    have hnl := len_counts n
    have hga := good_alike hgood
    have hile := in_le hgood
    have hkd := alike_kind hga.1
    obtain ⟨his, hls⟩ := alike_small hga.1
    have hall : ∀ d ∈ n, d.good = true := fun d hd => List.all_eq_true.1 hga.2 d hd
    have htx : ∀ d ∈ n, d.text.length ≤ 100000 := fun d hd => by
      have h1 := commas_mem (List.mem_map_of_mem (f := Ct.text) hd)
      have h2 : (commas (n.map Ct.text)).length ≤ _ := hile
      omega
    have hin1000 : (commas (n.map Ct.text)).length ≤ 100000 := Nat.le_trans hile htl
    have Hall := Lib.hid hall
    have Htx := Lib.hid htx
    have Hkd := Lib.hid hkd
    have Hin1 := Lib.hid hin1000
    have h0 : Fr No w (w.alloc (.cells #[.int .i64 k, .string i, .string l, .int .i64 s, .int .i64 t, .int .i64 e, .slice a n.length cap] 48)) := (Fr.refl _ _).alloc _
    have q1 := block_alloc w (.cells #[.int .i64 k, .string i, .string l, .int .i64 s, .int .i64 t, .int .i64 e, .slice a n.length cap] 48)
    have hsz : w.heap.size < (w.alloc (.cells #[.int .i64 k, .string i, .string l, .int .i64 s, .int .i64 t, .int .i64 e, .slice a n.length cap] 48)).heap.size := by simp
    obtain ⟨W0, hW0⟩ : ∃ W0, W0 = w.alloc (.cells #[.int .i64 k, .string i, .string l, .int .i64 s, .int .i64 t, .int .i64 e, .slice a n.length cap] 48) := ⟨_, rfl⟩
    rw [← hW0] at h0 q1 hsz
    have hin0 := hin.fr h0 (fun _ _ => id)
    have Hin0 := Lib.hid hin0
    have Ih := Lib.hid (ih (by omega))
    have H0 := Lib.hid h0
    clear ih hin h0 hkd hall htx hga hgood hile htl hin0 hin1000
    go_enter Tryz.func46, Tryz.ntmps46
    go_upto_region 1 with (fail)
    rw [← hW0]
    clear hW0
    have a0 : W0.cell? ⟨w.heap.size, 0, none⟩ = some (.int .i64 k) := cell_of_block q1 0
    have a1 : W0.cell? ⟨w.heap.size, 1, none⟩ = some (.string i) := cell_of_block q1 1
    have a2 : W0.cell? ⟨w.heap.size, 2, none⟩ = some (.string l) := cell_of_block q1 2
    have a3 : W0.cell? ⟨w.heap.size, 3, none⟩ = some (.int .i64 s) := cell_of_block q1 3
    have a4 : W0.cell? ⟨w.heap.size, 4, none⟩ = some (.int .i64 t) := cell_of_block q1 4
    have a5 : W0.cell? ⟨w.heap.size, 5, none⟩ = some (.int .i64 e) := cell_of_block q1 5
    have a6 : W0.cell? ⟨w.heap.size, 6, none⟩ = some (.slice a n.length cap) := cell_of_block q1 6
    go_upto_block 0 with (fail)
    go_cut [3] (fun v wc => ∃ hb : ByteArray, v = .string hb ∧ (Ct.mk k i l s t e n).txt = hb ++ boxed n ∧ hb.size ≤ 60 ∧ Fr No W0 wc)
    case first =>
      rcases Hkd.out with ⟨rfl | rfl, rfl⟩ | ⟨rfl, hh⟩ | rfl | ⟨rfl, hh⟩ | rfl
      · go_wp2_with fail
        go_ret
        exact ⟨by rw [txt0]; rfl, H0.out⟩
      · have up : (⟨#[102, 115, 58]⟩ : ByteArray).size = 3 := rfl
        have z1 : ¬ 9223372036854775807 < 3 + i.size := by omega
        have z2 : ¬ 9223372036854775807 < 3 + i.size + 1 := by omega
        have z3 : ¬ 9223372036854775807 < 3 + i.size + 1 + l.size := by omega
        clear up
        go_wp2_with fail
        go_ret
        exact ⟨by rw [txt1]; rfl, H0.out⟩
      · obtain ⟨p0, p1, p2, p3, p4, p5⟩ := hh
        obtain ⟨sn, rfl⟩ := Int.eq_ofNat_of_zero_le (show 0 ≤ s by omega)
        obtain ⟨tn, rfl⟩ := Int.eq_ofNat_of_zero_le (show 0 ≤ t by omega)
        obtain ⟨en, rfl⟩ := Int.eq_ofNat_of_zero_le (show 0 ≤ e by omega)
        have up : (⟨#[114, 97, 105, 100, 58]⟩ : ByteArray).size = 5 := rfl
        obtain ⟨I0, hI0⟩ : ∃ I : ByteArray, I = numBA sn := ⟨_, rfl⟩
        have zi0 : I0.size ≤ 2 := by rw [hI0]; exact num_size (by omega) (by omega)
        have HI0 := Lib.hid hI0
        have G0 : ∀ W, Calls Tryz.prog 13 #[.int .i64 (sn : Int)] W fun e w' => e = .returned (.string I0) ∧ w' = W := by rw [hI0]; exact fun W => Tryz.strconv_Itoa_small sn (by omega) W
        have HG0 := Lib.hid G0
        obtain ⟨I1, hI1⟩ : ∃ I : ByteArray, I = numBA tn := ⟨_, rfl⟩
        have zi1 : I1.size ≤ 2 := by rw [hI1]; exact num_size (by omega) (by omega)
        have HI1 := Lib.hid hI1
        have G1 : ∀ W, Calls Tryz.prog 13 #[.int .i64 (tn : Int)] W fun e w' => e = .returned (.string I1) ∧ w' = W := by rw [hI1]; exact fun W => Tryz.strconv_Itoa_small tn (by omega) W
        have HG1 := Lib.hid G1
        obtain ⟨I2, hI2⟩ : ∃ I : ByteArray, I = numBA en := ⟨_, rfl⟩
        have zi2 : I2.size ≤ 2 := by rw [hI2]; exact num_size (by omega) (by omega)
        have HI2 := Lib.hid hI2
        have G2 : ∀ W, Calls Tryz.prog 13 #[.int .i64 (en : Int)] W fun e w' => e = .returned (.string I2) ∧ w' = W := by rw [hI2]; exact fun W => Tryz.strconv_Itoa_small en (by omega) W
        have HG2 := Lib.hid G2
        have z1 : ¬ 9223372036854775807 < 5 + i.size := by omega
        have z2 : ¬ 9223372036854775807 < 5 + i.size + 1 := by omega
        have z3 : ¬ 9223372036854775807 < 5 + i.size + 1 + I0.size := by omega
        have z4 : ¬ 9223372036854775807 < 5 + i.size + 1 + I0.size + 1 := by omega
        have z5 : ¬ 9223372036854775807 < 5 + i.size + 1 + I0.size + 1 + I1.size := by omega
        have z6 : ¬ 9223372036854775807 < 5 + i.size + 1 + I0.size + 1 + I1.size + 1 := by omega
        have z7 : ¬ 9223372036854775807 < 5 + i.size + 1 + I0.size + 1 + I1.size + 1 + I2.size := by omega
        have Hhb : Hid ((Ct.mk 2 i l (sn : Int) (tn : Int) (en : Int) n).txt = ((⟨#[114, 97, 105, 100, 58]⟩ : ByteArray) ++ i ++ (⟨#[58]⟩ : ByteArray) ++ I0 ++ (⟨#[47]⟩ : ByteArray) ++ I1 ++ (⟨#[47]⟩ : ByteArray) ++ I2) ++ boxed n ∧ ((⟨#[114, 97, 105, 100, 58]⟩ : ByteArray) ++ i ++ (⟨#[58]⟩ : ByteArray) ++ I0 ++ (⟨#[47]⟩ : ByteArray) ++ I1 ++ (⟨#[47]⟩ : ByteArray) ++ I2).size ≤ 60) := by
          refine ⟨by rw [txt2, HI0.out, HI1.out, HI2.out], ?_⟩
          simp only [ByteArray.size_append]
          have u1 : (⟨#[58]⟩ : ByteArray).size = 1 := rfl
          have u2 : (⟨#[47]⟩ : ByteArray).size = 1 := rfl
          omega
        clear up hI0 G0 hI1 G1 hI2 G2
        go_wp2_with fail
        refine region_sig No [(0, false), (1, false), (2, false), (3, false), (4, false), (5, false), (9, false), (10, false), (14, false), (15, false), (6, true), (7, false), (8, false), (11, true), (12, false), (13, false), (16, true), (17, false), (18, false)] (by kernel_rfl) (by kernel_rfl) (fun w6 hf6 => ?_)
        have g1 : ∀ g : Gr No w6, g.W.cell? ⟨w.heap.size, 1, none⟩ = some (.string i) := fun g => g.fr.cell (hf6.cell a1 id) id
        have g3 : ∀ g : Gr No w6, g.W.cell? ⟨w.heap.size, 3, none⟩ = some (.int .i64 (sn : Int)) := fun g => g.fr.cell (hf6.cell a3 id) id
        have g4 : ∀ g : Gr No w6, g.W.cell? ⟨w.heap.size, 4, none⟩ = some (.int .i64 (tn : Int)) := fun g => g.fr.cell (hf6.cell a4 id) id
        have g5 : ∀ g : Gr No w6, g.W.cell? ⟨w.heap.size, 5, none⟩ = some (.int .i64 (en : Int)) := fun g => g.fr.cell (hf6.cell a5 id) id
        have Hf6 := Lib.hid hf6
        clear a0 a1 a2 a3 a4 a5 a6 hf6
        repeat (apply sig_q; exact rfl; exact rfl; exact rfl; intro K hK; go_big_quiet_op; go_big_quiet_on)
        clear g1 g3 g4 g5
        apply sig_m
        exact rfl
        go_wp2_with fail
        refine (HG0.out _).mono ?_
        rintro en w7 ⟨rfl, rfl⟩
        go_wp2_with fail
        refine OnlyN.mk ⟨Fr.refl _ _, ?_⟩
        repeat (apply sig_q; exact rfl; exact rfl; exact rfl; intro K hK; go_big_quiet_op; go_big_quiet_on)
        apply sig_m
        exact rfl
        go_wp2_with fail
        refine (HG1.out _).mono ?_
        rintro en w7 ⟨rfl, rfl⟩
        go_wp2_with fail
        refine OnlyN.mk ⟨Fr.refl _ _, ?_⟩
        repeat (apply sig_q; exact rfl; exact rfl; exact rfl; intro K hK; go_big_quiet_op; go_big_quiet_on)
        apply sig_m
        exact rfl
        go_wp2_with fail
        refine (HG2.out _).mono ?_
        rintro en w7 ⟨rfl, rfl⟩
        go_wp2_with fail
        refine OnlyN.mk ⟨Fr.refl _ _, ?_⟩
        repeat (apply sig_q; exact rfl; exact rfl; exact rfl; intro K hK; go_big_quiet_op; go_big_quiet_on)
        refine sig_end ?_
        go_wp2_with fail
        go_meet
        exact ⟨_, rfl, Hhb.out.1, Hhb.out.2, Hf6.out⟩
      · have up : (⟨#[99, 114, 121, 112, 116, 58]⟩ : ByteArray).size = 6 := rfl
        have z1 : ¬ 9223372036854775807 < 6 + i.size := by omega
        have Hhb : Hid ((Ct.mk 3 i l s t e n).txt = ((⟨#[99, 114, 121, 112, 116, 58]⟩ : ByteArray) ++ i) ++ boxed n ∧ ((⟨#[99, 114, 121, 112, 116, 58]⟩ : ByteArray) ++ i).size ≤ 60) := by
          refine ⟨by rw [txt3], ?_⟩
          simp only [ByteArray.size_append]
          omega
        clear up
        go_wp2_with fail
        go_meet
        exact ⟨_, rfl, Hhb.out.1, Hhb.out.2, Fr.refl _ _⟩
      · obtain ⟨p0, p1, p2, p3⟩ := hh
        obtain ⟨sn, rfl⟩ := Int.eq_ofNat_of_zero_le (show 0 ≤ s by omega)
        obtain ⟨tn, rfl⟩ := Int.eq_ofNat_of_zero_le (show 0 ≤ t by omega)
        have up : (⟨#[112, 118, 58]⟩ : ByteArray).size = 3 := rfl
        obtain ⟨I0, hI0⟩ : ∃ I : ByteArray, I = numBA sn := ⟨_, rfl⟩
        have zi0 : I0.size ≤ 2 := by rw [hI0]; exact num_size (by omega) (by omega)
        have HI0 := Lib.hid hI0
        have G0 : ∀ W, Calls Tryz.prog 13 #[.int .i64 (sn : Int)] W fun e w' => e = .returned (.string I0) ∧ w' = W := by rw [hI0]; exact fun W => Tryz.strconv_Itoa_small sn (by omega) W
        have HG0 := Lib.hid G0
        obtain ⟨I1, hI1⟩ : ∃ I : ByteArray, I = numBA tn := ⟨_, rfl⟩
        have zi1 : I1.size ≤ 2 := by rw [hI1]; exact num_size (by omega) (by omega)
        have HI1 := Lib.hid hI1
        have G1 : ∀ W, Calls Tryz.prog 13 #[.int .i64 (tn : Int)] W fun e w' => e = .returned (.string I1) ∧ w' = W := by rw [hI1]; exact fun W => Tryz.strconv_Itoa_small tn (by omega) W
        have HG1 := Lib.hid G1
        have z1 : ¬ 9223372036854775807 < 3 + i.size := by omega
        have z2 : ¬ 9223372036854775807 < 3 + i.size + 1 := by omega
        have z3 : ¬ 9223372036854775807 < 3 + i.size + 1 + I0.size := by omega
        have z4 : ¬ 9223372036854775807 < 3 + i.size + 1 + I0.size + 1 := by omega
        have z5 : ¬ 9223372036854775807 < 3 + i.size + 1 + I0.size + 1 + I1.size := by omega
        have Hhb : Hid ((Ct.mk 4 i l (sn : Int) (tn : Int) e n).txt = ((⟨#[112, 118, 58]⟩ : ByteArray) ++ i ++ (⟨#[58]⟩ : ByteArray) ++ I0 ++ (⟨#[47]⟩ : ByteArray) ++ I1) ++ boxed n ∧ ((⟨#[112, 118, 58]⟩ : ByteArray) ++ i ++ (⟨#[58]⟩ : ByteArray) ++ I0 ++ (⟨#[47]⟩ : ByteArray) ++ I1).size ≤ 60) := by
          refine ⟨by rw [txt4, HI0.out, HI1.out], ?_⟩
          simp only [ByteArray.size_append]
          have u1 : (⟨#[58]⟩ : ByteArray).size = 1 := rfl
          have u2 : (⟨#[47]⟩ : ByteArray).size = 1 := rfl
          omega
        clear up hI0 G0 hI1 G1
        go_wp2_with fail
        refine region_sig No [(0, false), (1, false), (2, false), (3, false), (4, false), (5, false), (9, false), (10, false), (6, true), (7, false), (8, false), (11, true), (12, false), (13, false)] (by kernel_rfl) (by kernel_rfl) (fun w6 hf6 => ?_)
        have g1 : ∀ g : Gr No w6, g.W.cell? ⟨w.heap.size, 1, none⟩ = some (.string i) := fun g => g.fr.cell (hf6.cell a1 id) id
        have g3 : ∀ g : Gr No w6, g.W.cell? ⟨w.heap.size, 3, none⟩ = some (.int .i64 (sn : Int)) := fun g => g.fr.cell (hf6.cell a3 id) id
        have g4 : ∀ g : Gr No w6, g.W.cell? ⟨w.heap.size, 4, none⟩ = some (.int .i64 (tn : Int)) := fun g => g.fr.cell (hf6.cell a4 id) id
        have Hf6 := Lib.hid hf6
        clear a0 a1 a2 a3 a4 a5 a6 hf6
        repeat (apply sig_q; exact rfl; exact rfl; exact rfl; intro K hK; go_big_quiet_op; go_big_quiet_on)
        clear g1 g3 g4
        apply sig_m
        exact rfl
        go_wp2_with fail
        refine (HG0.out _).mono ?_
        rintro en w7 ⟨rfl, rfl⟩
        go_wp2_with fail
        refine OnlyN.mk ⟨Fr.refl _ _, ?_⟩
        repeat (apply sig_q; exact rfl; exact rfl; exact rfl; intro K hK; go_big_quiet_op; go_big_quiet_on)
        apply sig_m
        exact rfl
        go_wp2_with fail
        refine (HG1.out _).mono ?_
        rintro en w7 ⟨rfl, rfl⟩
        go_wp2_with fail
        refine OnlyN.mk ⟨Fr.refl _ _, ?_⟩
        repeat (apply sig_q; exact rfl; exact rfl; exact rfl; intro K hK; go_big_quiet_op; go_big_quiet_on)
        refine sig_end ?_
        go_wp2_with fail
        go_meet
        exact ⟨_, rfl, Hhb.out.1, Hhb.out.2, Hf6.out⟩
      · have up : (⟨#[116, 97, 98, 108, 101, 58]⟩ : ByteArray).size = 6 := rfl
        have z1 : ¬ 9223372036854775807 < 6 + i.size := by omega
        have Hhb : Hid ((Ct.mk 5 i l s t e n).txt = ((⟨#[116, 97, 98, 108, 101, 58]⟩ : ByteArray) ++ i) ++ boxed n ∧ ((⟨#[116, 97, 98, 108, 101, 58]⟩ : ByteArray) ++ i).size ≤ 60) := by
          refine ⟨by rw [txt5], ?_⟩
          simp only [ByteArray.size_append]
          omega
        clear up
        go_wp2_with fail
        go_meet
        exact ⟨_, rfl, Hhb.out.1, Hhb.out.2, Fr.refl _ _⟩
    obtain ⟨hb, rfl, htxt, hbs, hfc⟩ := hcut
    rename_i hK
    refine hK _ _ ?_
    have Htxt := Lib.hid htxt
    have q2 := hfc.heap q1 id
    have hin2 := Hin0.out.fr hfc (fun _ _ => id)
    have Hfc := Lib.hid (H0.out.step hfc (fun _ _ h => h))
    have hsc := hfc.size
    obtain ⟨W1, rfl⟩ : ∃ W1, W1 = wc := ⟨_, rfl⟩
    have c6 : W1.cell? ⟨w.heap.size, 6, none⟩ = some (.slice a n.length cap) := cell_of_block q2 6
    clear htxt hfc a0 a1 a2 a3 a4 a5 a6 q1
    go_wp2_with fail
    go_loopw [4, 5] (fun v x wr => ∃ (j : Nat) (av : Option Addr) (cv : Nat), j ≤ n.length ∧ v = .slice av j cv ∧ x = .int .i64 (j : Int) ∧ wr.ownsRow W1.heap.size 9 1 (.slice av j cv) j (((n.take j).map Ct.txt).map Value.string) ∧ Fr (From W1.heap.size) W1 wr) (fun _ x _ => n.length - (intOf x).toNat)
    case atStart => exact ⟨0, none, 0, by omega, rfl, rfl, World.ownsRow_nil _ _ _ _, Fr.refl _ _⟩
    case round =>
      obtain ⟨j, av, cv, hj, rfl, rfl, hown, hfr⟩ := hrel
      have c6r : wr.cell? ⟨w.heap.size, 6, none⟩ = some (.slice a n.length cap) := hfr.cell c6 (fun h => by unfold From at h; simp only at h; omega)
      by_cases hlt : j < n.length
      · have hlt' : (j : Int) < n.length := by omega
        obtain ⟨d, hd⟩ : ∃ d, n[j]? = some d := ⟨_, List.getElem?_eq_getElem hlt⟩
        have hdm := List.mem_of_getElem? hd
        have hdc := mem_count hdm
        have hdg := Hall.out d hdm
        have hdt := Htx.out d hdm
        have Htk : Hid (((n.take (j + 1)).map Ct.txt).map Value.string = ((n.take j).map Ct.txt).map Value.string ++ [.string d.txt]) := by unfold Hid; rw [List.take_add_one, hd]; simp
        obtain ⟨k1, i1, l1, s1, t1, e1, n1⟩ := d
        rw [Ct.count] at hdc
        have hin3 : InAt wr (fun b => b < W1.heap.size) a cap n := by
          have h3 := hin2.mono (Y := fun b => b < W1.heap.size) (fun b hb _ => hb)
          exact h3.fr hfr (fun b hb h => by unfold From at h; omega)
        obtain ⟨b, off, a', cap', rfl, hb, hX, ⟨y0, y1, y2, y3, y4, y5, y6⟩, hin1⟩ := hin3.at hd
        have hsr := hfr.size
        have hcall := Ih.out k1 s1 t1 e1 i1 l1 n1 a' cap' wr _ (by omega) hin1 hdg hdt
        clear hd hin3 hdm hdg hdt
        generalize (Ct.mk k1 i1 l1 s1 t1 e1 n1).txt = tx at *
        go_wp2_with fail
        refine hcall.mono ?_
        rintro e w2 ⟨rfl, hf2⟩
        have Hfr := Lib.hid (hfr.step hf2 (fun _ _ h => h.elim))
        have hown2 := ownsRow_fr hown hf2 (fun _ _ h => h)
        have hs2 := hf2.size
        clear hf2 hfr y0 y1 y2 y3 y4 y5 y6 hin1 hown hcall
        go_wp2_with (at_builtin; refine wpList_append_own _ rfl _ _ 27 rfl W1.heap.size 9 i0 (.string ByteArray.empty) 1 16 Tryz.underlying27 hi0 hz0 hz1 hz2 rfl (by decide) _ _ _ rfl (hown2.alloc _) ⟨w2.heap.size, 0, none⟩ 1 1 [.string tx] rfl rfl (cell_one_new _ _ _) (strs_one [tx]) (by unfold maxLen; omega) (by omega) (by first | omega | (simp; done) | (simp; omega)) ?_; intro v' wb hownb hgrow _; obtain ⟨avb, cvb, rfl⟩ := ownsRow_slice hownb)
        have hg6 : Fr (From W1.heap.size) w2 wb := grown_fr hown2 hgrow
        have Hg6 := Lib.hid (Hfr.out.step hg6 (fun _ _ h => h))
        have Hown := Lib.hid hownb
        clear hownb hgrow hg6 hown2
        go_roundw
        case rel => exact ⟨j + 1, avb, cvb, by omega, rfl, by go_num, by rw [Htk.out]; exact Hown.out, Hg6.out⟩
        case measure => simp [intOf]; omega
      · have hlt' : ¬ (j : Int) < n.length := by omega
        obtain rfl : j = n.length := by omega
        rw [List.take_length] at hown
        have Hfr := Lib.hid (Hfc.out.trans (U := No) hfr (fun _ _ h => h) (fun b hb h => by unfold From at h; omega))
        have hjn := r_joined av cv _ n wr hown Hin1.out (by omega)
        have uin : (inTxt n).size ≤ 100000 := Hin1.out
        have z1 : ¬ 9223372036854775807 < hb.size + 1 := by omega
        have z2 : ¬ 9223372036854775807 < hb.size + 1 + (inTxt n).size := by omega
        have z3 : ¬ 9223372036854775807 < hb.size + 1 + (inTxt n).size + 1 := by omega
        clear hfr hown
        go_wp2_with fail
        refine hjn.mono ?_
        rintro en w5 ⟨rfl, hf5⟩
        have Hf5 := Lib.hid (Hfr.out.step hf5 (fun _ _ h => h))
        clear hf5 hjn
        go_wp2_with fail
        go_ret
        refine ⟨?_, Hf5.out⟩
        rw [Htxt.out]
        unfold boxed
        rw [← ByteArray.append_assoc, ← ByteArray.append_assoc]
        rfl
end Go.Proofs.YtcibciippghooaaGreatDoor
namespace Go.Proofs.YtcibciippghooaaGreatDoor
open Go.RowKit Go.Maps
set_option linter.unusedVariables false

/-- A content that its text can be written of. -/
structure Fit (c : Ct) : Prop where
  good : c.good = true
  depth : c.depth ≤ 6
  len : c.text.length ≤ 256
  count : c.count ≤ 10000
theorem Fit.valid {c : Ct} (h : Fit c) : c.valid = true := by unfold Ct.valid; rw [h.good, decide_eq_true h.depth]; rfl
theorem Fit.small {c : Ct} (h : Fit c) : ∀ d ∈ c.walk, SmallC 100000 d := fun d hd => by
  have h1 := h.good
  rw [good_walk] at h1
  have h2 := List.all_eq_true.1 h1 d hd
  obtain ⟨k, i, l, s, t, e, n⟩ := d
  obtain ⟨h3, h4⟩ := alike_small h2
  exact ⟨Nat.le_trans h3 (by omega), Nat.le_trans h4 (by omega)⟩
theorem parse_fit {s : ByteArray} {c : Ct} (h : parseC s = some c) : Fit c ∧ c.txt = s := by
  have h1 := (parse_iff s c).1 h
  obtain ⟨hl, hv, ht⟩ := h1
  have hv' := hv
  unfold Ct.valid at hv'
  rw [Bool.and_eq_true, decide_eq_true_eq] at hv'
  refine ⟨⟨hv'.2, hv'.1, by rw [ht]; exact hl, ?_⟩, ba_ext (by rw [bl_txt, ht])⟩
  have h2 : ¬ 256 < (bl s).length := by omega
  unfold parseC at h
  rw [if_neg h2] at h
  split at h
  · rename_i c' hp
    have h3 := (p_count _).1 _ _ _ hp
    split at h
    · injection h with h
      subst h
      have h4 : c'.count + ([] : List UInt8).length ≤ (bl s).length + 1 := h3
      rw [List.length_nil] at h4
      omega
    · cases h
  · cases h
theorem Fit.inner {k s t e : Int} {i l : ByteArray} {n : List Ct} (h : Fit (.mk k i l s t e n)) {d : Ct} (hd : d ∈ n) : Fit d := by
  have hg := good_alike h.good
  have hi := in_le h.good
  have h1 := commas_mem (List.mem_map_of_mem (f := Ct.text) hd)
  have h2 : (commas (n.map Ct.text)).length ≤ _ := hi
  have h3 := h.len
  have h4 := mem_count hd
  have h5 := mem_depth hd
  have h6 := h.depth
  have h7 := h.count
  rw [Ct.count] at h7
  rw [Ct.depth] at h6
  exact ⟨List.all_eq_true.1 hg.2 d hd, by split at h6 <;> omega, by omega, by omega⟩

set_option maxRecDepth 100000 in
set_option maxHeartbeats 1000000 in
theorem c_format (k s t e : Int) (i l : ByteArray) (n : List Ct) (a : Option Addr) (cap : Nat) (w : World) (X : Nat → Prop) (hin : InAt w X a cap n) (hF : Fit (.mk k i l s t e n)) :
    Calls Tryz.prog 43 #[.agg #[.int .i64 k, .string i, .string l, .int .i64 s, .int .i64 t, .int .i64 e, .slice a n.length cap]] w fun en w2 => en = .returned (.tuple #[.string (Ct.mk k i l s t e n).txt, .int .i64 0]) ∧ Fr No w w2 := by
  have h0 : Fr No w (w.alloc (.cells #[.int .i64 k, .string i, .string l, .int .i64 s, .int .i64 t, .int .i64 e, .slice a n.length cap] 48)) := (Fr.refl _ _).alloc _
  have q1 := block_alloc w (.cells #[.int .i64 k, .string i, .string l, .int .i64 s, .int .i64 t, .int .i64 e, .slice a n.length cap] 48)
  obtain ⟨W0, hW0⟩ : ∃ W0, W0 = w.alloc (.cells #[.int .i64 k, .string i, .string l, .int .i64 s, .int .i64 t, .int .i64 e, .slice a n.length cap] 48) := ⟨_, rfl⟩
  rw [← hW0] at h0 q1
  have hin0 := hin.fr h0 (fun _ _ => id)
  have H0 := Lib.hid h0
  have hck := c_check (.mk k i l s t e n) X _ W0 (CAt.of_in hin0 k i l s t e) hF.count hF.small
  rw [if_pos hF.valid] at hck
  have hcl := hF.count
  have hlen := hF.len
  have hts : (Ct.mk k i l s t e n).txt.size ≤ 256 := hlen
  have HF := Lib.hid hF
  clear hF h0 hin
  have a0 : W0.cell? ⟨w.heap.size, 0, none⟩ = some (.int .i64 k) := cell_of_block q1 0
  have a1 : W0.cell? ⟨w.heap.size, 1, none⟩ = some (.string i) := cell_of_block q1 1
  have a2 : W0.cell? ⟨w.heap.size, 2, none⟩ = some (.string l) := cell_of_block q1 2
  have a3 : W0.cell? ⟨w.heap.size, 3, none⟩ = some (.int .i64 s) := cell_of_block q1 3
  have a4 : W0.cell? ⟨w.heap.size, 4, none⟩ = some (.int .i64 t) := cell_of_block q1 4
  have a5 : W0.cell? ⟨w.heap.size, 5, none⟩ = some (.int .i64 e) := cell_of_block q1 5
  have a6 : W0.cell? ⟨w.heap.size, 6, none⟩ = some (.slice a n.length cap) := cell_of_block q1 6
  go_enter Tryz.func43, Tryz.ntmps43
  go_upto_region 1 with (fail)
  rw [← hW0]
  clear hW0
  go_wp2_with fail
  refine hck.mono ?_
  rintro en w1 ⟨rfl, hf1⟩
  have q2 := hf1.heap q1 id
  have Hf1 := Lib.hid (H0.out.step hf1 (fun _ _ h => h))
  have hin1 := hin0.fr hf1 (fun _ _ => id)
  have htx := c_text_n 10000 (by omega) k s t e i l n a cap w1 X (by rw [Ct.count] at hcl; omega) hin1 HF.out.good (by omega)
  obtain ⟨tx, htxe⟩ : ∃ tx, tx = (Ct.mk k i l s t e n).txt := ⟨_, rfl⟩
  rw [← htxe] at htx hts
  have Htx := Lib.hid htxe
  clear htxe
  clear a0 a1 a2 a3 a4 a5 a6 q1 hck hin0 hf1
  have a0 : w1.cell? ⟨w.heap.size, 0, none⟩ = some (.int .i64 k) := cell_of_block q2 0
  have a1 : w1.cell? ⟨w.heap.size, 1, none⟩ = some (.string i) := cell_of_block q2 1
  have a2 : w1.cell? ⟨w.heap.size, 2, none⟩ = some (.string l) := cell_of_block q2 2
  have a3 : w1.cell? ⟨w.heap.size, 3, none⟩ = some (.int .i64 s) := cell_of_block q2 3
  have a4 : w1.cell? ⟨w.heap.size, 4, none⟩ = some (.int .i64 t) := cell_of_block q2 4
  have a5 : w1.cell? ⟨w.heap.size, 5, none⟩ = some (.int .i64 e) := cell_of_block q2 5
  have a6 : w1.cell? ⟨w.heap.size, 6, none⟩ = some (.slice a n.length cap) := cell_of_block q2 6
  go_wp2_with fail
  refine htx.mono ?_
  rintro en w2 ⟨rfl, hf2⟩
  have Hf2 := Lib.hid (Hf1.out.step hf2 (fun _ _ h => h))
  have hts' : ¬ (256 : Int) < (tx.size : Int) := by omega
  clear a0 a1 a2 a3 a4 a5 a6 hin1 htx
  go_wp2_with fail
  go_ret2
  exact ⟨by rw [← Htx.out]; rfl, Hf2.out⟩

/-- What Read of a text answers for kind kd. -/
def ReadRes (w : World) (s : ByteArray) (kd : Int) (e : Ending) (w' : World) : Prop :=
  ((∀ c, parseC s = some c → c.kind ≠ kd) ∧ e = .returned (.tuple #[.agg #[.int .i64 0, .string ⟨#[]⟩, .string ⟨#[]⟩, .int .i64 0, .int .i64 0, .int .i64 0, .slice none 0 0], .slice none 0 0, .bool false])) ∨
  (∃ (k sl t le : Int) (i l : ByteArray) (n : List Ct) (a a' : Option Addr) (cap cap' : Nat), parseC s = some (.mk k i l sl t le n) ∧ k = kd ∧ e = .returned (.tuple #[.agg #[.int .i64 k, .string i, .string l, .int .i64 sl, .int .i64 t, .int .i64 le, .slice a n.length cap], .slice a' n.length cap', .bool true]) ∧ InAt w' (From w.heap.size) a cap n ∧ Strs w' a' cap' (n.map Ct.txt) ∧ ∀ ad, a' = some ad → w.heap.size ≤ ad.block)

set_option maxRecDepth 100000 in
set_option maxHeartbeats 3000000 in
theorem c_read (s : ByteArray) (kd : Int) (w : World) (hE : Env w) (hs : s.size ≤ 100000) :
    Calls Tryz.prog 24 #[.string s, .int .i64 kd] w fun en w2 => ReadRes w s kd en w2 ∧ Fr No w w2 := by
  obtain ⟨i0, hi0, hz0, hz1, hz2⟩ := info_parts infoS
  have h0 : Fr No w (w.alloc (.cells #[.int .i64 0, .string ⟨#[]⟩, .string ⟨#[]⟩, .int .i64 0, .int .i64 0, .int .i64 0, .slice none 0 0] 48)) := (Fr.refl _ _).alloc _
  have q0 := block_alloc w (.cells #[.int .i64 0, .string ⟨#[]⟩, .string ⟨#[]⟩, .int .i64 0, .int .i64 0, .int .i64 0, .slice none 0 0] 48)
  have hsz : w.heap.size < (w.alloc (.cells #[.int .i64 0, .string ⟨#[]⟩, .string ⟨#[]⟩, .int .i64 0, .int .i64 0, .int .i64 0, .slice none 0 0] 48)).heap.size := by simp
  obtain ⟨W0, hW0⟩ : ∃ W0, W0 = w.alloc (.cells #[.int .i64 0, .string ⟨#[]⟩, .string ⟨#[]⟩, .int .i64 0, .int .i64 0, .int .i64 0, .slice none 0 0] 48) := ⟨_, rfl⟩
  rw [← hW0] at h0 q0 hsz
  have hpa := c_parse s W0 (hE.no h0) hs
  have H0 := Lib.hid h0
  clear h0 hE
  go_enter Tryz.func24, Tryz.ntmps24
  go_upto_region 1 with (fail)
  rw [← hW0]
  clear hW0
  go_wp2_with fail
  refine hpa.mono ?_
  rintro en w1 ⟨hres, hf1⟩
  have hs1 := hf1.size
  have q1 := hf1.heap q0 id
  have Hf1 := Lib.hid (H0.out.step hf1 (fun _ _ h => h))
  clear hpa q0 hf1
  rcases hres with ⟨er, hpn, her, rfl⟩ | ⟨vs, c, hpc, rfl, hca⟩
  · have Hn : Hid (∀ c, parseC s = some c → c.kind ≠ kd) := fun c h => by rw [hpn] at h; cases h
    clear hpn
    have hx : Fr No w1 (w1.alloc (.cells #[.int .i64 0, .string ⟨#[]⟩, .string ⟨#[]⟩, .int .i64 0, .int .i64 0, .int .i64 0, .slice none 0 0] 48)) := (Fr.refl _ _).alloc _
    have q2 := hx.heap q1 id
    have qt := block_alloc w1 (.cells #[.int .i64 0, .string ⟨#[]⟩, .string ⟨#[]⟩, .int .i64 0, .int .i64 0, .int .i64 0, .slice none 0 0] 48)
    have Hf2 := Lib.hid (Hf1.out.step hx (fun _ _ h => h))
    clear q1 hx
    go_upto_region 2 with (fail)
    generalize w1.alloc (.cells #[.int .i64 0, .string ⟨#[]⟩, .string ⟨#[]⟩, .int .i64 0, .int .i64 0, .int .i64 0, .slice none 0 0] 48) = W2 at *
    have b0 : W2.cell? ⟨w.heap.size, 0, none⟩ = some (.int .i64 0) := cell_of_block q2 0
    have b1 : W2.cell? ⟨w.heap.size, 1, none⟩ = some (.string ⟨#[]⟩) := cell_of_block q2 1
    have b2 : W2.cell? ⟨w.heap.size, 2, none⟩ = some (.string ⟨#[]⟩) := cell_of_block q2 2
    have b3 : W2.cell? ⟨w.heap.size, 3, none⟩ = some (.int .i64 0) := cell_of_block q2 3
    have b4 : W2.cell? ⟨w.heap.size, 4, none⟩ = some (.int .i64 0) := cell_of_block q2 4
    have b5 : W2.cell? ⟨w.heap.size, 5, none⟩ = some (.int .i64 0) := cell_of_block q2 5
    have b6 : W2.cell? ⟨w.heap.size, 6, none⟩ = some (.slice none 0 0) := cell_of_block q2 6
    have f0 : W2.frozen? ⟨w.heap.size, 0, none⟩ = false := free_of_block q2 0
    have f1 : W2.frozen? ⟨w.heap.size, 1, none⟩ = false := free_of_block q2 1
    have f2 : W2.frozen? ⟨w.heap.size, 2, none⟩ = false := free_of_block q2 2
    have f3 : W2.frozen? ⟨w.heap.size, 3, none⟩ = false := free_of_block q2 3
    have f4 : W2.frozen? ⟨w.heap.size, 4, none⟩ = false := free_of_block q2 4
    have f5 : W2.frozen? ⟨w.heap.size, 5, none⟩ = false := free_of_block q2 5
    have f6 : W2.frozen? ⟨w.heap.size, 6, none⟩ = false := free_of_block q2 6
    have h7 := set7 q2 rfl (.int .i64 0) (.string ⟨#[]⟩) (.string ⟨#[]⟩) (.int .i64 0) (.int .i64 0) (.int .i64 0) (.slice none 0 0)
    have Hfin := Lib.hid (Hf2.out.step h7.2 (fun b hb h => by unfold Is at h; omega))
    have Hq := Lib.hid h7.1
    clear h7
    go_wp2_with fail
    have y0 := cell_of_block Hq.out 0
    have y1 := cell_of_block Hq.out 1
    have y2 := cell_of_block Hq.out 2
    have y3 := cell_of_block Hq.out 3
    have y4 := cell_of_block Hq.out 4
    have y5 := cell_of_block Hq.out 5
    have y6 := cell_of_block Hq.out 6
    refine bodyPost_ret (v := .tuple #[.agg #[.int .i64 0, .string ⟨#[]⟩, .string ⟨#[]⟩, .int .i64 0, .int .i64 0, .int .i64 0, .slice none 0 0], .slice none 0 0, .bool false]) (by simp [results, Tryz.results24, go_sem, y0, y1, y2, y3, y4, y5, y6]) rfl ?_
    exact ⟨.inl ⟨Hn.out, rfl⟩, Hfin.out⟩
  · obtain ⟨k, i, l, sl, t, le, n⟩ := c
    obtain ⟨hFit, htxt⟩ := parse_fit hpc
    obtain ⟨a, cap, rfl, hin⟩ := hca.inAt
    have Hpc := Lib.hid hpc
    clear hpc hca htxt
    have hx : Fr No w1 (w1.alloc (.cells #[.int .i64 k, .string i, .string l, .int .i64 sl, .int .i64 t, .int .i64 le, .slice a n.length cap] 48)) := (Fr.refl _ _).alloc _
    have q2 := hx.heap q1 id
    have qt := block_alloc w1 (.cells #[.int .i64 k, .string i, .string l, .int .i64 sl, .int .i64 t, .int .i64 le, .slice a n.length cap] 48)
    have Hf2 := Lib.hid (Hf1.out.step hx (fun _ _ h => h))
    have Hin2 := Lib.hid (hin.fr hx (fun _ _ => id))
    have HFit := Lib.hid hFit
    clear q1 hx hin hFit
    go_upto_region 2 with (fail)
    generalize w1.alloc (.cells #[.int .i64 k, .string i, .string l, .int .i64 sl, .int .i64 t, .int .i64 le, .slice a n.length cap] 48) = W2 at *
    have zt0 : W2.cell? ⟨w1.heap.size, 0, none⟩ = some (.int .i64 k) := cell_of_block qt 0
    have zt1 : W2.cell? ⟨w1.heap.size, 1, none⟩ = some (.string i) := cell_of_block qt 1
    have zt2 : W2.cell? ⟨w1.heap.size, 2, none⟩ = some (.string l) := cell_of_block qt 2
    have zt3 : W2.cell? ⟨w1.heap.size, 3, none⟩ = some (.int .i64 sl) := cell_of_block qt 3
    have zt4 : W2.cell? ⟨w1.heap.size, 4, none⟩ = some (.int .i64 t) := cell_of_block qt 4
    have zt5 : W2.cell? ⟨w1.heap.size, 5, none⟩ = some (.int .i64 le) := cell_of_block qt 5
    have zt6 : W2.cell? ⟨w1.heap.size, 6, none⟩ = some (.slice a n.length cap) := cell_of_block qt 6
    by_cases hk : k = kd
    · have Hk := Lib.hid hk
      subst hk
      have hcl := HFit.out.count
      rw [Ct.count] at hcl
      have hnl := len_counts n
      have ht2 := lt_of_block qt
      go_wp2_with fail
      go_loopw [9, 31] (fun v x wr => ∃ (j : Nat) (av : Option Addr) (cv : Nat), j ≤ n.length ∧ v = .slice av j cv ∧ x = .int .i64 (j : Int) ∧ wr.ownsRow W2.heap.size 9 1 (.slice av j cv) j (((n.take j).map Ct.txt).map Value.string) ∧ Fr (From W2.heap.size) W2 wr) (fun _ x _ => n.length - (intOf x).toNat)
      case atStart => exact ⟨0, none, 0, by omega, rfl, rfl, World.ownsRow_nil _ _ _ _, Fr.refl _ _⟩
      case round =>
        obtain ⟨j, av, cv, hj, rfl, rfl, hown, hfr⟩ := hrel
        by_cases hlt : j < n.length
        · have hlt' : (j : Int) < n.length := by omega
          obtain ⟨d, hd⟩ : ∃ d, n[j]? = some d := ⟨_, List.getElem?_eq_getElem hlt⟩
          have hdm := List.mem_of_getElem? hd
          have hdF := HFit.out.inner hdm
          have Htk : Hid (((n.take (j + 1)).map Ct.txt).map Value.string = ((n.take j).map Ct.txt).map Value.string ++ [.string d.txt]) := by unfold Hid; rw [List.take_add_one, hd]; simp
          obtain ⟨k1, i1, l1, s1, t1, e1, n1⟩ := d
          have hin3 : InAt wr (fun b => b < W2.heap.size) a cap n := by
            have h3 := Hin2.out.mono (Y := fun b => b < W2.heap.size) (fun b hb _ => hb)
            exact h3.fr hfr (fun b hb h => by unfold From at h; omega)
          obtain ⟨b, off, a', cap', rfl, hb, hX, ⟨y0, y1, y2, y3, y4, y5, y6⟩, hin1⟩ := hin3.at hd
          have hsr := hfr.size
          clear hd hin3 hdm zt0 zt1 zt2 zt3 zt4 zt5 zt6
          have hx : Fr No wr (wr.alloc (.cells #[.int .i64 k1, .string i1, .string l1, .int .i64 s1, .int .i64 t1, .int .i64 e1, .slice a' n1.length cap'] 48)) := (Fr.refl _ _).alloc _
          have hfm := c_format k1 s1 t1 e1 i1 l1 n1 a' cap' _ _ (hin1.fr hx (fun _ _ => id)) hdF
          obtain ⟨tx, htxe⟩ : ∃ tx, tx = (Ct.mk k1 i1 l1 s1 t1 e1 n1).txt := ⟨_, rfl⟩
          rw [← htxe] at hfm Htk
          clear htxe hdF
          go_wp2_with fail
          refine hfm.mono ?_
          rintro e w2 ⟨rfl, hf2⟩
          have hxf := hx.step hf2 (fun _ _ h => h)
          have Hfr := Lib.hid (hfr.step hxf (fun _ _ h => h.elim))
          have hown2 := ownsRow_fr hown hxf (fun _ _ h => h)
          have hs2 := hxf.size
          clear hx hf2 hfr y0 y1 y2 y3 y4 y5 y6 hin1 hown hxf hfm
          go_wp2_with (at_builtin; refine wpList_append_own _ rfl _ _ 27 rfl W2.heap.size 9 i0 (.string ByteArray.empty) 1 16 Tryz.underlying27 hi0 hz0 hz1 hz2 rfl (by decide) _ _ _ rfl (hown2.alloc _) ⟨w2.heap.size, 0, none⟩ 1 1 [.string tx] rfl rfl (cell_one_new _ _ _) (strs_one [tx]) (by unfold maxLen; omega) (by omega) (by first | omega | (simp; done) | (simp; omega)) ?_; intro v' wb hownb hgrow _; obtain ⟨avb, cvb, rfl⟩ := ownsRow_slice hownb)
          have hg6 : Fr (From W2.heap.size) w2 wb := grown_fr hown2 hgrow
          have Hg6 := Lib.hid (Hfr.out.step hg6 (fun _ _ h => h))
          have Hown := Lib.hid hownb
          clear hownb hgrow hg6 hown2
          go_roundw
          case rel => exact ⟨j + 1, avb, cvb, by omega, rfl, by go_num, by rw [Htk.out]; exact Hown.out, Hg6.out⟩
          case measure => simp [intOf]; omega
        · have hlt' : ¬ (j : Int) < n.length := by omega
          obtain rfl : j = n.length := by omega
          rw [List.take_length] at hown
          have q3 := hfr.heap q2 (fun h => by unfold From at h; omega)
          have qt3 := hfr.heap qt (fun h => by unfold From at h; omega)
          have Hf3 := Lib.hid (Hf2.out.trans (U := No) hfr (fun _ _ h => h) (fun b hb h => by have := Hf2.out.size; unfold From at h; omega))
          have hin3 : InAt wr (fun b => w.heap.size < b) a cap n := by
            have h3 := Hin2.out.mono (Y := fun b => w.heap.size < b ∧ b < W2.heap.size) (fun b hb h => ⟨by unfold From at h; omega, hb⟩)
            exact (h3.fr hfr (fun b hb h => by unfold From at h; omega)).mono (fun b _ h => h.1)
          have hlen : (n.map Ct.txt).length = n.length := List.length_map _
          have hst : ∃ a' cap', Value.slice av n.length cv = .slice a' (n.map Ct.txt).length cap' ∧ Strs wr a' cap' (n.map Ct.txt) ∧ ∀ ad, a' = some ad → W2.heap.size ≤ ad.block := Strs.of_own (by rw [hlen]; exact hown)
          obtain ⟨a2, cap2, ev, hst, hfresh⟩ := hst
          rw [hlen] at ev
          cases ev
          have Hst := Lib.hid hst
          have Hfresh := Lib.hid hfresh
          have Hin3 := Lib.hid hin3
          clear hfr q2 qt hown hst hin3 hfresh hlen zt0 zt1 zt2 zt3 zt4 zt5 zt6
          have zt0 : wr.cell? ⟨w1.heap.size, 0, none⟩ = some (.int .i64 k) := cell_of_block qt3 0
          have zt1 : wr.cell? ⟨w1.heap.size, 1, none⟩ = some (.string i) := cell_of_block qt3 1
          have zt2 : wr.cell? ⟨w1.heap.size, 2, none⟩ = some (.string l) := cell_of_block qt3 2
          have zt3 : wr.cell? ⟨w1.heap.size, 3, none⟩ = some (.int .i64 sl) := cell_of_block qt3 3
          have zt4 : wr.cell? ⟨w1.heap.size, 4, none⟩ = some (.int .i64 t) := cell_of_block qt3 4
          have zt5 : wr.cell? ⟨w1.heap.size, 5, none⟩ = some (.int .i64 le) := cell_of_block qt3 5
          have zt6 : wr.cell? ⟨w1.heap.size, 6, none⟩ = some (.slice a n.length cap) := cell_of_block qt3 6
          have b0 : wr.cell? ⟨w.heap.size, 0, none⟩ = some (.int .i64 0) := cell_of_block q3 0
          have b1 : wr.cell? ⟨w.heap.size, 1, none⟩ = some (.string ⟨#[]⟩) := cell_of_block q3 1
          have b2 : wr.cell? ⟨w.heap.size, 2, none⟩ = some (.string ⟨#[]⟩) := cell_of_block q3 2
          have b3 : wr.cell? ⟨w.heap.size, 3, none⟩ = some (.int .i64 0) := cell_of_block q3 3
          have b4 : wr.cell? ⟨w.heap.size, 4, none⟩ = some (.int .i64 0) := cell_of_block q3 4
          have b5 : wr.cell? ⟨w.heap.size, 5, none⟩ = some (.int .i64 0) := cell_of_block q3 5
          have b6 : wr.cell? ⟨w.heap.size, 6, none⟩ = some (.slice none 0 0) := cell_of_block q3 6
          have f0 : wr.frozen? ⟨w.heap.size, 0, none⟩ = false := free_of_block q3 0
          have f1 : wr.frozen? ⟨w.heap.size, 1, none⟩ = false := free_of_block q3 1
          have f2 : wr.frozen? ⟨w.heap.size, 2, none⟩ = false := free_of_block q3 2
          have f3 : wr.frozen? ⟨w.heap.size, 3, none⟩ = false := free_of_block q3 3
          have f4 : wr.frozen? ⟨w.heap.size, 4, none⟩ = false := free_of_block q3 4
          have f5 : wr.frozen? ⟨w.heap.size, 5, none⟩ = false := free_of_block q3 5
          have f6 : wr.frozen? ⟨w.heap.size, 6, none⟩ = false := free_of_block q3 6
          have h7 := set7 q3 rfl (.int .i64 k) (.string i) (.string l) (.int .i64 sl) (.int .i64 t) (.int .i64 le) (.slice a n.length cap)
          have Hfin := Lib.hid (Hf3.out.step h7.2 (fun b hb h => by unfold Is at h; omega))
          have Hst4 := Lib.hid (Hst.out.fr h7.2 (fun ad e hne h => by have := Hfresh.out ad e; unfold Is at h; omega))
          have Hin4 := Lib.hid ((Hin3.out.fr h7.2 (fun b hb h => by unfold Is at h; omega)).mono (Y := From w.heap.size) (fun b _ h => by unfold From; omega))
          have Hq := Lib.hid h7.1
          clear h7
          go_wp2_with fail
          have y0 := cell_of_block Hq.out 0
          have y1 := cell_of_block Hq.out 1
          have y2 := cell_of_block Hq.out 2
          have y3 := cell_of_block Hq.out 3
          have y4 := cell_of_block Hq.out 4
          have y5 := cell_of_block Hq.out 5
          have y6 := cell_of_block Hq.out 6
          refine bodyPost_ret (v := .tuple #[.agg #[.int .i64 k, .string i, .string l, .int .i64 sl, .int .i64 t, .int .i64 le, .slice a n.length cap], .slice av n.length cv, .bool true]) (by simp [results, Tryz.results24, go_sem, y0, y1, y2, y3, y4, y5, y6]) rfl ?_
          exact ⟨.inr ⟨k, sl, t, le, i, l, n, a, av, cap, cv, Hpc.out, rfl, rfl, Hin4.out, Hst4.out, fun ad e => by have := Hfresh.out ad e; omega⟩, Hfin.out⟩
    · have Hq2 := Lib.hid q2
      clear zt1 zt2 zt3 zt4 zt5 zt6 q2 qt
      have Hn : Hid (∀ c, parseC s = some c → c.kind ≠ kd) := fun c h => by rw [Hpc.out] at h; cases h; exact hk
      go_upto_region 3 with (fail)
      have q2 := Hq2.out
      clear zt0
      have b0 : W2.cell? ⟨w.heap.size, 0, none⟩ = some (.int .i64 0) := cell_of_block q2 0
      have b1 : W2.cell? ⟨w.heap.size, 1, none⟩ = some (.string ⟨#[]⟩) := cell_of_block q2 1
      have b2 : W2.cell? ⟨w.heap.size, 2, none⟩ = some (.string ⟨#[]⟩) := cell_of_block q2 2
      have b3 : W2.cell? ⟨w.heap.size, 3, none⟩ = some (.int .i64 0) := cell_of_block q2 3
      have b4 : W2.cell? ⟨w.heap.size, 4, none⟩ = some (.int .i64 0) := cell_of_block q2 4
      have b5 : W2.cell? ⟨w.heap.size, 5, none⟩ = some (.int .i64 0) := cell_of_block q2 5
      have b6 : W2.cell? ⟨w.heap.size, 6, none⟩ = some (.slice none 0 0) := cell_of_block q2 6
      have f0 : W2.frozen? ⟨w.heap.size, 0, none⟩ = false := free_of_block q2 0
      have f1 : W2.frozen? ⟨w.heap.size, 1, none⟩ = false := free_of_block q2 1
      have f2 : W2.frozen? ⟨w.heap.size, 2, none⟩ = false := free_of_block q2 2
      have f3 : W2.frozen? ⟨w.heap.size, 3, none⟩ = false := free_of_block q2 3
      have f4 : W2.frozen? ⟨w.heap.size, 4, none⟩ = false := free_of_block q2 4
      have f5 : W2.frozen? ⟨w.heap.size, 5, none⟩ = false := free_of_block q2 5
      have f6 : W2.frozen? ⟨w.heap.size, 6, none⟩ = false := free_of_block q2 6
      have h7 := set7 q2 rfl (.int .i64 0) (.string ⟨#[]⟩) (.string ⟨#[]⟩) (.int .i64 0) (.int .i64 0) (.int .i64 0) (.slice none 0 0)
      have Hfin := Lib.hid (Hf2.out.step h7.2 (fun b hb h => by unfold Is at h; omega))
      have Hq := Lib.hid h7.1
      clear h7
      go_wp2_with fail
      have y0 := cell_of_block Hq.out 0
      have y1 := cell_of_block Hq.out 1
      have y2 := cell_of_block Hq.out 2
      have y3 := cell_of_block Hq.out 3
      have y4 := cell_of_block Hq.out 4
      have y5 := cell_of_block Hq.out 5
      have y6 := cell_of_block Hq.out 6
      refine bodyPost_ret (v := .tuple #[.agg #[.int .i64 0, .string ⟨#[]⟩, .string ⟨#[]⟩, .int .i64 0, .int .i64 0, .int .i64 0, .slice none 0 0], .slice none 0 0, .bool false]) (by simp [results, Tryz.results24, go_sem, y0, y1, y2, y3, y4, y5, y6]) rfl ?_
      exact ⟨.inl ⟨Hn.out, rfl⟩, Hfin.out⟩
end Go.Proofs.YtcibciippghooaaGreatDoor
