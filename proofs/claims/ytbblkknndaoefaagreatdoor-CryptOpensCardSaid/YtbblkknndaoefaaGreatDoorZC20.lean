/- Format; gather.Read. crypt.Of. known: the example of the chapter of layers. -/
import Derived.Test.YtbblkknndaoefaaGreatDoorZC19
import Derived.Test.YtbblkknndaoefaaGreatDoorZC11
import Derived.Test.YtbblkknndaoefaaGreatDoorZC13
namespace Go.Proofs.YtbblkknndaoefaaGreatDoor
open Go.RowKit Go.Maps
set_option linter.unusedVariables false

/-- A content that its text can be written of. -/
structure Fit (c : Ct) : Prop where
  good : c.good = true
  depth : c.depth ≤ 6
  len : c.text.length ≤ 256
  count : c.count ≤ 10000
theorem Fit.valid {c : Ct} (h : Fit c) : c.valid = true := by unfold Ct.valid; rw [h.good, decide_eq_true h.depth]; rfl
theorem Fit.small {c : Ct} (h : Fit c) : ∀ d ∈ c.walk, SmallC 100000 d := fun d hd => by
  have h1 := h.good
  rw [good_walk] at h1
  have h2 := List.all_eq_true.1 h1 d hd
  obtain ⟨k, i, l, s, t, e, n⟩ := d
  obtain ⟨h3, h4⟩ := alike_small h2
  exact ⟨Nat.le_trans h3 (by omega), Nat.le_trans h4 (by omega)⟩
theorem parse_fit {s : ByteArray} {c : Ct} (h : parseC s = some c) : Fit c ∧ c.txt = s := by
  have h1 := (parse_iff s c).1 h
  obtain ⟨hl, hv, ht⟩ := h1
  have hv' := hv
  unfold Ct.valid at hv'
  rw [Bool.and_eq_true, decide_eq_true_eq] at hv'
  refine ⟨⟨hv'.2, hv'.1, by rw [ht]; exact hl, ?_⟩, ba_ext (by rw [bl_txt, ht])⟩
  have h2 : ¬ 256 < (bl s).length := by omega
  unfold parseC at h
  rw [if_neg h2] at h
  split at h
  · rename_i c' hp
    have h3 := (p_count _).1 _ _ _ hp
    split at h
    · injection h with h
      subst h
      have h4 : c'.count + ([] : List UInt8).length ≤ (bl s).length + 1 := h3
      rw [List.length_nil] at h4
      omega
    · cases h
  · cases h
theorem Fit.inner {k s t e : Int} {i l : ByteArray} {n : List Ct} (h : Fit (.mk k i l s t e n)) {d : Ct} (hd : d ∈ n) : Fit d := by
  have hg := good_alike h.good
  have hi := in_le h.good
  have h1 := commas_mem (List.mem_map_of_mem (f := Ct.text) hd)
  have h2 : (commas (n.map Ct.text)).length ≤ _ := hi
  have h3 := h.len
  have h4 := mem_count hd
  have h5 := mem_depth hd
  have h6 := h.depth
  have h7 := h.count
  rw [Ct.count] at h7
  rw [Ct.depth] at h6
  exact ⟨List.all_eq_true.1 hg.2 d hd, by split at h6 <;> omega, by omega, by omega⟩

set_option maxRecDepth 100000 in
set_option maxHeartbeats 1000000 in
theorem c_format (k s t e : Int) (i l : ByteArray) (n : List Ct) (a : Option Addr) (cap : Nat) (w : World) (X : Nat → Prop) (hin : InAt w X a cap n) (hF : Fit (.mk k i l s t e n)) :
    Calls Tryz.prog 124 #[.agg #[.int .i64 k, .string i, .string l, .int .i64 s, .int .i64 t, .int .i64 e, .slice a n.length cap]] w fun en w2 => en = .returned (.tuple #[.string (Ct.mk k i l s t e n).txt, .int .i64 0]) ∧ Fr No w w2 := by
  have h0 : Fr No w (w.alloc (.cells #[.int .i64 k, .string i, .string l, .int .i64 s, .int .i64 t, .int .i64 e, .slice a n.length cap] 54)) := (Fr.refl _ _).alloc _
  have q1 := block_alloc w (.cells #[.int .i64 k, .string i, .string l, .int .i64 s, .int .i64 t, .int .i64 e, .slice a n.length cap] 54)
  obtain ⟨W0, hW0⟩ : ∃ W0, W0 = w.alloc (.cells #[.int .i64 k, .string i, .string l, .int .i64 s, .int .i64 t, .int .i64 e, .slice a n.length cap] 54) := ⟨_, rfl⟩
  rw [← hW0] at h0 q1
  have hin0 := hin.fr h0 (fun _ _ => id)
  have H0 := Lib.hid h0
  have hck := c_check (.mk k i l s t e n) X _ W0 (CAt.of_in hin0 k i l s t e) hF.count hF.small
  rw [if_pos hF.valid] at hck
  have hcl := hF.count
  have hlen := hF.len
  have hts : (Ct.mk k i l s t e n).txt.size ≤ 256 := hlen
  have HF := Lib.hid hF
  clear hF h0 hin
  have a0 : W0.cell? ⟨w.heap.size, 0, none⟩ = some (.int .i64 k) := cell_of_block q1 0
  have a1 : W0.cell? ⟨w.heap.size, 1, none⟩ = some (.string i) := cell_of_block q1 1
  have a2 : W0.cell? ⟨w.heap.size, 2, none⟩ = some (.string l) := cell_of_block q1 2
  have a3 : W0.cell? ⟨w.heap.size, 3, none⟩ = some (.int .i64 s) := cell_of_block q1 3
  have a4 : W0.cell? ⟨w.heap.size, 4, none⟩ = some (.int .i64 t) := cell_of_block q1 4
  have a5 : W0.cell? ⟨w.heap.size, 5, none⟩ = some (.int .i64 e) := cell_of_block q1 5
  have a6 : W0.cell? ⟨w.heap.size, 6, none⟩ = some (.slice a n.length cap) := cell_of_block q1 6
  go_enter Tryz.func124, Tryz.ntmps124
  go_upto_region 1 with (fail)
  rw [← hW0]
  clear hW0
  go_wp2_with fail
  refine hck.mono ?_
  rintro en w1 ⟨rfl, hf1⟩
  have q2 := hf1.heap q1 id
  have Hf1 := Lib.hid (H0.out.step hf1 (fun _ _ h => h))
  have hin1 := hin0.fr hf1 (fun _ _ => id)
  have htx := c_text_n 10000 (by omega) k s t e i l n a cap w1 X (by rw [Ct.count] at hcl; omega) hin1 HF.out.good (by omega)
  obtain ⟨tx, htxe⟩ : ∃ tx, tx = (Ct.mk k i l s t e n).txt := ⟨_, rfl⟩
  rw [← htxe] at htx hts
  have Htx := Lib.hid htxe
  clear htxe
  clear a0 a1 a2 a3 a4 a5 a6 q1 hck hin0 hf1
  have a0 : w1.cell? ⟨w.heap.size, 0, none⟩ = some (.int .i64 k) := cell_of_block q2 0
  have a1 : w1.cell? ⟨w.heap.size, 1, none⟩ = some (.string i) := cell_of_block q2 1
  have a2 : w1.cell? ⟨w.heap.size, 2, none⟩ = some (.string l) := cell_of_block q2 2
  have a3 : w1.cell? ⟨w.heap.size, 3, none⟩ = some (.int .i64 s) := cell_of_block q2 3
  have a4 : w1.cell? ⟨w.heap.size, 4, none⟩ = some (.int .i64 t) := cell_of_block q2 4
  have a5 : w1.cell? ⟨w.heap.size, 5, none⟩ = some (.int .i64 e) := cell_of_block q2 5
  have a6 : w1.cell? ⟨w.heap.size, 6, none⟩ = some (.slice a n.length cap) := cell_of_block q2 6
  go_wp2_with fail
  refine htx.mono ?_
  rintro en w2 ⟨rfl, hf2⟩
  have Hf2 := Lib.hid (Hf1.out.step hf2 (fun _ _ h => h))
  have hts' : ¬ (256 : Int) < (tx.size : Int) := by omega
  clear a0 a1 a2 a3 a4 a5 a6 hin1 htx
  go_wp2_with fail
  go_ret2
  exact ⟨by rw [← Htx.out]; rfl, Hf2.out⟩

/-- What Read of a text answers for kind kd. -/
def ReadRes (w : World) (s : ByteArray) (kd : Int) (e : Ending) (w' : World) : Prop :=
  ((∀ c, parseC s = some c → c.kind ≠ kd) ∧ e = .returned (.tuple #[.agg #[.int .i64 0, .string ⟨#[]⟩, .string ⟨#[]⟩, .int .i64 0, .int .i64 0, .int .i64 0, .slice none 0 0], .slice none 0 0, .bool false])) ∨
  (∃ (k sl t le : Int) (i l : ByteArray) (n : List Ct) (a a' : Option Addr) (cap cap' : Nat), parseC s = some (.mk k i l sl t le n) ∧ k = kd ∧ e = .returned (.tuple #[.agg #[.int .i64 k, .string i, .string l, .int .i64 sl, .int .i64 t, .int .i64 le, .slice a n.length cap], .slice a' n.length cap', .bool true]) ∧ InAt w' (From w.heap.size) a cap n ∧ Strs w' a' cap' (n.map Ct.txt) ∧ ∀ ad, a' = some ad → w.heap.size ≤ ad.block)

set_option maxRecDepth 100000 in
set_option maxHeartbeats 3000000 in
theorem c_read (s : ByteArray) (kd : Int) (w : World) (ha : Ascii s) (hE : Env w) (hs : s.size ≤ 100000) :
    Calls Tryz.prog 87 #[.string s, .int .i64 kd] w fun en w2 => ReadRes w s kd en w2 ∧ Fr No w w2 := by
  obtain ⟨i0, hi0, hz0, hz1, hz2⟩ := info_parts infoS
  have h0 : Fr No w (w.alloc (.cells #[.int .i64 0, .string ⟨#[]⟩, .string ⟨#[]⟩, .int .i64 0, .int .i64 0, .int .i64 0, .slice none 0 0] 54)) := (Fr.refl _ _).alloc _
  have q0 := block_alloc w (.cells #[.int .i64 0, .string ⟨#[]⟩, .string ⟨#[]⟩, .int .i64 0, .int .i64 0, .int .i64 0, .slice none 0 0] 54)
  have hsz : w.heap.size < (w.alloc (.cells #[.int .i64 0, .string ⟨#[]⟩, .string ⟨#[]⟩, .int .i64 0, .int .i64 0, .int .i64 0, .slice none 0 0] 54)).heap.size := by simp
  obtain ⟨W0, hW0⟩ : ∃ W0, W0 = w.alloc (.cells #[.int .i64 0, .string ⟨#[]⟩, .string ⟨#[]⟩, .int .i64 0, .int .i64 0, .int .i64 0, .slice none 0 0] 54) := ⟨_, rfl⟩
  rw [← hW0] at h0 q0 hsz
  have hpa := c_parse s W0 ha (hE.no h0) hs
  have H0 := Lib.hid h0
  clear h0 hE
  go_enter Tryz.func87, Tryz.ntmps87
  go_upto_region 1 with (fail)
  rw [← hW0]
  clear hW0
  go_wp2_with fail
  refine hpa.mono ?_
  rintro en w1 ⟨hres, hf1⟩
  have hs1 := hf1.size
  have q1 := hf1.heap q0 id
  have Hf1 := Lib.hid (H0.out.step hf1 (fun _ _ h => h))
  clear hpa q0 hf1
  rcases hres with ⟨er, hpn, her, rfl⟩ | ⟨vs, c, hpc, rfl, hca⟩
  · have Hn : Hid (∀ c, parseC s = some c → c.kind ≠ kd) := fun c h => by rw [hpn] at h; cases h
    clear hpn
    have hx : Fr No w1 (w1.alloc (.cells #[.int .i64 0, .string ⟨#[]⟩, .string ⟨#[]⟩, .int .i64 0, .int .i64 0, .int .i64 0, .slice none 0 0] 54)) := (Fr.refl _ _).alloc _
    have q2 := hx.heap q1 id
    have qt := block_alloc w1 (.cells #[.int .i64 0, .string ⟨#[]⟩, .string ⟨#[]⟩, .int .i64 0, .int .i64 0, .int .i64 0, .slice none 0 0] 54)
    have Hf2 := Lib.hid (Hf1.out.step hx (fun _ _ h => h))
    clear q1 hx
    go_upto_region 2 with (fail)
    generalize w1.alloc (.cells #[.int .i64 0, .string ⟨#[]⟩, .string ⟨#[]⟩, .int .i64 0, .int .i64 0, .int .i64 0, .slice none 0 0] 54) = W2 at *
    have b0 : W2.cell? ⟨w.heap.size, 0, none⟩ = some (.int .i64 0) := cell_of_block q2 0
    have b1 : W2.cell? ⟨w.heap.size, 1, none⟩ = some (.string ⟨#[]⟩) := cell_of_block q2 1
    have b2 : W2.cell? ⟨w.heap.size, 2, none⟩ = some (.string ⟨#[]⟩) := cell_of_block q2 2
    have b3 : W2.cell? ⟨w.heap.size, 3, none⟩ = some (.int .i64 0) := cell_of_block q2 3
    have b4 : W2.cell? ⟨w.heap.size, 4, none⟩ = some (.int .i64 0) := cell_of_block q2 4
    have b5 : W2.cell? ⟨w.heap.size, 5, none⟩ = some (.int .i64 0) := cell_of_block q2 5
    have b6 : W2.cell? ⟨w.heap.size, 6, none⟩ = some (.slice none 0 0) := cell_of_block q2 6
    have f0 : W2.frozen? ⟨w.heap.size, 0, none⟩ = false := free_of_block q2 0
    have f1 : W2.frozen? ⟨w.heap.size, 1, none⟩ = false := free_of_block q2 1
    have f2 : W2.frozen? ⟨w.heap.size, 2, none⟩ = false := free_of_block q2 2
    have f3 : W2.frozen? ⟨w.heap.size, 3, none⟩ = false := free_of_block q2 3
    have f4 : W2.frozen? ⟨w.heap.size, 4, none⟩ = false := free_of_block q2 4
    have f5 : W2.frozen? ⟨w.heap.size, 5, none⟩ = false := free_of_block q2 5
    have f6 : W2.frozen? ⟨w.heap.size, 6, none⟩ = false := free_of_block q2 6
    have h7 := set7 q2 rfl (.int .i64 0) (.string ⟨#[]⟩) (.string ⟨#[]⟩) (.int .i64 0) (.int .i64 0) (.int .i64 0) (.slice none 0 0)
    have Hfin := Lib.hid (Hf2.out.step h7.2 (fun b hb h => by unfold Is at h; omega))
    have Hq := Lib.hid h7.1
    clear h7
    go_wp2_with fail
    have y0 := cell_of_block Hq.out 0
    have y1 := cell_of_block Hq.out 1
    have y2 := cell_of_block Hq.out 2
    have y3 := cell_of_block Hq.out 3
    have y4 := cell_of_block Hq.out 4
    have y5 := cell_of_block Hq.out 5
    have y6 := cell_of_block Hq.out 6
    refine bodyPost_ret (v := .tuple #[.agg #[.int .i64 0, .string ⟨#[]⟩, .string ⟨#[]⟩, .int .i64 0, .int .i64 0, .int .i64 0, .slice none 0 0], .slice none 0 0, .bool false]) (by simp [results, Tryz.results87, go_sem, y0, y1, y2, y3, y4, y5, y6]) rfl ?_
    exact ⟨.inl ⟨Hn.out, rfl⟩, Hfin.out⟩
  · obtain ⟨k, i, l, sl, t, le, n⟩ := c
    obtain ⟨hFit, htxt⟩ := parse_fit hpc
    obtain ⟨a, cap, rfl, hin⟩ := hca.inAt
    have Hpc := Lib.hid hpc
    clear hpc hca htxt
    have hx : Fr No w1 (w1.alloc (.cells #[.int .i64 k, .string i, .string l, .int .i64 sl, .int .i64 t, .int .i64 le, .slice a n.length cap] 54)) := (Fr.refl _ _).alloc _
    have q2 := hx.heap q1 id
    have qt := block_alloc w1 (.cells #[.int .i64 k, .string i, .string l, .int .i64 sl, .int .i64 t, .int .i64 le, .slice a n.length cap] 54)
    have Hf2 := Lib.hid (Hf1.out.step hx (fun _ _ h => h))
    have Hin2 := Lib.hid (hin.fr hx (fun _ _ => id))
    have HFit := Lib.hid hFit
    clear q1 hx hin hFit
    go_upto_region 2 with (fail)
    generalize w1.alloc (.cells #[.int .i64 k, .string i, .string l, .int .i64 sl, .int .i64 t, .int .i64 le, .slice a n.length cap] 54) = W2 at *
    have zt0 : W2.cell? ⟨w1.heap.size, 0, none⟩ = some (.int .i64 k) := cell_of_block qt 0
    have zt1 : W2.cell? ⟨w1.heap.size, 1, none⟩ = some (.string i) := cell_of_block qt 1
    have zt2 : W2.cell? ⟨w1.heap.size, 2, none⟩ = some (.string l) := cell_of_block qt 2
    have zt3 : W2.cell? ⟨w1.heap.size, 3, none⟩ = some (.int .i64 sl) := cell_of_block qt 3
    have zt4 : W2.cell? ⟨w1.heap.size, 4, none⟩ = some (.int .i64 t) := cell_of_block qt 4
    have zt5 : W2.cell? ⟨w1.heap.size, 5, none⟩ = some (.int .i64 le) := cell_of_block qt 5
    have zt6 : W2.cell? ⟨w1.heap.size, 6, none⟩ = some (.slice a n.length cap) := cell_of_block qt 6
    by_cases hk : k = kd
    · have Hk := Lib.hid hk
      subst hk
      have hcl := HFit.out.count
      rw [Ct.count] at hcl
      have hnl := len_counts n
      have ht2 := lt_of_block qt
      go_wp2_with fail
      go_loopw [9, 31] (fun v x wr => ∃ (j : Nat) (av : Option Addr) (cv : Nat), j ≤ n.length ∧ v = .slice av j cv ∧ x = .int .i64 (j : Int) ∧ wr.ownsRow W2.heap.size 9 1 (.slice av j cv) j (((n.take j).map Ct.txt).map Value.string) ∧ Fr (From W2.heap.size) W2 wr) (fun _ x _ => n.length - (intOf x).toNat)
      case atStart => exact ⟨0, none, 0, by omega, rfl, rfl, World.ownsRow_nil _ _ _ _, Fr.refl _ _⟩
      case round =>
        obtain ⟨j, av, cv, hj, rfl, rfl, hown, hfr⟩ := hrel
        by_cases hlt : j < n.length
        · have hlt' : (j : Int) < n.length := by omega
          obtain ⟨d, hd⟩ : ∃ d, n[j]? = some d := ⟨_, List.getElem?_eq_getElem hlt⟩
          have hdm := List.mem_of_getElem? hd
          have hdF := HFit.out.inner hdm
          have Htk : Hid (((n.take (j + 1)).map Ct.txt).map Value.string = ((n.take j).map Ct.txt).map Value.string ++ [.string d.txt]) := by unfold Hid; rw [List.take_add_one, hd]; simp
          obtain ⟨k1, i1, l1, s1, t1, e1, n1⟩ := d
          have hin3 : InAt wr (fun b => b < W2.heap.size) a cap n := by
            have h3 := Hin2.out.mono (Y := fun b => b < W2.heap.size) (fun b hb _ => hb)
            exact h3.fr hfr (fun b hb h => by unfold From at h; omega)
          obtain ⟨b, off, a', cap', rfl, hb, hX, ⟨y0, y1, y2, y3, y4, y5, y6⟩, hin1⟩ := hin3.at hd
          have hsr := hfr.size
          clear hd hin3 hdm zt0 zt1 zt2 zt3 zt4 zt5 zt6
          have hx : Fr No wr (wr.alloc (.cells #[.int .i64 k1, .string i1, .string l1, .int .i64 s1, .int .i64 t1, .int .i64 e1, .slice a' n1.length cap'] 54)) := (Fr.refl _ _).alloc _
          have hfm := c_format k1 s1 t1 e1 i1 l1 n1 a' cap' _ _ (hin1.fr hx (fun _ _ => id)) hdF
          obtain ⟨tx, htxe⟩ : ∃ tx, tx = (Ct.mk k1 i1 l1 s1 t1 e1 n1).txt := ⟨_, rfl⟩
          rw [← htxe] at hfm Htk
          clear htxe hdF
          go_wp2_with fail
          refine hfm.mono ?_
          rintro e w2 ⟨rfl, hf2⟩
          have hxf := hx.step hf2 (fun _ _ h => h)
          have Hfr := Lib.hid (hfr.step hxf (fun _ _ h => h.elim))
          have hown2 := ownsRow_fr hown hxf (fun _ _ h => h)
          have hs2 := hxf.size
          clear hx hf2 hfr y0 y1 y2 y3 y4 y5 y6 hin1 hown hxf hfm
          go_wp2_with (at_builtin; refine wpList_append_own _ rfl _ _ 33 rfl W2.heap.size 9 i0 (.string ByteArray.empty) 1 16 Tryz.underlying33 hi0 hz0 hz1 hz2 rfl (by decide) _ _ _ rfl (hown2.alloc _) ⟨w2.heap.size, 0, none⟩ 1 1 [.string tx] rfl rfl (cell_one_new _ _ _) (strs_one [tx]) (by unfold maxLen; omega) (by omega) (by first | omega | (simp; done) | (simp; omega)) ?_; intro v' wb hownb hgrow _; obtain ⟨avb, cvb, rfl⟩ := ownsRow_slice hownb)
          have hg6 : Fr (From W2.heap.size) w2 wb := grown_fr hown2 hgrow
          have Hg6 := Lib.hid (Hfr.out.step hg6 (fun _ _ h => h))
          have Hown := Lib.hid hownb
          clear hownb hgrow hg6 hown2
          go_roundw
          case rel => exact ⟨j + 1, avb, cvb, by omega, rfl, by go_num, by rw [Htk.out]; exact Hown.out, Hg6.out⟩
          case measure => simp [intOf]; omega
        · have hlt' : ¬ (j : Int) < n.length := by omega
          obtain rfl : j = n.length := by omega
          rw [List.take_length] at hown
          have q3 := hfr.heap q2 (fun h => by unfold From at h; omega)
          have qt3 := hfr.heap qt (fun h => by unfold From at h; omega)
          have Hf3 := Lib.hid (Hf2.out.trans (U := No) hfr (fun _ _ h => h) (fun b hb h => by have := Hf2.out.size; unfold From at h; omega))
          have hin3 : InAt wr (fun b => w.heap.size < b) a cap n := by
            have h3 := Hin2.out.mono (Y := fun b => w.heap.size < b ∧ b < W2.heap.size) (fun b hb h => ⟨by unfold From at h; omega, hb⟩)
            exact (h3.fr hfr (fun b hb h => by unfold From at h; omega)).mono (fun b _ h => h.1)
          have hlen : (n.map Ct.txt).length = n.length := List.length_map _
          have hst : ∃ a' cap', Value.slice av n.length cv = .slice a' (n.map Ct.txt).length cap' ∧ Strs wr a' cap' (n.map Ct.txt) ∧ ∀ ad, a' = some ad → W2.heap.size ≤ ad.block := Strs.of_own (by rw [hlen]; exact hown)
          obtain ⟨a2, cap2, ev, hst, hfresh⟩ := hst
          rw [hlen] at ev
          cases ev
          have Hst := Lib.hid hst
          have Hfresh := Lib.hid hfresh
          have Hin3 := Lib.hid hin3
          clear hfr q2 qt hown hst hin3 hfresh hlen zt0 zt1 zt2 zt3 zt4 zt5 zt6
          have zt0 : wr.cell? ⟨w1.heap.size, 0, none⟩ = some (.int .i64 k) := cell_of_block qt3 0
          have zt1 : wr.cell? ⟨w1.heap.size, 1, none⟩ = some (.string i) := cell_of_block qt3 1
          have zt2 : wr.cell? ⟨w1.heap.size, 2, none⟩ = some (.string l) := cell_of_block qt3 2
          have zt3 : wr.cell? ⟨w1.heap.size, 3, none⟩ = some (.int .i64 sl) := cell_of_block qt3 3
          have zt4 : wr.cell? ⟨w1.heap.size, 4, none⟩ = some (.int .i64 t) := cell_of_block qt3 4
          have zt5 : wr.cell? ⟨w1.heap.size, 5, none⟩ = some (.int .i64 le) := cell_of_block qt3 5
          have zt6 : wr.cell? ⟨w1.heap.size, 6, none⟩ = some (.slice a n.length cap) := cell_of_block qt3 6
          have b0 : wr.cell? ⟨w.heap.size, 0, none⟩ = some (.int .i64 0) := cell_of_block q3 0
          have b1 : wr.cell? ⟨w.heap.size, 1, none⟩ = some (.string ⟨#[]⟩) := cell_of_block q3 1
          have b2 : wr.cell? ⟨w.heap.size, 2, none⟩ = some (.string ⟨#[]⟩) := cell_of_block q3 2
          have b3 : wr.cell? ⟨w.heap.size, 3, none⟩ = some (.int .i64 0) := cell_of_block q3 3
          have b4 : wr.cell? ⟨w.heap.size, 4, none⟩ = some (.int .i64 0) := cell_of_block q3 4
          have b5 : wr.cell? ⟨w.heap.size, 5, none⟩ = some (.int .i64 0) := cell_of_block q3 5
          have b6 : wr.cell? ⟨w.heap.size, 6, none⟩ = some (.slice none 0 0) := cell_of_block q3 6
          have f0 : wr.frozen? ⟨w.heap.size, 0, none⟩ = false := free_of_block q3 0
          have f1 : wr.frozen? ⟨w.heap.size, 1, none⟩ = false := free_of_block q3 1
          have f2 : wr.frozen? ⟨w.heap.size, 2, none⟩ = false := free_of_block q3 2
          have f3 : wr.frozen? ⟨w.heap.size, 3, none⟩ = false := free_of_block q3 3
          have f4 : wr.frozen? ⟨w.heap.size, 4, none⟩ = false := free_of_block q3 4
          have f5 : wr.frozen? ⟨w.heap.size, 5, none⟩ = false := free_of_block q3 5
          have f6 : wr.frozen? ⟨w.heap.size, 6, none⟩ = false := free_of_block q3 6
          have h7 := set7 q3 rfl (.int .i64 k) (.string i) (.string l) (.int .i64 sl) (.int .i64 t) (.int .i64 le) (.slice a n.length cap)
          have Hfin := Lib.hid (Hf3.out.step h7.2 (fun b hb h => by unfold Is at h; omega))
          have Hst4 := Lib.hid (Hst.out.fr h7.2 (fun ad e hne h => by have := Hfresh.out ad e; unfold Is at h; omega))
          have Hin4 := Lib.hid ((Hin3.out.fr h7.2 (fun b hb h => by unfold Is at h; omega)).mono (Y := From w.heap.size) (fun b _ h => by unfold From; omega))
          have Hq := Lib.hid h7.1
          clear h7
          go_wp2_with fail
          have y0 := cell_of_block Hq.out 0
          have y1 := cell_of_block Hq.out 1
          have y2 := cell_of_block Hq.out 2
          have y3 := cell_of_block Hq.out 3
          have y4 := cell_of_block Hq.out 4
          have y5 := cell_of_block Hq.out 5
          have y6 := cell_of_block Hq.out 6
          refine bodyPost_ret (v := .tuple #[.agg #[.int .i64 k, .string i, .string l, .int .i64 sl, .int .i64 t, .int .i64 le, .slice a n.length cap], .slice av n.length cv, .bool true]) (by simp [results, Tryz.results87, go_sem, y0, y1, y2, y3, y4, y5, y6]) rfl ?_
          exact ⟨.inr ⟨k, sl, t, le, i, l, n, a, av, cap, cv, Hpc.out, rfl, rfl, Hin4.out, Hst4.out, fun ad e => by have := Hfresh.out ad e; omega⟩, Hfin.out⟩
    · have Hq2 := Lib.hid q2
      clear zt1 zt2 zt3 zt4 zt5 zt6 q2 qt ha
      have Hn : Hid (∀ c, parseC s = some c → c.kind ≠ kd) := fun c h => by rw [Hpc.out] at h; cases h; exact hk
      go_upto_region 3 with (fail)
      have q2 := Hq2.out
      clear zt0
      have b0 : W2.cell? ⟨w.heap.size, 0, none⟩ = some (.int .i64 0) := cell_of_block q2 0
      have b1 : W2.cell? ⟨w.heap.size, 1, none⟩ = some (.string ⟨#[]⟩) := cell_of_block q2 1
      have b2 : W2.cell? ⟨w.heap.size, 2, none⟩ = some (.string ⟨#[]⟩) := cell_of_block q2 2
      have b3 : W2.cell? ⟨w.heap.size, 3, none⟩ = some (.int .i64 0) := cell_of_block q2 3
      have b4 : W2.cell? ⟨w.heap.size, 4, none⟩ = some (.int .i64 0) := cell_of_block q2 4
      have b5 : W2.cell? ⟨w.heap.size, 5, none⟩ = some (.int .i64 0) := cell_of_block q2 5
      have b6 : W2.cell? ⟨w.heap.size, 6, none⟩ = some (.slice none 0 0) := cell_of_block q2 6
      have f0 : W2.frozen? ⟨w.heap.size, 0, none⟩ = false := free_of_block q2 0
      have f1 : W2.frozen? ⟨w.heap.size, 1, none⟩ = false := free_of_block q2 1
      have f2 : W2.frozen? ⟨w.heap.size, 2, none⟩ = false := free_of_block q2 2
      have f3 : W2.frozen? ⟨w.heap.size, 3, none⟩ = false := free_of_block q2 3
      have f4 : W2.frozen? ⟨w.heap.size, 4, none⟩ = false := free_of_block q2 4
      have f5 : W2.frozen? ⟨w.heap.size, 5, none⟩ = false := free_of_block q2 5
      have f6 : W2.frozen? ⟨w.heap.size, 6, none⟩ = false := free_of_block q2 6
      have h7 := set7 q2 rfl (.int .i64 0) (.string ⟨#[]⟩) (.string ⟨#[]⟩) (.int .i64 0) (.int .i64 0) (.int .i64 0) (.slice none 0 0)
      have Hfin := Lib.hid (Hf2.out.step h7.2 (fun b hb h => by unfold Is at h; omega))
      have Hq := Lib.hid h7.1
      clear h7
      go_wp2_with fail
      have y0 := cell_of_block Hq.out 0
      have y1 := cell_of_block Hq.out 1
      have y2 := cell_of_block Hq.out 2
      have y3 := cell_of_block Hq.out 3
      have y4 := cell_of_block Hq.out 4
      have y5 := cell_of_block Hq.out 5
      have y6 := cell_of_block Hq.out 6
      refine bodyPost_ret (v := .tuple #[.agg #[.int .i64 0, .string ⟨#[]⟩, .string ⟨#[]⟩, .int .i64 0, .int .i64 0, .int .i64 0, .slice none 0 0], .slice none 0 0, .bool false]) (by simp [results, Tryz.results87, go_sem, y0, y1, y2, y3, y4, y5, y6]) rfl ?_
      exact ⟨.inl ⟨Hn.out, rfl⟩, Hfin.out⟩
end Go.Proofs.YtbblkknndaoefaaGreatDoor
namespace Go.Proofs.YtbblkknndaoefaaGreatDoor
open Go.RowKit Go.Maps
set_option linter.unusedVariables false

/-- What Of answers. -/
def OfRes (w : World) (p s : ByteArray) (rd : Int) (e : Ending) (w' : World) : Prop :=
  ((∀ c, parseC s = some c → c.kind ≠ 3) ∧ e = .returned (.tuple #[.agg #[.string ⟨#[]⟩, .string ⟨#[]⟩, .int .i64 0, .int .i64 0, .int .i64 0, .int .i64 0, .slice none 0 0], .bool false])) ∨
  (∃ (c : Ct) (a' : Option Addr) (cap' : Nat), parseC s = some c ∧ c.kind = 3 ∧ e = .returned (.tuple #[.agg #[.string p, .string c.id, .int .i64 rd, .int .i64 0, .int .i64 0, .int .i64 0, .slice a' c.inner.length cap'], .bool true]) ∧ Strs w' a' cap' (c.inner.map Ct.txt) ∧ ∀ ad, a' = some ad → w.heap.size ≤ ad.block)

set_option maxRecDepth 100000 in
set_option maxHeartbeats 3000000 in
theorem crypt_of (p s : ByteArray) (rd : Int) (w : World) (ha : Ascii s) (hE : Env w) (hs : s.size ≤ 100000) :
    Calls Tryz.prog 71 #[.string p, .int .i64 rd, .string s] w fun en w2 => OfRes w p s rd en w2 ∧ Fr No w w2 := by
  have h0 : Fr No w (w.alloc (.cells #[.string ⟨#[]⟩, .string ⟨#[]⟩, .int .i64 0, .int .i64 0, .int .i64 0, .int .i64 0, .slice none 0 0] 58)) := (Fr.refl _ _).alloc _
  have q0 := block_alloc w (.cells #[.string ⟨#[]⟩, .string ⟨#[]⟩, .int .i64 0, .int .i64 0, .int .i64 0, .int .i64 0, .slice none 0 0] 58)
  have hsz : w.heap.size < (w.alloc (.cells #[.string ⟨#[]⟩, .string ⟨#[]⟩, .int .i64 0, .int .i64 0, .int .i64 0, .int .i64 0, .slice none 0 0] 58)).heap.size := by simp
  obtain ⟨W0, hW0⟩ : ∃ W0, W0 = w.alloc (.cells #[.string ⟨#[]⟩, .string ⟨#[]⟩, .int .i64 0, .int .i64 0, .int .i64 0, .int .i64 0, .slice none 0 0] 58) := ⟨_, rfl⟩
  rw [← hW0] at h0 q0 hsz
  have hrd := c_read s 3 W0 ha (hE.no h0) hs
  have H0 := Lib.hid h0
  clear h0 hE ha
  go_enter Tryz.func71, Tryz.ntmps71
  go_upto_region 1 with (fail)
  rw [← hW0]
  clear hW0
  go_wp2_with fail
  refine hrd.mono ?_
  rintro en w1 ⟨hres, hf1⟩
  have hs1 := hf1.size
  have q1 := hf1.heap q0 id
  have Hf1 := Lib.hid (H0.out.step hf1 (fun _ _ h => h))
  clear hrd q0 hf1
  rcases hres with ⟨hno, rfl⟩ | ⟨k, sl, t, le, i, l, n, a, a', cap, cap', hpc, hk, rfl, hin, hst, hfresh⟩
  · have Hn : Hid (∀ c, parseC s = some c → c.kind ≠ 3) := hno
    have hx : Fr No w1 (w1.alloc (.cells #[.int .i64 0, .string ⟨#[]⟩, .string ⟨#[]⟩, .int .i64 0, .int .i64 0, .int .i64 0, .slice none 0 0] 54)) := (Fr.refl _ _).alloc _
    have q2 := hx.heap q1 id
    have Hf2 := Lib.hid (Hf1.out.step hx (fun _ _ h => h))
    have Hq2 := Lib.hid q2
    clear q1 hx hno q2
    go_upto_region 3 with (fail)
    generalize w1.alloc (.cells #[.int .i64 0, .string ⟨#[]⟩, .string ⟨#[]⟩, .int .i64 0, .int .i64 0, .int .i64 0, .slice none 0 0] 54) = W2 at *
    have q2 := Hq2.out
    have b0 : W2.cell? ⟨w.heap.size, 0, none⟩ = some (.string ⟨#[]⟩) := cell_of_block q2 0
    have b1 : W2.cell? ⟨w.heap.size, 1, none⟩ = some (.string ⟨#[]⟩) := cell_of_block q2 1
    have b2 : W2.cell? ⟨w.heap.size, 2, none⟩ = some (.int .i64 0) := cell_of_block q2 2
    have b3 : W2.cell? ⟨w.heap.size, 3, none⟩ = some (.int .i64 0) := cell_of_block q2 3
    have b4 : W2.cell? ⟨w.heap.size, 4, none⟩ = some (.int .i64 0) := cell_of_block q2 4
    have b5 : W2.cell? ⟨w.heap.size, 5, none⟩ = some (.int .i64 0) := cell_of_block q2 5
    have b6 : W2.cell? ⟨w.heap.size, 6, none⟩ = some (.slice none 0 0) := cell_of_block q2 6
    have f0 : W2.frozen? ⟨w.heap.size, 0, none⟩ = false := free_of_block q2 0
    have f1 : W2.frozen? ⟨w.heap.size, 1, none⟩ = false := free_of_block q2 1
    have f2 : W2.frozen? ⟨w.heap.size, 2, none⟩ = false := free_of_block q2 2
    have f3 : W2.frozen? ⟨w.heap.size, 3, none⟩ = false := free_of_block q2 3
    have f4 : W2.frozen? ⟨w.heap.size, 4, none⟩ = false := free_of_block q2 4
    have f5 : W2.frozen? ⟨w.heap.size, 5, none⟩ = false := free_of_block q2 5
    have f6 : W2.frozen? ⟨w.heap.size, 6, none⟩ = false := free_of_block q2 6
    have h7 := set7 q2 rfl (.string ⟨#[]⟩) (.string ⟨#[]⟩) (.int .i64 0) (.int .i64 0) (.int .i64 0) (.int .i64 0) (.slice none 0 0)
    have Hfin := Lib.hid (Hf2.out.step h7.2 (fun b hb h => by unfold Is at h; omega))
    have Hq := Lib.hid h7.1
    clear h7 q2
    go_wp2_with fail
    have y0 := cell_of_block Hq.out 0
    have y1 := cell_of_block Hq.out 1
    have y2 := cell_of_block Hq.out 2
    have y3 := cell_of_block Hq.out 3
    have y4 := cell_of_block Hq.out 4
    have y5 := cell_of_block Hq.out 5
    have y6 := cell_of_block Hq.out 6
    refine bodyPost_ret (v := .tuple #[.agg #[.string ⟨#[]⟩, .string ⟨#[]⟩, .int .i64 0, .int .i64 0, .int .i64 0, .int .i64 0, .slice none 0 0], .bool false]) (by simp [results, Tryz.results71, go_sem, y0, y1, y2, y3, y4, y5, y6]) rfl ?_
    exact ⟨.inl ⟨Hn.out, rfl⟩, Hfin.out⟩
  · subst hk
    have Hpc : Hid (parseC s = some (.mk 3 i l sl t le n)) := hpc
    have Hfresh := Lib.hid hfresh
    have hx : Fr No w1 (w1.alloc (.cells #[.int .i64 3, .string i, .string l, .int .i64 sl, .int .i64 t, .int .i64 le, .slice a n.length cap] 54)) := (Fr.refl _ _).alloc _
    have Hq2 := Lib.hid (hx.heap q1 id)
    have qt := block_alloc w1 (.cells #[.int .i64 3, .string i, .string l, .int .i64 sl, .int .i64 t, .int .i64 le, .slice a n.length cap] 54)
    have Hf2 := Lib.hid (Hf1.out.step hx (fun _ _ h => h))
    have Hst := Lib.hid (hst.no hx (fun _ => id))
    clear q1 hx hst hpc hfresh hin
    go_upto_region 4 with (fail)
    generalize w1.alloc (.cells #[.int .i64 3, .string i, .string l, .int .i64 sl, .int .i64 t, .int .i64 le, .slice a n.length cap] 54) = W2 at *
    have zt1 : W2.cell? ⟨w1.heap.size, 1, none⟩ = some (.string i) := cell_of_block qt 1
    have q2 := Hq2.out
    clear qt
    have b0 : W2.cell? ⟨w.heap.size, 0, none⟩ = some (.string ⟨#[]⟩) := cell_of_block q2 0
    have b1 : W2.cell? ⟨w.heap.size, 1, none⟩ = some (.string ⟨#[]⟩) := cell_of_block q2 1
    have b2 : W2.cell? ⟨w.heap.size, 2, none⟩ = some (.int .i64 0) := cell_of_block q2 2
    have b3 : W2.cell? ⟨w.heap.size, 3, none⟩ = some (.int .i64 0) := cell_of_block q2 3
    have b4 : W2.cell? ⟨w.heap.size, 4, none⟩ = some (.int .i64 0) := cell_of_block q2 4
    have b5 : W2.cell? ⟨w.heap.size, 5, none⟩ = some (.int .i64 0) := cell_of_block q2 5
    have b6 : W2.cell? ⟨w.heap.size, 6, none⟩ = some (.slice none 0 0) := cell_of_block q2 6
    have f0 : W2.frozen? ⟨w.heap.size, 0, none⟩ = false := free_of_block q2 0
    have f1 : W2.frozen? ⟨w.heap.size, 1, none⟩ = false := free_of_block q2 1
    have f2 : W2.frozen? ⟨w.heap.size, 2, none⟩ = false := free_of_block q2 2
    have f3 : W2.frozen? ⟨w.heap.size, 3, none⟩ = false := free_of_block q2 3
    have f4 : W2.frozen? ⟨w.heap.size, 4, none⟩ = false := free_of_block q2 4
    have f5 : W2.frozen? ⟨w.heap.size, 5, none⟩ = false := free_of_block q2 5
    have f6 : W2.frozen? ⟨w.heap.size, 6, none⟩ = false := free_of_block q2 6
    have h7 := set7 q2 rfl (.string p) (.string i) (.int .i64 rd) (.int .i64 0) (.int .i64 0) (.int .i64 0) (.slice a' n.length cap')
    have Hfin := Lib.hid (Hf2.out.step h7.2 (fun b hb h => by unfold Is at h; omega))
    have Hst4 := Lib.hid (Hst.out.fr h7.2 (fun ad e hne h => by have := Hfresh.out ad e; unfold Is at h; omega))
    have Hq := Lib.hid h7.1
    clear h7 q2
    go_wp2_with fail
    have y0 := cell_of_block Hq.out 0
    have y1 := cell_of_block Hq.out 1
    have y2 := cell_of_block Hq.out 2
    have y3 := cell_of_block Hq.out 3
    have y4 := cell_of_block Hq.out 4
    have y5 := cell_of_block Hq.out 5
    have y6 := cell_of_block Hq.out 6
    refine bodyPost_ret (v := .tuple #[.agg #[.string p, .string i, .int .i64 rd, .int .i64 0, .int .i64 0, .int .i64 0, .slice a' n.length cap'], .bool true]) (by simp [results, Tryz.results71, go_sem, y0, y1, y2, y3, y4, y5, y6]) rfl ?_
    exact ⟨.inr ⟨.mk 3 i l sl t le n, a', cap', Hpc.out, rfl, rfl, Hst4.out, fun ad e => by have := Hfresh.out ad e; omega⟩, Hfin.out⟩
end Go.Proofs.YtbblkknndaoefaaGreatDoor
namespace Go.Proofs.YtbblkknndaoefaaGreatDoor
open Go.RowKit Go.Maps
set_option linter.unusedVariables false

theorem of_known {w w' : World} {p s i t : ByteArray} {rd : Int} {e : Ending} {c : Ct} (h : OfRes w p s rd e w') (hp : parseC s = some c) (hk : c.kind = 3) (hi : c.id = i) (ht : c.inner.map Ct.txt = [t]) :
    ∃ a cap, e = .returned (.tuple #[.agg #[.string p, .string i, .int .i64 rd, .int .i64 0, .int .i64 0, .int .i64 0, .slice a 1 cap], .bool true]) ∧ Strs w' a cap [t] ∧ ∀ ad, a = some ad → w.heap.size ≤ ad.block := by
  rcases h with ⟨h1, _⟩ | ⟨c', a, cap, h1, _, h3, h4, h5⟩
  · exact absurd hk (h1 c hp)
  · rw [hp] at h1; cases h1
    have hl : c.inner.length = 1 := by have := congrArg List.length ht; simpa using this
    rw [ht] at h4
    rw [hi, hl] at h3
    exact ⟨a, cap, h3, h4, h5⟩
theorem kA1 : Ascii kT1 := fun j b h => (by decide : ∀ b ∈ kT1.data.toList, b.toNat < 128) b (List.mem_of_getElem? h)
theorem kA2 : Ascii kT2 := fun j b h => (by decide : ∀ b ∈ kT2.data.toList, b.toNat < 128) b (List.mem_of_getElem? h)
theorem kA3 : Ascii kT3 := fun j b h => (by decide : ∀ b ∈ kT3.data.toList, b.toNat < 128) b (List.mem_of_getElem? h)
theorem k_small (a1 a2 a3 : Option Addr) (c1 c2 c3 : Nat) : MemSmall (kL a1 a2 a3 c1 c2 c3) := by
  have h1 : kPa.size ≤ 1000000 ∧ kPb.size ≤ 1000000 ∧ kPd.size ≤ 1000000 ∧ kIc.size ≤ 1000000 ∧ kIe.size ≤ 1000000 := by decide
  refine ⟨by simp [kL], fun m hm => ?_, fun m hm => ?_, fun m hm => ?_⟩
  all_goals
    simp only [kL, List.mem_cons, List.not_mem_nil, or_false] at hm
    rcases hm with rfl | rfl | rfl
  all_goals first | exact h1.1 | exact h1.2.1 | exact h1.2.2.1 | exact h1.2.2.2.1 | exact h1.2.2.2.2 | simp

set_option maxRecDepth 100000 in
set_option maxHeartbeats 8000000 in
theorem known33 (w : World) (hE : Env w) : Calls Tryz.prog 16 #[] w fun e w' => e = .returned (.bool true) ∧ Fr No w w' := by
  have hof1 := crypt_of kPa kT1 0 w kA1 hE (by decide)
  go_enter Tryz.func16, Tryz.ntmps16
  go_wp2_with fail
  refine hof1.mono ?_
  rintro e w1 ⟨hr, hf1⟩
  obtain ⟨a1, c1, rfl, hS1, hF1⟩ := of_known (i := kIc) hr kP1 rfl rfl kX1
  clear hof1 hr
  have hE1 := hE.no hf1
  go_upto_region 2 with (fail)
  have hx1 : Fr No w1 (w1.alloc (.cells #[.string kPa, .string kIc, .int .i64 0, .int .i64 0, .int .i64 0, .int .i64 0, .slice a1 1 c1] 58)) := (Fr.refl _ _).alloc _
  have q1 := block_alloc w1 (.cells #[.string kPa, .string kIc, .int .i64 0, .int .i64 0, .int .i64 0, .int .i64 0, .slice a1 1 c1] 58)
  have hE2 := hE1.no hx1
  have hS1x := hS1.no hx1 (fun _ => id)
  have hfw := hf1.step hx1 (fun _ _ h => h)
  generalize w1.alloc (.cells #[.string kPa, .string kIc, .int .i64 0, .int .i64 0, .int .i64 0, .int .i64 0, .slice a1 1 c1] 58) = W1 at *
  clear hS1 hE1 hx1 hf1 hF1
  have hof2 := crypt_of kPb kT2 1 W1 kA2 hE2 (by decide)
  go_wp2_with fail
  refine hof2.mono ?_
  rintro e w2 ⟨hr, hf2⟩
  obtain ⟨a2, c2, rfl, hS2, hF2⟩ := of_known (i := kIc) hr kP2 rfl rfl kX2
  clear hof2 hr
  have hE3 := hE2.no hf2
  go_upto_region 3 with (fail)
  have hx2 : Fr No w2 (w2.alloc (.cells #[.string kPb, .string kIc, .int .i64 1, .int .i64 0, .int .i64 0, .int .i64 0, .slice a2 1 c2] 58)) := (Fr.refl _ _).alloc _
  have q2 := block_alloc w2 (.cells #[.string kPb, .string kIc, .int .i64 1, .int .i64 0, .int .i64 0, .int .i64 0, .slice a2 1 c2] 58)
  have hE4 := hE3.no hx2
  have hS2x := hS2.no hx2 (fun _ => id)
  have hf12 := hf2.step hx2 (fun _ _ h => h)
  have q1' := hf12.heap q1 id
  have hS1y := hS1x.no hf12 (fun _ => id)
  have hfw2 := hfw.step hf12 (fun _ _ h => h)
  generalize w2.alloc (.cells #[.string kPb, .string kIc, .int .i64 1, .int .i64 0, .int .i64 0, .int .i64 0, .slice a2 1 c2] 58) = W2 at *
  clear hS2 hE3 hx2 hf2 hF2 hE2 q1 hS1x hf12 hfw
  have hof3 := crypt_of kPd kT3 0 W2 kA3 hE4 (by decide)
  go_wp2_with fail
  refine hof3.mono ?_
  rintro e w3 ⟨hr, hf3⟩
  obtain ⟨a3, c3, rfl, hS3, hF3⟩ := of_known (i := kIe) hr kP3 rfl rfl kX3
  clear hof3 hr
  have hE5 := hE4.no hf3
  go_upto_region 4 with (fail)
  have hx3 : Fr No w3 (w3.alloc (.cells #[.string kPd, .string kIe, .int .i64 0, .int .i64 0, .int .i64 0, .int .i64 0, .slice a3 1 c3] 58)) := (Fr.refl _ _).alloc _
  have q3 := block_alloc w3 (.cells #[.string kPd, .string kIe, .int .i64 0, .int .i64 0, .int .i64 0, .int .i64 0, .slice a3 1 c3] 58)
  have hE6 := hE5.no hx3
  have hS3x := hS3.no hx3 (fun _ => id)
  have hf23 := hf3.step hx3 (fun _ _ h => h)
  have q1'' := hf23.heap q1' id
  have q2' := hf23.heap q2 id
  have hS1z := hS1y.no hf23 (fun _ => id)
  have hS2z := hS2x.no hf23 (fun _ => id)
  have hfw3 := hfw2.step hf23 (fun _ _ h => h)
  generalize w3.alloc (.cells #[.string kPd, .string kIe, .int .i64 0, .int .i64 0, .int .i64 0, .int .i64 0, .slice a3 1 c3] 58) = W3 at *
  clear hS3 hE5 hx3 hf3 hF3 hE4 q1' q2 hS1y hS2x hf23 hfw2
  have y10 : W3.cell? ⟨w1.heap.size, 0, none⟩ = some (.string kPa) := cell_of_block q1'' 0
  have y11 : W3.cell? ⟨w1.heap.size, 1, none⟩ = some (.string kIc) := cell_of_block q1'' 1
  have y12 : W3.cell? ⟨w1.heap.size, 2, none⟩ = some (.int .i64 0) := cell_of_block q1'' 2
  have y13 : W3.cell? ⟨w1.heap.size, 3, none⟩ = some (.int .i64 0) := cell_of_block q1'' 3
  have y14 : W3.cell? ⟨w1.heap.size, 4, none⟩ = some (.int .i64 0) := cell_of_block q1'' 4
  have y15 : W3.cell? ⟨w1.heap.size, 5, none⟩ = some (.int .i64 0) := cell_of_block q1'' 5
  have y16 : W3.cell? ⟨w1.heap.size, 6, none⟩ = some (.slice a1 1 c1) := cell_of_block q1'' 6
  have y20 : W3.cell? ⟨w2.heap.size, 0, none⟩ = some (.string kPb) := cell_of_block q2' 0
  have y21 : W3.cell? ⟨w2.heap.size, 1, none⟩ = some (.string kIc) := cell_of_block q2' 1
  have y22 : W3.cell? ⟨w2.heap.size, 2, none⟩ = some (.int .i64 1) := cell_of_block q2' 2
  have y23 : W3.cell? ⟨w2.heap.size, 3, none⟩ = some (.int .i64 0) := cell_of_block q2' 3
  have y24 : W3.cell? ⟨w2.heap.size, 4, none⟩ = some (.int .i64 0) := cell_of_block q2' 4
  have y25 : W3.cell? ⟨w2.heap.size, 5, none⟩ = some (.int .i64 0) := cell_of_block q2' 5
  have y26 : W3.cell? ⟨w2.heap.size, 6, none⟩ = some (.slice a2 1 c2) := cell_of_block q2' 6
  have y30 : W3.cell? ⟨w3.heap.size, 0, none⟩ = some (.string kPd) := cell_of_block q3 0
  have y31 : W3.cell? ⟨w3.heap.size, 1, none⟩ = some (.string kIe) := cell_of_block q3 1
  have y32 : W3.cell? ⟨w3.heap.size, 2, none⟩ = some (.int .i64 0) := cell_of_block q3 2
  have y33 : W3.cell? ⟨w3.heap.size, 3, none⟩ = some (.int .i64 0) := cell_of_block q3 3
  have y34 : W3.cell? ⟨w3.heap.size, 4, none⟩ = some (.int .i64 0) := cell_of_block q3 4
  have y35 : W3.cell? ⟨w3.heap.size, 5, none⟩ = some (.int .i64 0) := cell_of_block q3 5
  have y36 : W3.cell? ⟨w3.heap.size, 6, none⟩ = some (.slice a3 1 c3) := cell_of_block q3 6
  clear q1'' q2' q3
  go_upto_region 5 with (fail)
  have hx4 : Fr No W3 (W3.alloc (.cells (mflat (kL a1 a2 a3 c1 c2 c3)).toArray 58)) := (Fr.refl _ _).alloc _
  have hM : Mems (W3.alloc (.cells (mflat (kL a1 a2 a3 c1 c2 c3)).toArray 58)) (some ⟨W3.heap.size, 0, none⟩) 3 (kL a1 a2 a3 c1 c2 c3) := Mems.of_block (block_alloc _ _) (by unfold maxLen kL; simp) (fun m hm => by
    simp only [kL, List.mem_cons, List.not_mem_nil, or_false] at hm
    rcases hm with rfl | rfl | rfl
    · exact hS1z.no hx4 (fun _ => id)
    · exact hS2z.no hx4 (fun _ => id)
    · exact hS3x.no hx4 (fun _ => id))
  have hE7 := hE6.no hx4
  have hfw4 := hfw3.step hx4 (fun _ _ h => h)
  change Code.wp _ _ _ _ (W3.alloc (.cells (mflat (kL a1 a2 a3 c1 c2 c3)).toArray 58))
  generalize W3.alloc (.cells (mflat (kL a1 a2 a3 c1 c2 c3)).toArray 58) = W4 at *
  clear hx4 hfw3 hE6 hS1z hS2z hS3x
  clear y10 y11 y12 y13 y14 y15 y16 y20 y21 y22 y23 y24 y25 y26 y30 y31 y32 y33 y34 y35 y36
  obtain ⟨m0, hm0⟩ := hE7.len
  have hsz := hE7.sz
  have hsz4 := hfw4.size
  have hx5 : Fr No W4 (W4.alloc (.cells #[.string ⟨#[99]⟩, .string ⟨#[120]⟩] 9)) := (Fr.refl _ _).alloc _
  have hK5 : Strs (W4.alloc (.cells #[.string ⟨#[99]⟩, .string ⟨#[120]⟩] 9)) (some ⟨W4.heap.size, 0, none⟩) 2 [kIc, kIx] := Strs.of_block (l := [kIc, kIx]) (block_alloc _ _) (by unfold maxLen; simp)
  have hkz : ∀ x ∈ [kIc, kIx], x.size ≤ maxLen := fun x hx => by have : x.size ≤ 1 := (by decide : ∀ x ∈ [kIc, kIx], x.size ≤ 1) x hx; unfold maxLen; omega
  have hop := c_open (some ⟨W3.heap.size, 0, none⟩) 3 (kL a1 a2 a3 c1 c2 c3) (some ⟨W4.heap.size, 0, none⟩) 2 [kIc, kIx] 2 m0 _ (hM.no hx5 (fun _ => id)) (k_small _ _ _ _ _ _) hK5 (by simp) hkz (hx5.cell hm0 id) (by have := hx5.size; omega)
  go_wp2_with fail
  refine hop.mono ?_
  rintro e w5 ⟨⟨va, vc, V, ids, rfl, hV, hVf, hids, hVe, _⟩, hf5⟩
  rw [k_ids_is _ _ _ _ _ _ hids, k_opened] at hVe
  subst hVe
  clear hop hids hK5
  have hf45 := hx5.step hf5 (fun _ _ h => h)
  have hM5 := hM.no hf45 (fun _ => id)
  have hm5 := hf45.cell hm0 id
  have hfw5 := hfw4.step hf45 (fun _ _ h => h)
  have hsz5 := hf45.size
  clear hx5 hf5 hf45 hM hm0 hfw4 hE7
  have how := c_owners (some ⟨W3.heap.size, 0, none⟩) 3 (kL a1 a2 a3 c1 c2 c3) m0 w5 hM5 (k_small _ _ _ _ _ _) hm5 (by omega)
  go_wp2_with fail
  refine how.mono ?_
  rintro e w6 ⟨⟨oa, oc, O, ids, rfl, hO, _, _, hids, hOe, _⟩, hf6⟩
  have hO2 : O.length = 2 := by rw [own_len hOe, k_ids_is _ _ _ _ _ _ hids]; rfl
  rw [hO2]
  have hV6 := hV.no hf6 (fun _ => id)
  obtain ⟨vb, vo, v0, rfl, hv0, hat, _⟩ := hV6.elem (k := 0) (by simp)
  have hM6 := hM5.no hf6 (fun _ => id)
  have hm6 := hf6.cell hm5 id
  have hfw6 := hfw5.step hf6 (fun _ _ h => h)
  have hsz6 := hf6.size
  obtain rfl : v0 = ⟨⟨#[]⟩, kOc, kFx, 2⟩ := by simpa using hv0.symm
  obtain ⟨v1, v2, v3, v4⟩ := hat
  simp only [Nat.zero_mul, Nat.add_zero] at v1 v2 v3 v4
  have hx7 : Fr No w6 (w6.alloc (.cells #[.string ⟨#[99]⟩, .string ⟨#[120]⟩] 9)) := (Fr.refl _ _).alloc _
  have hK7 : Strs (w6.alloc (.cells #[.string ⟨#[99]⟩, .string ⟨#[120]⟩] 9)) (some ⟨w6.heap.size, 0, none⟩) 2 [kIc, kIx] := Strs.of_block (l := [kIc, kIx]) (block_alloc _ _) (by unfold maxLen; simp)
  have hak := c_asks (some ⟨W3.heap.size, 0, none⟩) 3 (kL a1 a2 a3 c1 c2 c3) (some ⟨w6.heap.size, 0, none⟩) 2 [kIc, kIx] m0 _ (hM6.no hx7 (fun _ => id)) (k_small _ _ _ _ _ _) hK7 (by simp) hkz (hx7.cell hm6 id) (by have := hx7.size; omega)
  clear how hO hids hOe hO2 hV6 hV hv0 hM6 hM5 hm5 hf6 hfw5 hVf
  have ho1 : kOc.toList = [111, 112, 101, 110, 45, 99] := by rw [ByteArray.toList_eq]; rfl
  have ho2 : kFx.toList = [102, 115, 58, 120, 58] := by rw [ByteArray.toList_eq]; rfl
  go_wp2_with fail
  refine hak.mono ?_
  rintro e w8 ⟨⟨xa, xc, X, ids, rfl, hX, _, hids, hXe, _⟩, hf8⟩
  rw [k_ids_is _ _ _ _ _ _ hids, k_asked] at hXe
  subst hXe
  have hf68 := hx7.step hf8 (fun _ _ h => h)
  have hfw8 := hfw6.step hf68 (fun _ _ h => h)
  have hx9 : Fr No w8 (w8.alloc (.cells #[.string ⟨#[101]⟩] 9)) := (Fr.refl _ _).alloc _
  have hE9 : Strs (w8.alloc (.cells #[.string ⟨#[101]⟩] 9)) (some ⟨w8.heap.size, 0, none⟩) 1 [kIe] := Strs.of_block (l := [kIe]) (block_alloc _ _) (by unfold maxLen; simp)
  have hst := same_texts xa (some ⟨w8.heap.size, 0, none⟩) xc 1 [kIe] [kIe] _ (hX.no hx9 (fun _ => id)) hE9
  rw [show sameT [kIe] [kIe] = true by unfold sameT; simp] at hst
  have hfw9 := hfw8.step hx9 (fun _ _ h => h)
  clear hak hx7 hK7 hids hX hf8 hf68 hfw8 hx9 hE9 v1 v2 v3 v4
  go_wp2_with fail
  refine hst.mono ?_
  rintro e w9 ⟨rfl, hf9⟩
  have hfin := hfw9.step hf9 (fun _ _ h => h)
  clear hst hf9 hfw9
  go_wp2_with fail
  go_ret
  exact ⟨rfl, hfin⟩
end Go.Proofs.YtbblkknndaoefaaGreatDoor
