/- Format; gather.Read. volume.Of. volume.Lacks. -/
import Derived.Test.YtmieegcgeolckaaGreatDoorZV19
import Derived.Test.YtmieegcgeolckaaGreatDoorZV12
import Derived.Test.YtmieegcgeolckaaGreatDoorZV7
namespace Go.Proofs.YtmieegcgeolckaaGreatDoor
open Go.RowKit Go.Maps
set_option linter.unusedVariables false

/-- A content that its text can be written of. -/
structure Fit (c : Ct) : Prop where
  good : c.good = true
  depth : c.depth ≤ 6
  len : c.text.length ≤ 256
  count : c.count ≤ 10000
theorem Fit.valid {c : Ct} (h : Fit c) : c.valid = true := by unfold Ct.valid; rw [h.good, decide_eq_true h.depth]; rfl
theorem Fit.small {c : Ct} (h : Fit c) : ∀ d ∈ c.walk, SmallC 100000 d := fun d hd => by
  have h1 := h.good
  rw [good_walk] at h1
  have h2 := List.all_eq_true.1 h1 d hd
  obtain ⟨k, i, l, s, t, e, n⟩ := d
  obtain ⟨h3, h4⟩ := alike_small h2
  exact ⟨Nat.le_trans h3 (by omega), Nat.le_trans h4 (by omega)⟩
theorem parse_fit {s : ByteArray} {c : Ct} (h : parseC s = some c) : Fit c ∧ c.txt = s := by
  have h1 := (parse_iff s c).1 h
  obtain ⟨hl, hv, ht⟩ := h1
  have hv' := hv
  unfold Ct.valid at hv'
  rw [Bool.and_eq_true, decide_eq_true_eq] at hv'
  refine ⟨⟨hv'.2, hv'.1, by rw [ht]; exact hl, ?_⟩, ba_ext (by rw [bl_txt, ht])⟩
  have h2 : ¬ 256 < (bl s).length := by omega
  unfold parseC at h
  rw [if_neg h2] at h
  split at h
  · rename_i c' hp
    have h3 := (p_count _).1 _ _ _ hp
    split at h
    · injection h with h
      subst h
      have h4 : c'.count + ([] : List UInt8).length ≤ (bl s).length + 1 := h3
      rw [List.length_nil] at h4
      omega
    · cases h
  · cases h
theorem Fit.inner {k s t e : Int} {i l : ByteArray} {n : List Ct} (h : Fit (.mk k i l s t e n)) {d : Ct} (hd : d ∈ n) : Fit d := by
  have hg := good_alike h.good
  have hi := in_le h.good
  have h1 := commas_mem (List.mem_map_of_mem (f := Ct.text) hd)
  have h2 : (commas (n.map Ct.text)).length ≤ _ := hi
  have h3 := h.len
  have h4 := mem_count hd
  have h5 := mem_depth hd
  have h6 := h.depth
  have h7 := h.count
  rw [Ct.count] at h7
  rw [Ct.depth] at h6
  exact ⟨List.all_eq_true.1 hg.2 d hd, by split at h6 <;> omega, by omega, by omega⟩

set_option maxRecDepth 100000 in
set_option maxHeartbeats 1000000 in
theorem c_format (k s t e : Int) (i l : ByteArray) (n : List Ct) (a : Option Addr) (cap : Nat) (w : World) (X : Nat → Prop) (hin : InAt w X a cap n) (hF : Fit (.mk k i l s t e n)) :
    Calls Tryz.prog 69 #[.agg #[.int .i64 k, .string i, .string l, .int .i64 s, .int .i64 t, .int .i64 e, .slice a n.length cap]] w fun en w2 => en = .returned (.tuple #[.string (Ct.mk k i l s t e n).txt, .int .i64 0]) ∧ Fr No w w2 := by
  have h0 : Fr No w (w.alloc (.cells #[.int .i64 k, .string i, .string l, .int .i64 s, .int .i64 t, .int .i64 e, .slice a n.length cap] 54)) := (Fr.refl _ _).alloc _
  have q1 := block_alloc w (.cells #[.int .i64 k, .string i, .string l, .int .i64 s, .int .i64 t, .int .i64 e, .slice a n.length cap] 54)
  obtain ⟨W0, hW0⟩ : ∃ W0, W0 = w.alloc (.cells #[.int .i64 k, .string i, .string l, .int .i64 s, .int .i64 t, .int .i64 e, .slice a n.length cap] 54) := ⟨_, rfl⟩
  rw [← hW0] at h0 q1
  have hin0 := hin.fr h0 (fun _ _ => id)
  have H0 := Lib.hid h0
  have hck := c_check (.mk k i l s t e n) X _ W0 (CAt.of_in hin0 k i l s t e) hF.count hF.small
  rw [if_pos hF.valid] at hck
  have hcl := hF.count
  have hlen := hF.len
  have hts : (Ct.mk k i l s t e n).txt.size ≤ 256 := hlen
  have HF := Lib.hid hF
  clear hF h0 hin
  have a0 : W0.cell? ⟨w.heap.size, 0, none⟩ = some (.int .i64 k) := cell_of_block q1 0
  have a1 : W0.cell? ⟨w.heap.size, 1, none⟩ = some (.string i) := cell_of_block q1 1
  have a2 : W0.cell? ⟨w.heap.size, 2, none⟩ = some (.string l) := cell_of_block q1 2
  have a3 : W0.cell? ⟨w.heap.size, 3, none⟩ = some (.int .i64 s) := cell_of_block q1 3
  have a4 : W0.cell? ⟨w.heap.size, 4, none⟩ = some (.int .i64 t) := cell_of_block q1 4
  have a5 : W0.cell? ⟨w.heap.size, 5, none⟩ = some (.int .i64 e) := cell_of_block q1 5
  have a6 : W0.cell? ⟨w.heap.size, 6, none⟩ = some (.slice a n.length cap) := cell_of_block q1 6
  go_enter Tryz.func69, Tryz.ntmps69
  go_upto_region 1 with (fail)
  rw [← hW0]
  clear hW0
  go_wp2_with fail
  refine hck.mono ?_
  rintro en w1 ⟨rfl, hf1⟩
  have q2 := hf1.heap q1 id
  have Hf1 := Lib.hid (H0.out.step hf1 (fun _ _ h => h))
  have hin1 := hin0.fr hf1 (fun _ _ => id)
  have htx := c_text_n 10000 (by omega) k s t e i l n a cap w1 X (by rw [Ct.count] at hcl; omega) hin1 HF.out.good (by omega)
  obtain ⟨tx, htxe⟩ : ∃ tx, tx = (Ct.mk k i l s t e n).txt := ⟨_, rfl⟩
  rw [← htxe] at htx hts
  have Htx := Lib.hid htxe
  clear htxe
  clear a0 a1 a2 a3 a4 a5 a6 q1 hck hin0 hf1
  have a0 : w1.cell? ⟨w.heap.size, 0, none⟩ = some (.int .i64 k) := cell_of_block q2 0
  have a1 : w1.cell? ⟨w.heap.size, 1, none⟩ = some (.string i) := cell_of_block q2 1
  have a2 : w1.cell? ⟨w.heap.size, 2, none⟩ = some (.string l) := cell_of_block q2 2
  have a3 : w1.cell? ⟨w.heap.size, 3, none⟩ = some (.int .i64 s) := cell_of_block q2 3
  have a4 : w1.cell? ⟨w.heap.size, 4, none⟩ = some (.int .i64 t) := cell_of_block q2 4
  have a5 : w1.cell? ⟨w.heap.size, 5, none⟩ = some (.int .i64 e) := cell_of_block q2 5
  have a6 : w1.cell? ⟨w.heap.size, 6, none⟩ = some (.slice a n.length cap) := cell_of_block q2 6
  go_wp2_with fail
  refine htx.mono ?_
  rintro en w2 ⟨rfl, hf2⟩
  have Hf2 := Lib.hid (Hf1.out.step hf2 (fun _ _ h => h))
  have hts' : ¬ (256 : Int) < (tx.size : Int) := by omega
  clear a0 a1 a2 a3 a4 a5 a6 hin1 htx
  go_wp2_with fail
  go_ret2
  exact ⟨by rw [← Htx.out]; rfl, Hf2.out⟩

/-- What Read of a text answers for kind kd. -/
def ReadRes (w : World) (s : ByteArray) (kd : Int) (e : Ending) (w' : World) : Prop :=
  ((∀ c, parseC s = some c → c.kind ≠ kd) ∧ e = .returned (.tuple #[.agg #[.int .i64 0, .string ⟨#[]⟩, .string ⟨#[]⟩, .int .i64 0, .int .i64 0, .int .i64 0, .slice none 0 0], .slice none 0 0, .bool false])) ∨
  (∃ (k sl t le : Int) (i l : ByteArray) (n : List Ct) (a a' : Option Addr) (cap cap' : Nat), parseC s = some (.mk k i l sl t le n) ∧ k = kd ∧ e = .returned (.tuple #[.agg #[.int .i64 k, .string i, .string l, .int .i64 sl, .int .i64 t, .int .i64 le, .slice a n.length cap], .slice a' n.length cap', .bool true]) ∧ InAt w' (From w.heap.size) a cap n ∧ Strs w' a' cap' (n.map Ct.txt) ∧ ∀ ad, a' = some ad → w.heap.size ≤ ad.block)

set_option maxRecDepth 100000 in
set_option maxHeartbeats 3000000 in
theorem c_read (s : ByteArray) (kd : Int) (w : World) (ha : Ascii s) (hE : Env w) (hs : s.size ≤ 100000) :
    Calls Tryz.prog 45 #[.string s, .int .i64 kd] w fun en w2 => ReadRes w s kd en w2 ∧ Fr No w w2 := by
  obtain ⟨i0, hi0, hz0, hz1, hz2⟩ := info_parts infoS
  have h0 : Fr No w (w.alloc (.cells #[.int .i64 0, .string ⟨#[]⟩, .string ⟨#[]⟩, .int .i64 0, .int .i64 0, .int .i64 0, .slice none 0 0] 54)) := (Fr.refl _ _).alloc _
  have q0 := block_alloc w (.cells #[.int .i64 0, .string ⟨#[]⟩, .string ⟨#[]⟩, .int .i64 0, .int .i64 0, .int .i64 0, .slice none 0 0] 54)
  have hsz : w.heap.size < (w.alloc (.cells #[.int .i64 0, .string ⟨#[]⟩, .string ⟨#[]⟩, .int .i64 0, .int .i64 0, .int .i64 0, .slice none 0 0] 54)).heap.size := by simp
  obtain ⟨W0, hW0⟩ : ∃ W0, W0 = w.alloc (.cells #[.int .i64 0, .string ⟨#[]⟩, .string ⟨#[]⟩, .int .i64 0, .int .i64 0, .int .i64 0, .slice none 0 0] 54) := ⟨_, rfl⟩
  rw [← hW0] at h0 q0 hsz
  have hpa := c_parse s W0 ha (hE.no h0) hs
  have H0 := Lib.hid h0
  clear h0 hE
  go_enter Tryz.func45, Tryz.ntmps45
  go_upto_region 1 with (fail)
  rw [← hW0]
  clear hW0
  go_wp2_with fail
  refine hpa.mono ?_
  rintro en w1 ⟨hres, hf1⟩
  have hs1 := hf1.size
  have q1 := hf1.heap q0 id
  have Hf1 := Lib.hid (H0.out.step hf1 (fun _ _ h => h))
  clear hpa q0 hf1
  rcases hres with ⟨er, hpn, her, rfl⟩ | ⟨vs, c, hpc, rfl, hca⟩
  · have Hn : Hid (∀ c, parseC s = some c → c.kind ≠ kd) := fun c h => by rw [hpn] at h; cases h
    clear hpn
    have hx : Fr No w1 (w1.alloc (.cells #[.int .i64 0, .string ⟨#[]⟩, .string ⟨#[]⟩, .int .i64 0, .int .i64 0, .int .i64 0, .slice none 0 0] 54)) := (Fr.refl _ _).alloc _
    have q2 := hx.heap q1 id
    have qt := block_alloc w1 (.cells #[.int .i64 0, .string ⟨#[]⟩, .string ⟨#[]⟩, .int .i64 0, .int .i64 0, .int .i64 0, .slice none 0 0] 54)
    have Hf2 := Lib.hid (Hf1.out.step hx (fun _ _ h => h))
    clear q1 hx
    go_upto_region 2 with (fail)
    generalize w1.alloc (.cells #[.int .i64 0, .string ⟨#[]⟩, .string ⟨#[]⟩, .int .i64 0, .int .i64 0, .int .i64 0, .slice none 0 0] 54) = W2 at *
    have b0 : W2.cell? ⟨w.heap.size, 0, none⟩ = some (.int .i64 0) := cell_of_block q2 0
    have b1 : W2.cell? ⟨w.heap.size, 1, none⟩ = some (.string ⟨#[]⟩) := cell_of_block q2 1
    have b2 : W2.cell? ⟨w.heap.size, 2, none⟩ = some (.string ⟨#[]⟩) := cell_of_block q2 2
    have b3 : W2.cell? ⟨w.heap.size, 3, none⟩ = some (.int .i64 0) := cell_of_block q2 3
    have b4 : W2.cell? ⟨w.heap.size, 4, none⟩ = some (.int .i64 0) := cell_of_block q2 4
    have b5 : W2.cell? ⟨w.heap.size, 5, none⟩ = some (.int .i64 0) := cell_of_block q2 5
    have b6 : W2.cell? ⟨w.heap.size, 6, none⟩ = some (.slice none 0 0) := cell_of_block q2 6
    have f0 : W2.frozen? ⟨w.heap.size, 0, none⟩ = false := free_of_block q2 0
    have f1 : W2.frozen? ⟨w.heap.size, 1, none⟩ = false := free_of_block q2 1
    have f2 : W2.frozen? ⟨w.heap.size, 2, none⟩ = false := free_of_block q2 2
    have f3 : W2.frozen? ⟨w.heap.size, 3, none⟩ = false := free_of_block q2 3
    have f4 : W2.frozen? ⟨w.heap.size, 4, none⟩ = false := free_of_block q2 4
    have f5 : W2.frozen? ⟨w.heap.size, 5, none⟩ = false := free_of_block q2 5
    have f6 : W2.frozen? ⟨w.heap.size, 6, none⟩ = false := free_of_block q2 6
    have h7 := set7 q2 rfl (.int .i64 0) (.string ⟨#[]⟩) (.string ⟨#[]⟩) (.int .i64 0) (.int .i64 0) (.int .i64 0) (.slice none 0 0)
    have Hfin := Lib.hid (Hf2.out.step h7.2 (fun b hb h => by unfold Is at h; omega))
    have Hq := Lib.hid h7.1
    clear h7
    go_wp2_with fail
    have y0 := cell_of_block Hq.out 0
    have y1 := cell_of_block Hq.out 1
    have y2 := cell_of_block Hq.out 2
    have y3 := cell_of_block Hq.out 3
    have y4 := cell_of_block Hq.out 4
    have y5 := cell_of_block Hq.out 5
    have y6 := cell_of_block Hq.out 6
    refine bodyPost_ret (v := .tuple #[.agg #[.int .i64 0, .string ⟨#[]⟩, .string ⟨#[]⟩, .int .i64 0, .int .i64 0, .int .i64 0, .slice none 0 0], .slice none 0 0, .bool false]) (by simp [results, Tryz.results45, go_sem, y0, y1, y2, y3, y4, y5, y6]) rfl ?_
    exact ⟨.inl ⟨Hn.out, rfl⟩, Hfin.out⟩
  · obtain ⟨k, i, l, sl, t, le, n⟩ := c
    obtain ⟨hFit, htxt⟩ := parse_fit hpc
    obtain ⟨a, cap, rfl, hin⟩ := hca.inAt
    have Hpc := Lib.hid hpc
    clear hpc hca htxt
    have hx : Fr No w1 (w1.alloc (.cells #[.int .i64 k, .string i, .string l, .int .i64 sl, .int .i64 t, .int .i64 le, .slice a n.length cap] 54)) := (Fr.refl _ _).alloc _
    have q2 := hx.heap q1 id
    have qt := block_alloc w1 (.cells #[.int .i64 k, .string i, .string l, .int .i64 sl, .int .i64 t, .int .i64 le, .slice a n.length cap] 54)
    have Hf2 := Lib.hid (Hf1.out.step hx (fun _ _ h => h))
    have Hin2 := Lib.hid (hin.fr hx (fun _ _ => id))
    have HFit := Lib.hid hFit
    clear q1 hx hin hFit
    go_upto_region 2 with (fail)
    generalize w1.alloc (.cells #[.int .i64 k, .string i, .string l, .int .i64 sl, .int .i64 t, .int .i64 le, .slice a n.length cap] 54) = W2 at *
    have zt0 : W2.cell? ⟨w1.heap.size, 0, none⟩ = some (.int .i64 k) := cell_of_block qt 0
    have zt1 : W2.cell? ⟨w1.heap.size, 1, none⟩ = some (.string i) := cell_of_block qt 1
    have zt2 : W2.cell? ⟨w1.heap.size, 2, none⟩ = some (.string l) := cell_of_block qt 2
    have zt3 : W2.cell? ⟨w1.heap.size, 3, none⟩ = some (.int .i64 sl) := cell_of_block qt 3
    have zt4 : W2.cell? ⟨w1.heap.size, 4, none⟩ = some (.int .i64 t) := cell_of_block qt 4
    have zt5 : W2.cell? ⟨w1.heap.size, 5, none⟩ = some (.int .i64 le) := cell_of_block qt 5
    have zt6 : W2.cell? ⟨w1.heap.size, 6, none⟩ = some (.slice a n.length cap) := cell_of_block qt 6
    by_cases hk : k = kd
    · have Hk := Lib.hid hk
      subst hk
      have hcl := HFit.out.count
      rw [Ct.count] at hcl
      have hnl := len_counts n
      have ht2 := lt_of_block qt
      go_wp2_with fail
      go_loopw [9, 31] (fun v x wr => ∃ (j : Nat) (av : Option Addr) (cv : Nat), j ≤ n.length ∧ v = .slice av j cv ∧ x = .int .i64 (j : Int) ∧ wr.ownsRow W2.heap.size 9 1 (.slice av j cv) j (((n.take j).map Ct.txt).map Value.string) ∧ Fr (From W2.heap.size) W2 wr) (fun _ x _ => n.length - (intOf x).toNat)
      case atStart => exact ⟨0, none, 0, by omega, rfl, rfl, World.ownsRow_nil _ _ _ _, Fr.refl _ _⟩
      case round =>
        obtain ⟨j, av, cv, hj, rfl, rfl, hown, hfr⟩ := hrel
        by_cases hlt : j < n.length
        · have hlt' : (j : Int) < n.length := by omega
          obtain ⟨d, hd⟩ : ∃ d, n[j]? = some d := ⟨_, List.getElem?_eq_getElem hlt⟩
          have hdm := List.mem_of_getElem? hd
          have hdF := HFit.out.inner hdm
          have Htk : Hid (((n.take (j + 1)).map Ct.txt).map Value.string = ((n.take j).map Ct.txt).map Value.string ++ [.string d.txt]) := by unfold Hid; rw [List.take_add_one, hd]; simp
          obtain ⟨k1, i1, l1, s1, t1, e1, n1⟩ := d
          have hin3 : InAt wr (fun b => b < W2.heap.size) a cap n := by
            have h3 := Hin2.out.mono (Y := fun b => b < W2.heap.size) (fun b hb _ => hb)
            exact h3.fr hfr (fun b hb h => by unfold From at h; omega)
          obtain ⟨b, off, a', cap', rfl, hb, hX, ⟨y0, y1, y2, y3, y4, y5, y6⟩, hin1⟩ := hin3.at hd
          have hsr := hfr.size
          clear hd hin3 hdm zt0 zt1 zt2 zt3 zt4 zt5 zt6
          have hx : Fr No wr (wr.alloc (.cells #[.int .i64 k1, .string i1, .string l1, .int .i64 s1, .int .i64 t1, .int .i64 e1, .slice a' n1.length cap'] 54)) := (Fr.refl _ _).alloc _
          have hfm := c_format k1 s1 t1 e1 i1 l1 n1 a' cap' _ _ (hin1.fr hx (fun _ _ => id)) hdF
          obtain ⟨tx, htxe⟩ : ∃ tx, tx = (Ct.mk k1 i1 l1 s1 t1 e1 n1).txt := ⟨_, rfl⟩
          rw [← htxe] at hfm Htk
          clear htxe hdF
          go_wp2_with fail
          refine hfm.mono ?_
          rintro e w2 ⟨rfl, hf2⟩
          have hxf := hx.step hf2 (fun _ _ h => h)
          have Hfr := Lib.hid (hfr.step hxf (fun _ _ h => h.elim))
          have hown2 := ownsRow_fr hown hxf (fun _ _ h => h)
          have hs2 := hxf.size
          clear hx hf2 hfr y0 y1 y2 y3 y4 y5 y6 hin1 hown hxf hfm
          go_wp2_with (at_builtin; refine wpList_append_own _ rfl _ _ 27 rfl W2.heap.size 9 i0 (.string ByteArray.empty) 1 16 Tryz.underlying27 hi0 hz0 hz1 hz2 rfl (by decide) _ _ _ rfl (hown2.alloc _) ⟨w2.heap.size, 0, none⟩ 1 1 [.string tx] rfl rfl (cell_one_new _ _ _) (strs_one [tx]) (by unfold maxLen; omega) (by omega) (by first | omega | (simp; done) | (simp; omega)) ?_; intro v' wb hownb hgrow _; obtain ⟨avb, cvb, rfl⟩ := ownsRow_slice hownb)
          have hg6 : Fr (From W2.heap.size) w2 wb := grown_fr hown2 hgrow
          have Hg6 := Lib.hid (Hfr.out.step hg6 (fun _ _ h => h))
          have Hown := Lib.hid hownb
          clear hownb hgrow hg6 hown2
          go_roundw
          case rel => exact ⟨j + 1, avb, cvb, by omega, rfl, by go_num, by rw [Htk.out]; exact Hown.out, Hg6.out⟩
          case measure => simp [intOf]; omega
        · have hlt' : ¬ (j : Int) < n.length := by omega
          obtain rfl : j = n.length := by omega
          rw [List.take_length] at hown
          have q3 := hfr.heap q2 (fun h => by unfold From at h; omega)
          have qt3 := hfr.heap qt (fun h => by unfold From at h; omega)
          have Hf3 := Lib.hid (Hf2.out.trans (U := No) hfr (fun _ _ h => h) (fun b hb h => by have := Hf2.out.size; unfold From at h; omega))
          have hin3 : InAt wr (fun b => w.heap.size < b) a cap n := by
            have h3 := Hin2.out.mono (Y := fun b => w.heap.size < b ∧ b < W2.heap.size) (fun b hb h => ⟨by unfold From at h; omega, hb⟩)
            exact (h3.fr hfr (fun b hb h => by unfold From at h; omega)).mono (fun b _ h => h.1)
          have hlen : (n.map Ct.txt).length = n.length := List.length_map _
          have hst : ∃ a' cap', Value.slice av n.length cv = .slice a' (n.map Ct.txt).length cap' ∧ Strs wr a' cap' (n.map Ct.txt) ∧ ∀ ad, a' = some ad → W2.heap.size ≤ ad.block := Strs.of_own (by rw [hlen]; exact hown)
          obtain ⟨a2, cap2, ev, hst, hfresh⟩ := hst
          rw [hlen] at ev
          cases ev
          have Hst := Lib.hid hst
          have Hfresh := Lib.hid hfresh
          have Hin3 := Lib.hid hin3
          clear hfr q2 qt hown hst hin3 hfresh hlen zt0 zt1 zt2 zt3 zt4 zt5 zt6
          have zt0 : wr.cell? ⟨w1.heap.size, 0, none⟩ = some (.int .i64 k) := cell_of_block qt3 0
          have zt1 : wr.cell? ⟨w1.heap.size, 1, none⟩ = some (.string i) := cell_of_block qt3 1
          have zt2 : wr.cell? ⟨w1.heap.size, 2, none⟩ = some (.string l) := cell_of_block qt3 2
          have zt3 : wr.cell? ⟨w1.heap.size, 3, none⟩ = some (.int .i64 sl) := cell_of_block qt3 3
          have zt4 : wr.cell? ⟨w1.heap.size, 4, none⟩ = some (.int .i64 t) := cell_of_block qt3 4
          have zt5 : wr.cell? ⟨w1.heap.size, 5, none⟩ = some (.int .i64 le) := cell_of_block qt3 5
          have zt6 : wr.cell? ⟨w1.heap.size, 6, none⟩ = some (.slice a n.length cap) := cell_of_block qt3 6
          have b0 : wr.cell? ⟨w.heap.size, 0, none⟩ = some (.int .i64 0) := cell_of_block q3 0
          have b1 : wr.cell? ⟨w.heap.size, 1, none⟩ = some (.string ⟨#[]⟩) := cell_of_block q3 1
          have b2 : wr.cell? ⟨w.heap.size, 2, none⟩ = some (.string ⟨#[]⟩) := cell_of_block q3 2
          have b3 : wr.cell? ⟨w.heap.size, 3, none⟩ = some (.int .i64 0) := cell_of_block q3 3
          have b4 : wr.cell? ⟨w.heap.size, 4, none⟩ = some (.int .i64 0) := cell_of_block q3 4
          have b5 : wr.cell? ⟨w.heap.size, 5, none⟩ = some (.int .i64 0) := cell_of_block q3 5
          have b6 : wr.cell? ⟨w.heap.size, 6, none⟩ = some (.slice none 0 0) := cell_of_block q3 6
          have f0 : wr.frozen? ⟨w.heap.size, 0, none⟩ = false := free_of_block q3 0
          have f1 : wr.frozen? ⟨w.heap.size, 1, none⟩ = false := free_of_block q3 1
          have f2 : wr.frozen? ⟨w.heap.size, 2, none⟩ = false := free_of_block q3 2
          have f3 : wr.frozen? ⟨w.heap.size, 3, none⟩ = false := free_of_block q3 3
          have f4 : wr.frozen? ⟨w.heap.size, 4, none⟩ = false := free_of_block q3 4
          have f5 : wr.frozen? ⟨w.heap.size, 5, none⟩ = false := free_of_block q3 5
          have f6 : wr.frozen? ⟨w.heap.size, 6, none⟩ = false := free_of_block q3 6
          have h7 := set7 q3 rfl (.int .i64 k) (.string i) (.string l) (.int .i64 sl) (.int .i64 t) (.int .i64 le) (.slice a n.length cap)
          have Hfin := Lib.hid (Hf3.out.step h7.2 (fun b hb h => by unfold Is at h; omega))
          have Hst4 := Lib.hid (Hst.out.fr h7.2 (fun ad e hne h => by have := Hfresh.out ad e; unfold Is at h; omega))
          have Hin4 := Lib.hid ((Hin3.out.fr h7.2 (fun b hb h => by unfold Is at h; omega)).mono (Y := From w.heap.size) (fun b _ h => by unfold From; omega))
          have Hq := Lib.hid h7.1
          clear h7
          go_wp2_with fail
          have y0 := cell_of_block Hq.out 0
          have y1 := cell_of_block Hq.out 1
          have y2 := cell_of_block Hq.out 2
          have y3 := cell_of_block Hq.out 3
          have y4 := cell_of_block Hq.out 4
          have y5 := cell_of_block Hq.out 5
          have y6 := cell_of_block Hq.out 6
          refine bodyPost_ret (v := .tuple #[.agg #[.int .i64 k, .string i, .string l, .int .i64 sl, .int .i64 t, .int .i64 le, .slice a n.length cap], .slice av n.length cv, .bool true]) (by simp [results, Tryz.results45, go_sem, y0, y1, y2, y3, y4, y5, y6]) rfl ?_
          exact ⟨.inr ⟨k, sl, t, le, i, l, n, a, av, cap, cv, Hpc.out, rfl, rfl, Hin4.out, Hst4.out, fun ad e => by have := Hfresh.out ad e; omega⟩, Hfin.out⟩
    · have Hq2 := Lib.hid q2
      clear zt1 zt2 zt3 zt4 zt5 zt6 q2 qt ha
      have Hn : Hid (∀ c, parseC s = some c → c.kind ≠ kd) := fun c h => by rw [Hpc.out] at h; cases h; exact hk
      go_upto_region 3 with (fail)
      have q2 := Hq2.out
      clear zt0
      have b0 : W2.cell? ⟨w.heap.size, 0, none⟩ = some (.int .i64 0) := cell_of_block q2 0
      have b1 : W2.cell? ⟨w.heap.size, 1, none⟩ = some (.string ⟨#[]⟩) := cell_of_block q2 1
      have b2 : W2.cell? ⟨w.heap.size, 2, none⟩ = some (.string ⟨#[]⟩) := cell_of_block q2 2
      have b3 : W2.cell? ⟨w.heap.size, 3, none⟩ = some (.int .i64 0) := cell_of_block q2 3
      have b4 : W2.cell? ⟨w.heap.size, 4, none⟩ = some (.int .i64 0) := cell_of_block q2 4
      have b5 : W2.cell? ⟨w.heap.size, 5, none⟩ = some (.int .i64 0) := cell_of_block q2 5
      have b6 : W2.cell? ⟨w.heap.size, 6, none⟩ = some (.slice none 0 0) := cell_of_block q2 6
      have f0 : W2.frozen? ⟨w.heap.size, 0, none⟩ = false := free_of_block q2 0
      have f1 : W2.frozen? ⟨w.heap.size, 1, none⟩ = false := free_of_block q2 1
      have f2 : W2.frozen? ⟨w.heap.size, 2, none⟩ = false := free_of_block q2 2
      have f3 : W2.frozen? ⟨w.heap.size, 3, none⟩ = false := free_of_block q2 3
      have f4 : W2.frozen? ⟨w.heap.size, 4, none⟩ = false := free_of_block q2 4
      have f5 : W2.frozen? ⟨w.heap.size, 5, none⟩ = false := free_of_block q2 5
      have f6 : W2.frozen? ⟨w.heap.size, 6, none⟩ = false := free_of_block q2 6
      have h7 := set7 q2 rfl (.int .i64 0) (.string ⟨#[]⟩) (.string ⟨#[]⟩) (.int .i64 0) (.int .i64 0) (.int .i64 0) (.slice none 0 0)
      have Hfin := Lib.hid (Hf2.out.step h7.2 (fun b hb h => by unfold Is at h; omega))
      have Hq := Lib.hid h7.1
      clear h7
      go_wp2_with fail
      have y0 := cell_of_block Hq.out 0
      have y1 := cell_of_block Hq.out 1
      have y2 := cell_of_block Hq.out 2
      have y3 := cell_of_block Hq.out 3
      have y4 := cell_of_block Hq.out 4
      have y5 := cell_of_block Hq.out 5
      have y6 := cell_of_block Hq.out 6
      refine bodyPost_ret (v := .tuple #[.agg #[.int .i64 0, .string ⟨#[]⟩, .string ⟨#[]⟩, .int .i64 0, .int .i64 0, .int .i64 0, .slice none 0 0], .slice none 0 0, .bool false]) (by simp [results, Tryz.results45, go_sem, y0, y1, y2, y3, y4, y5, y6]) rfl ?_
      exact ⟨.inl ⟨Hn.out, rfl⟩, Hfin.out⟩
end Go.Proofs.YtmieegcgeolckaaGreatDoor
namespace Go.Proofs.YtmieegcgeolckaaGreatDoor
open Go.RowKit Go.Maps
set_option linter.unusedVariables false

/-- What Of answers. -/
def OfRes4 (w : World) (p s : ByteArray) (rd : Int) (e : Ending) (w' : World) : Prop :=
  ((∀ c, parseC s = some c → c.kind ≠ 4) ∧ e = .returned (.tuple #[.agg #[.string ⟨#[]⟩, .string ⟨#[]⟩, .int .i64 0, .int .i64 0, .int .i64 0, .int .i64 0, .slice none 0 0], .bool false])) ∨
  (∃ (c : Ct) (a' : Option Addr) (cap' : Nat), parseC s = some c ∧ c.kind = 4 ∧ e = .returned (.tuple #[.agg #[.string p, .string c.id, .int .i64 rd, .int .i64 c.slot, .int .i64 c.total, .int .i64 c.total, .slice a' c.inner.length cap'], .bool true]) ∧ Strs w' a' cap' (c.inner.map Ct.txt) ∧ ∀ ad, a' = some ad → w.heap.size ≤ ad.block)

set_option maxRecDepth 100000 in
set_option maxHeartbeats 3000000 in
theorem volume_of (p s : ByteArray) (rd : Int) (w : World) (ha : Ascii s) (hE : Env w) (hs : s.size ≤ 100000) :
    Calls Tryz.prog 60 #[.string p, .int .i64 rd, .string s] w fun en w2 => OfRes4 w p s rd en w2 ∧ Fr No w w2 := by
  have h0 : Fr No w (w.alloc (.cells #[.string ⟨#[]⟩, .string ⟨#[]⟩, .int .i64 0, .int .i64 0, .int .i64 0, .int .i64 0, .slice none 0 0] 31)) := (Fr.refl _ _).alloc _
  have q0 := block_alloc w (.cells #[.string ⟨#[]⟩, .string ⟨#[]⟩, .int .i64 0, .int .i64 0, .int .i64 0, .int .i64 0, .slice none 0 0] 31)
  have hsz : w.heap.size < (w.alloc (.cells #[.string ⟨#[]⟩, .string ⟨#[]⟩, .int .i64 0, .int .i64 0, .int .i64 0, .int .i64 0, .slice none 0 0] 31)).heap.size := by simp
  obtain ⟨W0, hW0⟩ : ∃ W0, W0 = w.alloc (.cells #[.string ⟨#[]⟩, .string ⟨#[]⟩, .int .i64 0, .int .i64 0, .int .i64 0, .int .i64 0, .slice none 0 0] 31) := ⟨_, rfl⟩
  rw [← hW0] at h0 q0 hsz
  have hrd := c_read s 4 W0 ha (hE.no h0) hs
  have H0 := Lib.hid h0
  clear h0 hE ha
  go_enter Tryz.func60, Tryz.ntmps60
  go_upto_region 1 with (fail)
  rw [← hW0]
  clear hW0
  go_wp2_with fail
  refine hrd.mono ?_
  rintro en w1 ⟨hres, hf1⟩
  have hs1 := hf1.size
  have q1 := hf1.heap q0 id
  have Hf1 := Lib.hid (H0.out.step hf1 (fun _ _ h => h))
  clear hrd q0 hf1
  rcases hres with ⟨hno, rfl⟩ | ⟨k, sl, t, le, i, l, n, a, a', cap, cap', hpc, hk, rfl, hin, hst, hfresh⟩
  · have Hn : Hid (∀ c, parseC s = some c → c.kind ≠ 4) := hno
    have hx : Fr No w1 (w1.alloc (.cells #[.int .i64 0, .string ⟨#[]⟩, .string ⟨#[]⟩, .int .i64 0, .int .i64 0, .int .i64 0, .slice none 0 0] 54)) := (Fr.refl _ _).alloc _
    have q2 := hx.heap q1 id
    have Hf2 := Lib.hid (Hf1.out.step hx (fun _ _ h => h))
    have Hq2 := Lib.hid q2
    clear q1 hx hno q2
    go_upto_region 3 with (fail)
    generalize w1.alloc (.cells #[.int .i64 0, .string ⟨#[]⟩, .string ⟨#[]⟩, .int .i64 0, .int .i64 0, .int .i64 0, .slice none 0 0] 54) = W2 at *
    have q2 := Hq2.out
    have b0 : W2.cell? ⟨w.heap.size, 0, none⟩ = some (.string ⟨#[]⟩) := cell_of_block q2 0
    have b1 : W2.cell? ⟨w.heap.size, 1, none⟩ = some (.string ⟨#[]⟩) := cell_of_block q2 1
    have b2 : W2.cell? ⟨w.heap.size, 2, none⟩ = some (.int .i64 0) := cell_of_block q2 2
    have b3 : W2.cell? ⟨w.heap.size, 3, none⟩ = some (.int .i64 0) := cell_of_block q2 3
    have b4 : W2.cell? ⟨w.heap.size, 4, none⟩ = some (.int .i64 0) := cell_of_block q2 4
    have b5 : W2.cell? ⟨w.heap.size, 5, none⟩ = some (.int .i64 0) := cell_of_block q2 5
    have b6 : W2.cell? ⟨w.heap.size, 6, none⟩ = some (.slice none 0 0) := cell_of_block q2 6
    have f0 : W2.frozen? ⟨w.heap.size, 0, none⟩ = false := free_of_block q2 0
    have f1 : W2.frozen? ⟨w.heap.size, 1, none⟩ = false := free_of_block q2 1
    have f2 : W2.frozen? ⟨w.heap.size, 2, none⟩ = false := free_of_block q2 2
    have f3 : W2.frozen? ⟨w.heap.size, 3, none⟩ = false := free_of_block q2 3
    have f4 : W2.frozen? ⟨w.heap.size, 4, none⟩ = false := free_of_block q2 4
    have f5 : W2.frozen? ⟨w.heap.size, 5, none⟩ = false := free_of_block q2 5
    have f6 : W2.frozen? ⟨w.heap.size, 6, none⟩ = false := free_of_block q2 6
    have h7 := set7 q2 rfl (.string ⟨#[]⟩) (.string ⟨#[]⟩) (.int .i64 0) (.int .i64 0) (.int .i64 0) (.int .i64 0) (.slice none 0 0)
    have Hfin := Lib.hid (Hf2.out.step h7.2 (fun b hb h => by unfold Is at h; omega))
    have Hq := Lib.hid h7.1
    clear h7 q2
    go_wp2_with fail
    have y0 := cell_of_block Hq.out 0
    have y1 := cell_of_block Hq.out 1
    have y2 := cell_of_block Hq.out 2
    have y3 := cell_of_block Hq.out 3
    have y4 := cell_of_block Hq.out 4
    have y5 := cell_of_block Hq.out 5
    have y6 := cell_of_block Hq.out 6
    refine bodyPost_ret (v := .tuple #[.agg #[.string ⟨#[]⟩, .string ⟨#[]⟩, .int .i64 0, .int .i64 0, .int .i64 0, .int .i64 0, .slice none 0 0], .bool false]) (by simp [results, Tryz.results60, go_sem, y0, y1, y2, y3, y4, y5, y6]) rfl ?_
    exact ⟨.inl ⟨Hn.out, rfl⟩, Hfin.out⟩
  · subst hk
    have Hpc : Hid (parseC s = some (.mk 4 i l sl t le n)) := hpc
    have Hfresh := Lib.hid hfresh
    have hx : Fr No w1 (w1.alloc (.cells #[.int .i64 4, .string i, .string l, .int .i64 sl, .int .i64 t, .int .i64 le, .slice a n.length cap] 54)) := (Fr.refl _ _).alloc _
    have Hq2 := Lib.hid (hx.heap q1 id)
    have qt := block_alloc w1 (.cells #[.int .i64 4, .string i, .string l, .int .i64 sl, .int .i64 t, .int .i64 le, .slice a n.length cap] 54)
    have Hf2 := Lib.hid (Hf1.out.step hx (fun _ _ h => h))
    have Hst := Lib.hid (hst.no hx (fun _ => id))
    clear q1 hx hst hpc hfresh hin
    go_upto_region 4 with (fail)
    generalize w1.alloc (.cells #[.int .i64 4, .string i, .string l, .int .i64 sl, .int .i64 t, .int .i64 le, .slice a n.length cap] 54) = W2 at *
    have zt1 : W2.cell? ⟨w1.heap.size, 1, none⟩ = some (.string i) := cell_of_block qt 1
    have zt3 : W2.cell? ⟨w1.heap.size, 3, none⟩ = some (.int .i64 sl) := cell_of_block qt 3
    have zt4 : W2.cell? ⟨w1.heap.size, 4, none⟩ = some (.int .i64 t) := cell_of_block qt 4
    have q2 := Hq2.out
    clear qt
    have b0 : W2.cell? ⟨w.heap.size, 0, none⟩ = some (.string ⟨#[]⟩) := cell_of_block q2 0
    have b1 : W2.cell? ⟨w.heap.size, 1, none⟩ = some (.string ⟨#[]⟩) := cell_of_block q2 1
    have b2 : W2.cell? ⟨w.heap.size, 2, none⟩ = some (.int .i64 0) := cell_of_block q2 2
    have b3 : W2.cell? ⟨w.heap.size, 3, none⟩ = some (.int .i64 0) := cell_of_block q2 3
    have b4 : W2.cell? ⟨w.heap.size, 4, none⟩ = some (.int .i64 0) := cell_of_block q2 4
    have b5 : W2.cell? ⟨w.heap.size, 5, none⟩ = some (.int .i64 0) := cell_of_block q2 5
    have b6 : W2.cell? ⟨w.heap.size, 6, none⟩ = some (.slice none 0 0) := cell_of_block q2 6
    have f0 : W2.frozen? ⟨w.heap.size, 0, none⟩ = false := free_of_block q2 0
    have f1 : W2.frozen? ⟨w.heap.size, 1, none⟩ = false := free_of_block q2 1
    have f2 : W2.frozen? ⟨w.heap.size, 2, none⟩ = false := free_of_block q2 2
    have f3 : W2.frozen? ⟨w.heap.size, 3, none⟩ = false := free_of_block q2 3
    have f4 : W2.frozen? ⟨w.heap.size, 4, none⟩ = false := free_of_block q2 4
    have f5 : W2.frozen? ⟨w.heap.size, 5, none⟩ = false := free_of_block q2 5
    have f6 : W2.frozen? ⟨w.heap.size, 6, none⟩ = false := free_of_block q2 6
    have h7 := set7 q2 rfl (.string p) (.string i) (.int .i64 rd) (.int .i64 sl) (.int .i64 t) (.int .i64 t) (.slice a' n.length cap')
    have Hfin := Lib.hid (Hf2.out.step h7.2 (fun b hb h => by unfold Is at h; omega))
    have Hst4 := Lib.hid (Hst.out.fr h7.2 (fun ad e hne h => by have := Hfresh.out ad e; unfold Is at h; omega))
    have Hq := Lib.hid h7.1
    clear h7 q2
    go_wp2_with fail
    have y0 := cell_of_block Hq.out 0
    have y1 := cell_of_block Hq.out 1
    have y2 := cell_of_block Hq.out 2
    have y3 := cell_of_block Hq.out 3
    have y4 := cell_of_block Hq.out 4
    have y5 := cell_of_block Hq.out 5
    have y6 := cell_of_block Hq.out 6
    refine bodyPost_ret (v := .tuple #[.agg #[.string p, .string i, .int .i64 rd, .int .i64 sl, .int .i64 t, .int .i64 t, .slice a' n.length cap'], .bool true]) (by simp [results, Tryz.results60, go_sem, y0, y1, y2, y3, y4, y5, y6]) rfl ?_
    exact ⟨.inr ⟨.mk 4 i l sl t le n, a', cap', Hpc.out, rfl, rfl, Hst4.out, fun ad e => by have := Hfresh.out ad e; omega⟩, Hfin.out⟩
end Go.Proofs.YtmieegcgeolckaaGreatDoor
namespace Go.Proofs.YtmieegcgeolckaaGreatDoor
open Go.RowKit Go.Maps
set_option linter.unusedVariables false
attribute [local go_sem] Oper.semAt_some

theorem lacksF_wf {ps : List ByteArray} (h : ps.length ≤ 1000000) : ∀ x ∈ lacksF ps ps.length, (Lit.int .i64 x).wf = true := by
  intro x hx
  unfold lacksF at hx
  obtain ⟨k, hk, rfl⟩ := List.mem_map.1 hx
  have := List.mem_range.1 (List.mem_filter.1 hk).1
  exact WalkArith.wf_i64 (by omega)
structure LackI (w0 : World) (N t3 : Nat) (pre : List Int) (V : Nat → Prop) (W : World) : Prop where
  row : ∃ av cv, W.heap[t3]? = some (.cells #[.slice av pre.length cv] 22) ∧ W.ownsRow N 3 1 (.slice av pre.length cv) pre.length (pre.map (Value.int .i64)) ∧ ∀ b, V b ↔ b = t3 ∨ (Value.slice av pre.length cv).ownBlock = some b
  fr : Fr (From w0.heap.size) w0 W
theorem LackI.lt {w0 : World} {N t3 : Nat} {pre : List Int} {V : Nat → Prop} {W : World} (h : LackI w0 N t3 pre V W) : ∀ b, V b → b < W.heap.size := by
  obtain ⟨av, cv, h1, h2, h4⟩ := h.row
  intro b hb
  rcases (h4 b).1 hb with rfl | hb
  · exact lt_of_block h1
  · exact ownsRow_lt h2 hb
theorem LackI.keep {w0 : World} {N t3 : Nat} {pre : List Int} {V S : Nat → Prop} {A B : World} (h : LackI w0 N t3 pre V A) (hf : Fr S A B) (hS : ∀ b, S b → ¬ V b ∧ w0.heap.size ≤ b) : LackI w0 N t3 pre V B := by
  obtain ⟨av, cv, h1, h2, h4⟩ := h.row
  exact ⟨⟨av, cv, hf.heap h1 (fun h => (hS _ h).1 ((h4 _).2 (.inl rfl))), ownsRow_at h2 hf (fun b hb h => (hS _ h).1 ((h4 _).2 (.inr hb))), h4⟩, h.fr.step hf (fun b hb h => (hS _ h).2)⟩

set_option maxRecDepth 100000 in
set_option maxHeartbeats 4000000 in
theorem v_lacks (s : ByteArray) (t e n : Int) (iv : Value) (a : Option Addr) (cap : Nat) (ps : List ByteArray) (w : World) (hS : Strs w a cap ps) (hps : ps.length ≤ 1000000) :
    Calls Tryz.prog 43 #[.agg #[.string s, .slice a ps.length cap, .int .i64 t, .int .i64 e, .int .i64 n, iv]] w fun en w' => (∃ a' c', en = .returned (.slice a' (lacksF ps ps.length).length c') ∧ Ints w' a' c' (lacksF ps ps.length)) ∧ Fr No w w' := by
  refine (callsIn_wide (n := 12)).1 (callsIn_of_wp_marks Tryz.func43 rfl trivial (wpIn_wide.2 ?_))
  simp only [Tryz.ntmps43, List.size_toArray, List.length_cons, List.length_nil, Nat.reduceAdd, Nat.reduceSub, Array.replicate_succ, Array.replicate_zero, List.push_toArray, List.append_toArray, List.nil_append, List.cons_append]
  obtain ⟨i0, hi0, hz0, hz1, hz2⟩ := info_parts infoI2
  have hW : Fr No w ((w.alloc (.cells #[.string s, .slice a ps.length cap, .int .i64 t, .int .i64 e, .int .i64 n, iv] 70)).alloc (.cells #[.slice none 0 0] 22)) := ((Fr.refl _ _).alloc _).alloc _
  have b1 := block_alloc1 w (.cells #[.string s, .slice a ps.length cap, .int .i64 t, .int .i64 e, .int .i64 n, iv] 70) (.cells #[.slice none 0 0] 22)
  have b2 := block_alloc2 w (.cells #[.string s, .slice a ps.length cap, .int .i64 t, .int .i64 e, .int .i64 n, iv] 70) (.cells #[.slice none 0 0] 22)
  have hs0 : ((w.alloc (.cells #[.string s, .slice a ps.length cap, .int .i64 t, .int .i64 e, .int .i64 n, iv] 70)).alloc (.cells #[.slice none 0 0] 22)).heap.size = w.heap.size + 2 := by simp
  have hS0 := hS.no hW (fun _ => id)
  go_upto_region 2 with (fail)
  generalize (w.alloc (.cells #[.string s, .slice a ps.length cap, .int .i64 t, .int .i64 e, .int .i64 n, iv] 70)).alloc (.cells #[.slice none 0 0] 22) = W0 at *
  have x1 : W0.cell? ⟨w.heap.size, 1, none⟩ = some (.slice a ps.length cap) := cell_of_block b1 1
  have Hs0 := Lib.hid hs0
  clear hs0
  go_wp2_with fail
  refine (v_empty _ _ _ _).mono ?_
  rintro en w1 ⟨rfl, rfl⟩
  have hx : Fr No W0 (W0.alloc (.cells #[.slice a ps.length cap] 27)) := (Fr.refl _ _).alloc _
  have d2 := hx.heap b2 id
  have db := block_alloc W0 (.cells #[.slice a ps.length cap] 27)
  have hS2 := hS0.no hx (fun _ => id)
  have hfw := hW.step hx (fun _ _ h => h)
  have hs2 : (W0.alloc (.cells #[.slice a ps.length cap] 27)).heap.size = w.heap.size + 3 := by have := Hs0.out; simp; omega
  have hal : ∀ ad, a = some ad → ps ≠ [] → ad.block < w.heap.size := fun ad e hne => (hS.cell ad e hne).2.1
  have hbs : W0.heap.size = w.heap.size + 2 := Hs0.out
  clear x1 b1 b2 hS0 hx hW
  go_wp2_with fail
  generalize W0.alloc (.cells #[.slice a ps.length cap] 27) = W2 at *
  rw [hbs] at db
  clear hbs Hs0
  refine (wpIn_wide (n := 12)).1 (wpIn_range_fr (α := Int) (T := fun _ => False) (V0 := Is (w.heap.size + 1)) rfl (by omega) (gf := 96) (lb := #[.pointer (some ⟨w.heap.size + 2, 0, none⟩)]) rfl trivial (enters_of Tryz.func96 (by kernel_rfl) rfl) (encs := fun i : Int => #[.int .i64 i]) (fun _ => rfl) (fun b h => h.elim) (fun b h => by unfold Is at h; omega)
    (empty_gives 11 (by omega) (w.heap.size + 2) a cap ps W2 (Is (w.heap.size + 1)) db hS2 hps (fun ad e hne h => by have := hal ad e hne; unfold Is at h; omega))
    (LackI w (W2.heap.size + 2) (w.heap.size + 1)) (fun _ _ _ h => h.lt) (fun s V A B S h hf hS => h.keep hf (fun b hb => ⟨(hS b hb).1, (hS b hb).2.elim (fun h => h.elim) (fun h => by omega)⟩))
    ⟨⟨none, 0, d2, World.ownsRow_nil _ _ _ _, fun b => by simp [Is, Value.ownBlock]⟩, hfw.mono (fun _ _ h => h.elim)⟩
    (fun x V a' W => a' = { tmps := #[.agg #[.string s, .slice a ps.length cap, .int .i64 t, .int .i64 e, .int .i64 n, iv], .pointer (some ⟨w.heap.size, 0, none⟩), .slice none 0 0, .pointer (some ⟨w.heap.size + 1, 0, none⟩), .int .i64 x, .pointer (some ⟨w.heap.size, 1, none⟩), .slice a ps.length cap, .func (.func 96) #[] #[.pointer (some ⟨w.heap.size + 2, 0, none⟩)], .int .i64 x, undef, undef, undef, undef, undef], defers := [] })
    (fun x V a' A B h hf => h)
    ?assign ?body ?done)
  case assign =>
    intro l pre V x W K hi hsz2 hK
    have hK' := fun a' W' (h1 : Fr No W W') h2 => hK a' W' h1 h2
    gi_wp2
    exact hK _ _ (Fr.refl _ _) rfl
  case done =>
    rintro V W hi hK hnV
    obtain ⟨av, cv, h1, h2, h4⟩ := hi.row
    have c5 : W.cell? ⟨w.heap.size + 1, 0, none⟩ = some (.slice av (lacksF ps ps.length).length cv) := cell_of_block h1 0
    have hput : Fr (Is W2.heap.size) W (W.putObj W2.heap.size (.deferred none)) := Fr.putObj _ _ _ rfl
    have h2' := ownsRow_at h2 hput (fun b hb e => by unfold Is at e; subst e; exact hnV ((h4 _).2 (.inr hb)))
    obtain ⟨a', c', hv, hD, hfresh⟩ := Ints.of_own h2' (fun x hx => lacksF_wf hps x hx)
    have hfin : Fr No w (W.putObj W2.heap.size (.deferred none)) := (hi.fr.step hput (fun b hb e => by unfold Is at e; have := hfw.size; omega)).mono (fun b hb h => by unfold From at h; omega)
    cases hv
    have H := Lib.hid (And.intro hD hfin)
    clear hD hfresh hfin h2 h2' hput h4 hfw
    go_wp2
    refine ⟨by simp, .inl ⟨_, _, rfl, run_takeDeferred hK, ?_⟩⟩
    exact ⟨_, results_tmp rfl _ _ _, ⟨_, _, rfl, H.out.1⟩, H.out.2⟩
  case body =>
    rintro l pre V x a' W hi rfl hpre hsz2
    obtain ⟨av, cv, h1, h2, h4⟩ := hi.row
    have x3 : W.cell? ⟨w.heap.size + 1, 0, none⟩ = some (.slice av pre.length cv) := cell_of_block h1 0
    have hql : pre.length ≤ 1000000 := by have := hpre.length_le; have := lacksF_len ps ps.length; simp at *; omega
    have hVl := hi.lt
    have H4 : Hid (∀ b, V b ↔ b = w.heap.size + 1 ∨ (Value.slice av pre.length cv).ownBlock = some b) := h4
    have Hi := Lib.hid hi
    have H2 := Lib.hid h2
    have H1 := Lib.hid h1
    have Hsz2 := Lib.hid hsz2
    have Hs2 := Lib.hid hs2
    have hbase : W2.heap.size + 2 ≤ W.heap.size + 1 := by omega
    clear h4 hi hpre hsz2 hs2 h1
    gi_wp2_with (gi_at_builtin; refine wpListIn_append_own _ rfl _ _ 22 rfl (W2.heap.size + 2) 3 i0 (.int .i64 0) 1 8 Tryz.underlying22 hi0 hz0 hz1 hz2 rfl (by decide) _ _ _ rfl (h2.alloc _) ⟨W.heap.size, 0, none⟩ 1 1 [.int .i64 x] rfl rfl (cell_one_new _ _ _) (ints_oneCell _ [x]) (by unfold maxLen; omega) (by omega) (by simp; omega) ?_; intro v' w4 hown4 hgrow4 _; obtain ⟨av', cv', rfl⟩ := ownsRow_slice hown4; have hal4 := (Fr.refl No W).alloc (.cells #[.int .i64 x] 3); have k10 := (Fr.of_grown hgrow4).heap (hal4.heap H1.out id) (fun e => by have := ownsRow_blk (H2.out.alloc (.cells #[.int .i64 x] 3)) e; unfold From at this; have := Hs2.out; omega); have x5 : w4.cell? ⟨w.heap.size + 1, 0, none⟩ = some (.slice av pre.length cv) := cell_of_block k10 0; have y5 : w4.frozen? ⟨w.heap.size + 1, 0, none⟩ = false := free_of_block k10 0)
    have hg4 : Fr V W w4 := (hal4.mono (fun _ _ h => h.elim)).step (Fr.of_grown hgrow4) (fun b _ e => (H4.out b).2 (.inr e))
    have hs : Fr (Is (w.heap.size + 1)) w4 (w4.setCell ⟨w.heap.size + 1, 0, none⟩ (.slice av' (pre.length + 1) cv')) := Fr.setCell (S := Is (w.heap.size + 1)) (p := ⟨w.heap.size + 1, 0, none⟩) (Fr.refl _ _) (fun _ => rfl) _
    have hV5 : V (w.heap.size + 1) := (H4.out _).2 (.inl rfl)
    have hfs := hg4.step hs (fun b _ e => by unfold Is at e; subst e; exact hV5)
    have hVw : ∀ b, V b → w.heap.size ≤ b := fun b hb => ((H4.out b).1 hb).elim (fun e => by omega) (fun e => by have := ownsRow_blk H2.out e; unfold From at this; have := Hs2.out; omega)
    refine ⟨fun b => b = w.heap.size + 1 ∨ (Value.slice av' (pre.length + 1) cv').ownBlock = some b, fun b hb => hb.elim (fun e => .inl (e ▸ hV5)) (fun e => .inr (ownsRow_blk hown4 e)), ⟨⟨av', cv', ?_, ?_, ?_⟩, Hi.out.fr.step hfs (fun b _ hb => hVw b hb)⟩, hfs⟩
    · have := block_setCell k10 0 (.slice av' (pre.length + 1) cv')
      simpa using this
    · have := ownsRow_at hown4 hs (fun b hb e => by have := ownsRow_blk hown4 hb; unfold Is at e; unfold From at this; have := Hs2.out; omega)
      simpa using this
    · intro b; rw [List.length_append]; rfl
end Go.Proofs.YtmieegcgeolckaaGreatDoor
