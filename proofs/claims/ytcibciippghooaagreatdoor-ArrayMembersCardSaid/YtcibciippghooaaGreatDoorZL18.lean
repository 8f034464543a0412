/- array.Of. coldplugref32.Texts; coldplugref33.Of, coldplugref34.Of, coldplugref32.Of. -/
import Derived.Test.YtcibciippghooaaGreatDoorZL16
import Derived.Test.YtcibciippghooaaGreatDoorZL17
namespace Go.Proofs.YtcibciippghooaaGreatDoor
open Go.RowKit Go.Maps
set_option linter.unusedVariables false

/-- What Of answers. -/
def OfRes2 (w : World) (p s : ByteArray) (rd : Int) (e : Ending) (w' : World) : Prop :=
  ((∀ c, parseC s = some c → c.kind ≠ 2) ∧ e = .returned (.tuple #[.agg #[.string ⟨#[]⟩, .string ⟨#[]⟩, .int .i64 0, .int .i64 0, .int .i64 0, .int .i64 0, .slice none 0 0], .bool false])) ∨
  (∃ (c : Ct) (a' : Option Addr) (cap' : Nat), parseC s = some c ∧ c.kind = 2 ∧ e = .returned (.tuple #[.agg #[.string p, .string c.id, .int .i64 rd, .int .i64 c.slot, .int .i64 c.total, .int .i64 c.least, .slice a' c.inner.length cap'], .bool true]) ∧ Strs w' a' cap' (c.inner.map Ct.txt) ∧ ∀ ad, a' = some ad → w.heap.size ≤ ad.block)

set_option maxRecDepth 100000 in
set_option maxHeartbeats 3000000 in
theorem array_of (p s : ByteArray) (rd : Int) (w : World) (hE : Env w) (hs : s.size ≤ 100000) :
    Calls Tryz.prog 17 #[.string p, .int .i64 rd, .string s] w fun en w2 => OfRes2 w p s rd en w2 ∧ Fr No w w2 := by
  have h0 : Fr No w (w.alloc (.cells #[.string ⟨#[]⟩, .string ⟨#[]⟩, .int .i64 0, .int .i64 0, .int .i64 0, .int .i64 0, .slice none 0 0] 31)) := (Fr.refl _ _).alloc _
  have q0 := block_alloc w (.cells #[.string ⟨#[]⟩, .string ⟨#[]⟩, .int .i64 0, .int .i64 0, .int .i64 0, .int .i64 0, .slice none 0 0] 31)
  have hsz : w.heap.size < (w.alloc (.cells #[.string ⟨#[]⟩, .string ⟨#[]⟩, .int .i64 0, .int .i64 0, .int .i64 0, .int .i64 0, .slice none 0 0] 31)).heap.size := by simp
  obtain ⟨W0, hW0⟩ : ∃ W0, W0 = w.alloc (.cells #[.string ⟨#[]⟩, .string ⟨#[]⟩, .int .i64 0, .int .i64 0, .int .i64 0, .int .i64 0, .slice none 0 0] 31) := ⟨_, rfl⟩
  rw [← hW0] at h0 q0 hsz
  have hrd := c_read s 2 W0 (hE.no h0) hs
  have H0 := Lib.hid h0
  clear h0 hE
  go_enter Tryz.func17, Tryz.ntmps17
  go_upto_region 1 with (fail)
  rw [← hW0]
  clear hW0
  go_wp2_with fail
  refine hrd.mono ?_
  rintro en w1 ⟨hres, hf1⟩
  have hs1 := hf1.size
  have q1 := hf1.heap q0 id
  have Hf1 := Lib.hid (H0.out.step hf1 (fun _ _ h => h))
  clear hrd q0 hf1
  rcases hres with ⟨hno, rfl⟩ | ⟨k, sl, t, le, i, l, n, a, a', cap, cap', hpc, hk, rfl, hin, hst, hfresh⟩
  · have Hn : Hid (∀ c, parseC s = some c → c.kind ≠ 2) := hno
    have hx : Fr No w1 (w1.alloc (.cells #[.int .i64 0, .string ⟨#[]⟩, .string ⟨#[]⟩, .int .i64 0, .int .i64 0, .int .i64 0, .slice none 0 0] 48)) := (Fr.refl _ _).alloc _
    have q2 := hx.heap q1 id
    have Hf2 := Lib.hid (Hf1.out.step hx (fun _ _ h => h))
    have Hq2 := Lib.hid q2
    clear q1 hx hno q2
    go_upto_region 3 with (fail)
    generalize w1.alloc (.cells #[.int .i64 0, .string ⟨#[]⟩, .string ⟨#[]⟩, .int .i64 0, .int .i64 0, .int .i64 0, .slice none 0 0] 48) = W2 at *
    have q2 := Hq2.out
    have b0 : W2.cell? ⟨w.heap.size, 0, none⟩ = some (.string ⟨#[]⟩) := cell_of_block q2 0
    have b1 : W2.cell? ⟨w.heap.size, 1, none⟩ = some (.string ⟨#[]⟩) := cell_of_block q2 1
    have b2 : W2.cell? ⟨w.heap.size, 2, none⟩ = some (.int .i64 0) := cell_of_block q2 2
    have b3 : W2.cell? ⟨w.heap.size, 3, none⟩ = some (.int .i64 0) := cell_of_block q2 3
    have b4 : W2.cell? ⟨w.heap.size, 4, none⟩ = some (.int .i64 0) := cell_of_block q2 4
    have b5 : W2.cell? ⟨w.heap.size, 5, none⟩ = some (.int .i64 0) := cell_of_block q2 5
    have b6 : W2.cell? ⟨w.heap.size, 6, none⟩ = some (.slice none 0 0) := cell_of_block q2 6
    have f0 : W2.frozen? ⟨w.heap.size, 0, none⟩ = false := free_of_block q2 0
    have f1 : W2.frozen? ⟨w.heap.size, 1, none⟩ = false := free_of_block q2 1
    have f2 : W2.frozen? ⟨w.heap.size, 2, none⟩ = false := free_of_block q2 2
    have f3 : W2.frozen? ⟨w.heap.size, 3, none⟩ = false := free_of_block q2 3
    have f4 : W2.frozen? ⟨w.heap.size, 4, none⟩ = false := free_of_block q2 4
    have f5 : W2.frozen? ⟨w.heap.size, 5, none⟩ = false := free_of_block q2 5
    have f6 : W2.frozen? ⟨w.heap.size, 6, none⟩ = false := free_of_block q2 6
    have h7 := set7 q2 rfl (.string ⟨#[]⟩) (.string ⟨#[]⟩) (.int .i64 0) (.int .i64 0) (.int .i64 0) (.int .i64 0) (.slice none 0 0)
    have Hfin := Lib.hid (Hf2.out.step h7.2 (fun b hb h => by unfold Is at h; omega))
    have Hq := Lib.hid h7.1
    clear h7 q2
    go_wp2_with fail
    have y0 := cell_of_block Hq.out 0
    have y1 := cell_of_block Hq.out 1
    have y2 := cell_of_block Hq.out 2
    have y3 := cell_of_block Hq.out 3
    have y4 := cell_of_block Hq.out 4
    have y5 := cell_of_block Hq.out 5
    have y6 := cell_of_block Hq.out 6
    refine bodyPost_ret (v := .tuple #[.agg #[.string ⟨#[]⟩, .string ⟨#[]⟩, .int .i64 0, .int .i64 0, .int .i64 0, .int .i64 0, .slice none 0 0], .bool false]) (by simp [results, Tryz.results17, go_sem, y0, y1, y2, y3, y4, y5, y6]) rfl ?_
    exact ⟨.inl ⟨Hn.out, rfl⟩, Hfin.out⟩
  · subst hk
    have Hpc : Hid (parseC s = some (.mk 2 i l sl t le n)) := hpc
    have Hfresh := Lib.hid hfresh
    have hx : Fr No w1 (w1.alloc (.cells #[.int .i64 2, .string i, .string l, .int .i64 sl, .int .i64 t, .int .i64 le, .slice a n.length cap] 48)) := (Fr.refl _ _).alloc _
    have Hq2 := Lib.hid (hx.heap q1 id)
    have qt := block_alloc w1 (.cells #[.int .i64 2, .string i, .string l, .int .i64 sl, .int .i64 t, .int .i64 le, .slice a n.length cap] 48)
    have Hf2 := Lib.hid (Hf1.out.step hx (fun _ _ h => h))
    have Hst := Lib.hid (hst.no hx (fun _ => id))
    clear q1 hx hst hpc hfresh hin
    go_upto_region 4 with (fail)
    generalize w1.alloc (.cells #[.int .i64 2, .string i, .string l, .int .i64 sl, .int .i64 t, .int .i64 le, .slice a n.length cap] 48) = W2 at *
    have zt1 : W2.cell? ⟨w1.heap.size, 1, none⟩ = some (.string i) := cell_of_block qt 1
    have zt3 : W2.cell? ⟨w1.heap.size, 3, none⟩ = some (.int .i64 sl) := cell_of_block qt 3
    have zt4 : W2.cell? ⟨w1.heap.size, 4, none⟩ = some (.int .i64 t) := cell_of_block qt 4
    have zt5 : W2.cell? ⟨w1.heap.size, 5, none⟩ = some (.int .i64 le) := cell_of_block qt 5
    have q2 := Hq2.out
    clear qt
    have b0 : W2.cell? ⟨w.heap.size, 0, none⟩ = some (.string ⟨#[]⟩) := cell_of_block q2 0
    have b1 : W2.cell? ⟨w.heap.size, 1, none⟩ = some (.string ⟨#[]⟩) := cell_of_block q2 1
    have b2 : W2.cell? ⟨w.heap.size, 2, none⟩ = some (.int .i64 0) := cell_of_block q2 2
    have b3 : W2.cell? ⟨w.heap.size, 3, none⟩ = some (.int .i64 0) := cell_of_block q2 3
    have b4 : W2.cell? ⟨w.heap.size, 4, none⟩ = some (.int .i64 0) := cell_of_block q2 4
    have b5 : W2.cell? ⟨w.heap.size, 5, none⟩ = some (.int .i64 0) := cell_of_block q2 5
    have b6 : W2.cell? ⟨w.heap.size, 6, none⟩ = some (.slice none 0 0) := cell_of_block q2 6
    have f0 : W2.frozen? ⟨w.heap.size, 0, none⟩ = false := free_of_block q2 0
    have f1 : W2.frozen? ⟨w.heap.size, 1, none⟩ = false := free_of_block q2 1
    have f2 : W2.frozen? ⟨w.heap.size, 2, none⟩ = false := free_of_block q2 2
    have f3 : W2.frozen? ⟨w.heap.size, 3, none⟩ = false := free_of_block q2 3
    have f4 : W2.frozen? ⟨w.heap.size, 4, none⟩ = false := free_of_block q2 4
    have f5 : W2.frozen? ⟨w.heap.size, 5, none⟩ = false := free_of_block q2 5
    have f6 : W2.frozen? ⟨w.heap.size, 6, none⟩ = false := free_of_block q2 6
    have h7 := set7 q2 rfl (.string p) (.string i) (.int .i64 rd) (.int .i64 sl) (.int .i64 t) (.int .i64 le) (.slice a' n.length cap')
    have Hfin := Lib.hid (Hf2.out.step h7.2 (fun b hb h => by unfold Is at h; omega))
    have Hst4 := Lib.hid (Hst.out.fr h7.2 (fun ad e hne h => by have := Hfresh.out ad e; unfold Is at h; omega))
    have Hq := Lib.hid h7.1
    clear h7 q2
    go_wp2_with fail
    have y0 := cell_of_block Hq.out 0
    have y1 := cell_of_block Hq.out 1
    have y2 := cell_of_block Hq.out 2
    have y3 := cell_of_block Hq.out 3
    have y4 := cell_of_block Hq.out 4
    have y5 := cell_of_block Hq.out 5
    have y6 := cell_of_block Hq.out 6
    refine bodyPost_ret (v := .tuple #[.agg #[.string p, .string i, .int .i64 rd, .int .i64 sl, .int .i64 t, .int .i64 le, .slice a' n.length cap'], .bool true]) (by simp [results, Tryz.results17, go_sem, y0, y1, y2, y3, y4, y5, y6]) rfl ?_
    exact ⟨.inr ⟨.mk 2 i l sl t le n, a', cap', Hpc.out, rfl, rfl, Hst4.out, fun ad e => by have := Hfresh.out ad e; omega⟩, Hfin.out⟩
end Go.Proofs.YtcibciippghooaaGreatDoor
namespace Go.Proofs.YtcibciippghooaaGreatDoor
open Go.RowKit Go.Maps
set_option linter.unusedVariables false

set_option maxRecDepth 100000 in
set_option maxHeartbeats 2000000 in
theorem r_texts (n : List Ct) (a : Option Addr) (cap : Nat) (w : World) (X : Nat → Prop) (hin : InAt w X a cap n) (hfit : ∀ d ∈ n, Fit d) (hn : n.length ≤ 10000) :
    Calls Tryz.prog 26 #[.slice a n.length cap] w fun en w2 => ∃ av cv, en = .returned (.slice av n.length cv) ∧ Strs w2 av cv (n.map Ct.txt) ∧ (∀ ad, av = some ad → w.heap.size ≤ ad.block) ∧ Fr No w w2 := by
  obtain ⟨i0, hi0, hz0, hz1, hz2⟩ := info_parts infoS
  have Hfit := Lib.hid hfit
  clear hfit
  go_enter Tryz.func26, Tryz.ntmps26
  go_wp2_with fail
  go_loopw [3, 4] (fun v x wr => ∃ (j : Nat) (av : Option Addr) (cv : Nat), j ≤ n.length ∧ v = .slice av j cv ∧ x = .int .i64 (j : Int) ∧ wr.ownsRow w.heap.size 9 1 (.slice av j cv) j (((n.take j).map Ct.txt).map Value.string) ∧ Fr (From w.heap.size) w wr) (fun _ x _ => n.length - (intOf x).toNat)
  case atStart => exact ⟨0, none, 0, by omega, rfl, rfl, World.ownsRow_nil _ _ _ _, Fr.refl _ _⟩
  case round =>
    obtain ⟨j, av, cv, hj, rfl, rfl, hown, hfr⟩ := hrel
    by_cases hlt : j < n.length
    · have hlt' : (j : Int) < n.length := by omega
      obtain ⟨d, hd⟩ : ∃ d, n[j]? = some d := ⟨_, List.getElem?_eq_getElem hlt⟩
      have hdF := Hfit.out d (List.mem_of_getElem? hd)
      have Htk : Hid (((n.take (j + 1)).map Ct.txt).map Value.string = ((n.take j).map Ct.txt).map Value.string ++ [.string d.txt]) := by unfold Hid; rw [List.take_add_one, hd]; simp
      obtain ⟨k1, i1, l1, s1, t1, e1, n1⟩ := d
      have hdc := hdF.count
      rw [Ct.count] at hdc
      have hin3 : InAt wr (fun b => b < w.heap.size) a cap n := by
        have h3 := hin.mono (Y := fun b => b < w.heap.size) (fun b hb _ => hb)
        exact h3.fr hfr (fun b hb h => by unfold From at h; omega)
      obtain ⟨b, off, a', cap', rfl, hb, hX, ⟨y0, y1, y2, y3, y4, y5, y6⟩, hin1⟩ := hin3.at hd
      have hsr := hfr.size
      have hcall := r_text_n 10000 (by omega) k1 s1 t1 e1 i1 l1 n1 a' cap' wr _ (by omega) hin1 hdF.good (by have := hdF.len; omega)
      clear hd hin3 hdF
      generalize (Ct.mk k1 i1 l1 s1 t1 e1 n1).txt = tx at *
      go_wp2_with fail
      refine hcall.mono ?_
      rintro e w2 ⟨rfl, hf2⟩
      have Hfr := Lib.hid (hfr.step hf2 (fun _ _ h => h.elim))
      have hown2 := ownsRow_fr hown hf2 (fun _ _ h => h)
      have hs2 := hf2.size
      clear hf2 hfr y0 y1 y2 y3 y4 y5 y6 hin1 hown hcall
      go_wp2_with (at_builtin; refine wpList_append_own _ rfl _ _ 27 rfl w.heap.size 9 i0 (.string ByteArray.empty) 1 16 Tryz.underlying27 hi0 hz0 hz1 hz2 rfl (by decide) _ _ _ rfl (hown2.alloc _) ⟨w2.heap.size, 0, none⟩ 1 1 [.string tx] rfl rfl (cell_one_new _ _ _) (strs_one [tx]) (by unfold maxLen; omega) (by omega) (by first | omega | (simp; done) | (simp; omega)) ?_; intro v' wb hownb hgrow _; obtain ⟨avb, cvb, rfl⟩ := ownsRow_slice hownb)
      have hg6 : Fr (From w.heap.size) w2 wb := grown_fr hown2 hgrow
      have Hg6 := Lib.hid (Hfr.out.step hg6 (fun _ _ h => h))
      have Hown := Lib.hid hownb
      clear hownb hgrow hg6 hown2
      go_roundw
      case rel => exact ⟨j + 1, avb, cvb, by omega, rfl, by go_num, by rw [Htk.out]; exact Hown.out, Hg6.out⟩
      case measure => simp [intOf]; omega
    · have hlt' : ¬ (j : Int) < n.length := by omega
      obtain rfl : j = n.length := by omega
      rw [List.take_length] at hown
      have hlen : (n.map Ct.txt).length = n.length := List.length_map _
      have hst : ∃ a' cap', Value.slice av n.length cv = .slice a' (n.map Ct.txt).length cap' ∧ Strs wr a' cap' (n.map Ct.txt) ∧ ∀ ad, a' = some ad → w.heap.size ≤ ad.block := Strs.of_own (by rw [hlen]; exact hown)
      obtain ⟨a2, cap2, ev, hst, hfresh⟩ := hst
      rw [hlen] at ev
      cases ev
      have Hst := Lib.hid hst
      have Hfresh := Lib.hid hfresh
      have Hfr : Hid (Fr No w wr) := hfr.mono (fun b hb h => by unfold From at h; omega)
      clear hst hfresh hfr hown hin
      go_wp2_with fail
      go_ret
      exact ⟨_, _, rfl, Hst.out, Hfresh.out, Hfr.out⟩

set_option maxRecDepth 100000 in
set_option maxHeartbeats 3000000 in
theorem ref_of33 (p s : ByteArray) (rd : Int) (w : World) (hE : Env w) (hs : s.size ≤ 100000) :
    Calls Tryz.prog 10 #[.string p, .int .i64 rd, .string s] w fun en w2 => OfRes w p s rd en w2 ∧ Fr No w w2 := by
  have h0 : Fr No w (w.alloc (.cells #[.string ⟨#[]⟩, .string ⟨#[]⟩, .int .i64 0, .int .i64 0, .int .i64 0, .int .i64 0, .slice none 0 0] 31)) := (Fr.refl _ _).alloc _
  have q0 := block_alloc w (.cells #[.string ⟨#[]⟩, .string ⟨#[]⟩, .int .i64 0, .int .i64 0, .int .i64 0, .int .i64 0, .slice none 0 0] 31)
  have hsz : w.heap.size < (w.alloc (.cells #[.string ⟨#[]⟩, .string ⟨#[]⟩, .int .i64 0, .int .i64 0, .int .i64 0, .int .i64 0, .slice none 0 0] 31)).heap.size := by simp
  obtain ⟨W0, hW0⟩ : ∃ W0, W0 = w.alloc (.cells #[.string ⟨#[]⟩, .string ⟨#[]⟩, .int .i64 0, .int .i64 0, .int .i64 0, .int .i64 0, .slice none 0 0] 31) := ⟨_, rfl⟩
  rw [← hW0] at h0 q0 hsz
  have hrd := r_parse s W0 (hE.no h0) hs
  have H0 := Lib.hid h0
  clear h0 hE
  go_enter Tryz.func10, Tryz.ntmps10
  go_upto_region 1 with (fail)
  rw [← hW0]
  clear hW0
  go_wp2_with fail
  refine hrd.mono ?_
  rintro en w1 ⟨hres, hf1⟩
  have hs1 := hf1.size
  have q1 := hf1.heap q0 id
  have Hf1 := Lib.hid (H0.out.step hf1 (fun _ _ h => h))
  clear hrd q0 hf1
  rcases hres with ⟨er, hpn, her, rfl⟩ | ⟨vs, c, hpc, rfl, hca⟩
  · have Hn : Hid (∀ c, parseC s = some c → c.kind ≠ 3) := fun c h => by rw [hpn] at h; cases h
    have her1 : (er == 0) = false := by simp; exact her
    have her2 : (er != 0) = true := by simp; exact her
    have hx : Fr No w1 (w1.alloc (.cells #[.int .i64 0, .string ⟨#[]⟩, .string ⟨#[]⟩, .int .i64 0, .int .i64 0, .int .i64 0, .slice none 0 0] 48)) := (Fr.refl _ _).alloc _
    have q2 := hx.heap q1 id
    have Hf2 := Lib.hid (Hf1.out.step hx (fun _ _ h => h))
    have Hq2 := Lib.hid q2
    clear q1 hx hpn q2 her
    go_upto_region 3 with (fail)
    generalize w1.alloc (.cells #[.int .i64 0, .string ⟨#[]⟩, .string ⟨#[]⟩, .int .i64 0, .int .i64 0, .int .i64 0, .slice none 0 0] 48) = W2 at *
    have q2 := Hq2.out
    have b0 : W2.cell? ⟨w.heap.size, 0, none⟩ = some (.string ⟨#[]⟩) := cell_of_block q2 0
    have f0 : W2.frozen? ⟨w.heap.size, 0, none⟩ = false := free_of_block q2 0
    have b1 : W2.cell? ⟨w.heap.size, 1, none⟩ = some (.string ⟨#[]⟩) := cell_of_block q2 1
    have f1 : W2.frozen? ⟨w.heap.size, 1, none⟩ = false := free_of_block q2 1
    have b2 : W2.cell? ⟨w.heap.size, 2, none⟩ = some (.int .i64 0) := cell_of_block q2 2
    have f2 : W2.frozen? ⟨w.heap.size, 2, none⟩ = false := free_of_block q2 2
    have b3 : W2.cell? ⟨w.heap.size, 3, none⟩ = some (.int .i64 0) := cell_of_block q2 3
    have f3 : W2.frozen? ⟨w.heap.size, 3, none⟩ = false := free_of_block q2 3
    have b4 : W2.cell? ⟨w.heap.size, 4, none⟩ = some (.int .i64 0) := cell_of_block q2 4
    have f4 : W2.frozen? ⟨w.heap.size, 4, none⟩ = false := free_of_block q2 4
    have b5 : W2.cell? ⟨w.heap.size, 5, none⟩ = some (.int .i64 0) := cell_of_block q2 5
    have f5 : W2.frozen? ⟨w.heap.size, 5, none⟩ = false := free_of_block q2 5
    have b6 : W2.cell? ⟨w.heap.size, 6, none⟩ = some (.slice none 0 0) := cell_of_block q2 6
    have f6 : W2.frozen? ⟨w.heap.size, 6, none⟩ = false := free_of_block q2 6
    have h7 := set7 q2 rfl (.string ⟨#[]⟩) (.string ⟨#[]⟩) (.int .i64 0) (.int .i64 0) (.int .i64 0) (.int .i64 0) (.slice none 0 0)
    have Hfin := Lib.hid (Hf2.out.step h7.2 (fun b hb h => by unfold Is at h; omega))
    have Hq := Lib.hid h7.1
    clear h7 q2
    go_wp2_with fail
    have y0 := cell_of_block Hq.out 0
    have y1 := cell_of_block Hq.out 1
    have y2 := cell_of_block Hq.out 2
    have y3 := cell_of_block Hq.out 3
    have y4 := cell_of_block Hq.out 4
    have y5 := cell_of_block Hq.out 5
    have y6 := cell_of_block Hq.out 6
    refine bodyPost_ret (v := .tuple #[.agg #[.string ⟨#[]⟩, .string ⟨#[]⟩, .int .i64 0, .int .i64 0, .int .i64 0, .int .i64 0, .slice none 0 0], .bool false]) (by simp [results, Tryz.results10, go_sem, y0, y1, y2, y3, y4, y5, y6]) rfl ?_
    exact ⟨.inl ⟨Hn.out, rfl⟩, Hfin.out⟩
  · obtain ⟨k, i, l, sl, t, le, n⟩ := c
    obtain ⟨hFit, htxt⟩ := parse_fit hpc
    obtain ⟨a, cap, rfl, hin⟩ := hca.inAt
    have Hpc := Lib.hid hpc
    clear hpc hca htxt
    have hx : Fr No w1 (w1.alloc (.cells #[.int .i64 k, .string i, .string l, .int .i64 sl, .int .i64 t, .int .i64 le, .slice a n.length cap] 48)) := (Fr.refl _ _).alloc _
    have q2 := hx.heap q1 id
    have qt := block_alloc w1 (.cells #[.int .i64 k, .string i, .string l, .int .i64 sl, .int .i64 t, .int .i64 le, .slice a n.length cap] 48)
    have Hf2 := Lib.hid (Hf1.out.step hx (fun _ _ h => h))
    have Hin2 := Lib.hid (hin.fr hx (fun _ _ => id))
    have HFit := Lib.hid hFit
    have hs2 : w1.heap.size < (w1.alloc (.cells #[.int .i64 k, .string i, .string l, .int .i64 sl, .int .i64 t, .int .i64 le, .slice a n.length cap] 48)).heap.size := by simp
    have Hq2 := Lib.hid q2
    clear q1 hx hin hFit q2
    go_upto_region 2 with (fail)
    generalize w1.alloc (.cells #[.int .i64 k, .string i, .string l, .int .i64 sl, .int .i64 t, .int .i64 le, .slice a n.length cap] 48) = W2 at *
    have zt0 : W2.cell? ⟨w1.heap.size, 0, none⟩ = some (.int .i64 k) := cell_of_block qt 0
    rcases hk : (k == 3) with _ | _
    · have hk2 : (k != 3) = true := by simpa using hk
      have Hn : Hid (∀ c, parseC s = some c → c.kind ≠ 3) := fun c h => by
        rw [Hpc.out] at h; injection h with h; subst h
        show k ≠ 3
        simpa using hk
      clear qt
      go_upto_region 3 with (fail)
      clear zt0
      have q2 := Hq2.out
      have b0 : W2.cell? ⟨w.heap.size, 0, none⟩ = some (.string ⟨#[]⟩) := cell_of_block q2 0
      have f0 : W2.frozen? ⟨w.heap.size, 0, none⟩ = false := free_of_block q2 0
      have b1 : W2.cell? ⟨w.heap.size, 1, none⟩ = some (.string ⟨#[]⟩) := cell_of_block q2 1
      have f1 : W2.frozen? ⟨w.heap.size, 1, none⟩ = false := free_of_block q2 1
      have b2 : W2.cell? ⟨w.heap.size, 2, none⟩ = some (.int .i64 0) := cell_of_block q2 2
      have f2 : W2.frozen? ⟨w.heap.size, 2, none⟩ = false := free_of_block q2 2
      have b3 : W2.cell? ⟨w.heap.size, 3, none⟩ = some (.int .i64 0) := cell_of_block q2 3
      have f3 : W2.frozen? ⟨w.heap.size, 3, none⟩ = false := free_of_block q2 3
      have b4 : W2.cell? ⟨w.heap.size, 4, none⟩ = some (.int .i64 0) := cell_of_block q2 4
      have f4 : W2.frozen? ⟨w.heap.size, 4, none⟩ = false := free_of_block q2 4
      have b5 : W2.cell? ⟨w.heap.size, 5, none⟩ = some (.int .i64 0) := cell_of_block q2 5
      have f5 : W2.frozen? ⟨w.heap.size, 5, none⟩ = false := free_of_block q2 5
      have b6 : W2.cell? ⟨w.heap.size, 6, none⟩ = some (.slice none 0 0) := cell_of_block q2 6
      have f6 : W2.frozen? ⟨w.heap.size, 6, none⟩ = false := free_of_block q2 6
      have h7 := set7 q2 rfl (.string ⟨#[]⟩) (.string ⟨#[]⟩) (.int .i64 0) (.int .i64 0) (.int .i64 0) (.int .i64 0) (.slice none 0 0)
      have Hfin := Lib.hid (Hf2.out.step h7.2 (fun b hb h => by unfold Is at h; omega))
      have Hq := Lib.hid h7.1
      clear h7 q2
      go_wp2_with fail
      have y0 := cell_of_block Hq.out 0
      have y1 := cell_of_block Hq.out 1
      have y2 := cell_of_block Hq.out 2
      have y3 := cell_of_block Hq.out 3
      have y4 := cell_of_block Hq.out 4
      have y5 := cell_of_block Hq.out 5
      have y6 := cell_of_block Hq.out 6
      refine bodyPost_ret (v := .tuple #[.agg #[.string ⟨#[]⟩, .string ⟨#[]⟩, .int .i64 0, .int .i64 0, .int .i64 0, .int .i64 0, .slice none 0 0], .bool false]) (by simp [results, Tryz.results10, go_sem, y0, y1, y2, y3, y4, y5, y6]) rfl ?_
      exact ⟨.inl ⟨Hn.out, rfl⟩, Hfin.out⟩
    · have hk2 : (k != 3) = false := by simpa using hk
      have hkk : k = 3 := by simpa using hk
      have hk0 : (3 : Int) = k := hkk.symm
      clear hk hk2 hk0 zt0
      subst hkk
      have zt0 : W2.cell? ⟨w1.heap.size, 0, none⟩ = some (.int .i64 3) := cell_of_block qt 0
      go_upto_region 4 with (fail)
      have q2 := Hq2.out
      have hnl := len_counts n
      have hcl := HFit.out.count
      rw [Ct.count] at hcl
      refine region_sig (Is w.heap.size) [(0, false), (1, false), (2, false), (3, false), (4, false), (5, false), (6, true), (7, false), (8, true), (9, false)] (by kernel_rfl) (by kernel_rfl) (fun w6 hf6 => ?_)
      have qt6 := hf6.heap qt id
      have q26 := hf6.heap q2 id
      have hne : ¬ Is w.heap.size w1.heap.size := fun h => by unfold Is at h; omega
      have g1 : ∀ g : Gr (Is w.heap.size) w6, g.W.cell? ⟨w1.heap.size, 1, none⟩ = some (.string i) := fun g => g.fr.cell (cell_of_block qt6 1) hne
      have g6 : ∀ g : Gr (Is w.heap.size) w6, g.W.cell? ⟨w1.heap.size, 6, none⟩ = some (.slice a n.length cap) := fun g => g.fr.cell (cell_of_block qt6 6) hne
      repeat (apply sig_q; exact rfl; exact rfl; exact rfl; intro K hK; go_big_quiet_op; go_big_quiet_on)
      clear g1 g6
      have hst := r_texts n a cap w6 _ (Hin2.out.fr hf6 (fun _ _ h => h)) (fun d hd => HFit.out.inner hd) (by omega)
      have hs6 := hf6.size
      have Hf6 := Lib.hid (Hf2.out.step hf6 (fun _ _ h => h))
      clear hf6 qt6 qt q2
      apply sig_m
      exact rfl
      go_wp2_with fail
      refine hst.mono ?_
      rintro en w7 ⟨av, cv, rfl, hS7, hfresh, hf7⟩
      have q27 := hf7.heap q26 id
      have h7 := set7 q27 rfl (.string p) (.string i) (.int .i64 rd) (.int .i64 0) (.int .i64 0) (.int .i64 0) (.slice av n.length cv)
      have Hf7 := Lib.hid (Hf6.out.step hf7 (fun _ _ h => h))
      have Hfin := Lib.hid (Hf7.out.step h7.2 (fun b hb h => by unfold Is at h; omega))
      have Hst4 := Lib.hid (hS7.fr h7.2 (fun ad e hne h => by have := hfresh ad e; unfold Is at h; omega))
      have Hfresh : Hid (∀ ad, av = some ad → w.heap.size ≤ ad.block) := fun ad e => by have := hfresh ad e; omega
      have K7 := Lib.hid h7.2
      have Hq := Lib.hid h7.1
      have Hf7b := Lib.hid (hf7.mono (T := Is w.heap.size) (fun _ _ h => h.elim))
      have b0 : w7.cell? ⟨w.heap.size, 0, none⟩ = some (.string ⟨#[]⟩) := cell_of_block q27 0
      have f0 : w7.frozen? ⟨w.heap.size, 0, none⟩ = false := free_of_block q27 0
      have b1 : w7.cell? ⟨w.heap.size, 1, none⟩ = some (.string ⟨#[]⟩) := cell_of_block q27 1
      have f1 : w7.frozen? ⟨w.heap.size, 1, none⟩ = false := free_of_block q27 1
      have b2 : w7.cell? ⟨w.heap.size, 2, none⟩ = some (.int .i64 0) := cell_of_block q27 2
      have f2 : w7.frozen? ⟨w.heap.size, 2, none⟩ = false := free_of_block q27 2
      have b3 : w7.cell? ⟨w.heap.size, 3, none⟩ = some (.int .i64 0) := cell_of_block q27 3
      have f3 : w7.frozen? ⟨w.heap.size, 3, none⟩ = false := free_of_block q27 3
      have b4 : w7.cell? ⟨w.heap.size, 4, none⟩ = some (.int .i64 0) := cell_of_block q27 4
      have f4 : w7.frozen? ⟨w.heap.size, 4, none⟩ = false := free_of_block q27 4
      have b5 : w7.cell? ⟨w.heap.size, 5, none⟩ = some (.int .i64 0) := cell_of_block q27 5
      have f5 : w7.frozen? ⟨w.heap.size, 5, none⟩ = false := free_of_block q27 5
      have b6 : w7.cell? ⟨w.heap.size, 6, none⟩ = some (.slice none 0 0) := cell_of_block q27 6
      have f6 : w7.frozen? ⟨w.heap.size, 6, none⟩ = false := free_of_block q27 6
      clear h7 hf7 hS7 hfresh hst q26 q27
      go_wp2_with fail
      refine OnlyN.mk ⟨Hf7b.out, ?_⟩
      repeat (apply sig_q; exact rfl; exact rfl; exact rfl; intro K hK; go_big_quiet_op; go_big_quiet_on)
      apply sig_m
      exact rfl
      go_wp2_with fail
      refine OnlyN.mk ⟨K7.out, ?_⟩
      repeat (apply sig_q; exact rfl; exact rfl; exact rfl; intro K hK; go_big_quiet_op; go_big_quiet_on)
      refine sig_end ?_
      clear b0 f0 b1 f1 b2 f2 b3 f3 b4 f4 b5 f5 b6 f6
      go_wp2_with fail
      have y0 := cell_of_block Hq.out 0
      have y1 := cell_of_block Hq.out 1
      have y2 := cell_of_block Hq.out 2
      have y3 := cell_of_block Hq.out 3
      have y4 := cell_of_block Hq.out 4
      have y5 := cell_of_block Hq.out 5
      have y6 := cell_of_block Hq.out 6
      refine bodyPost_ret (v := .tuple #[.agg #[.string p, .string i, .int .i64 rd, .int .i64 0, .int .i64 0, .int .i64 0, .slice av n.length cv], .bool true]) (by simp [results, Tryz.results10, go_sem, y0, y1, y2, y3, y4, y5, y6]) rfl ?_
      exact ⟨.inr ⟨.mk 3 i l sl t le n, av, cv, Hpc.out, rfl, rfl, Hst4.out, Hfresh.out⟩, Hfin.out⟩

set_option maxRecDepth 100000 in
set_option maxHeartbeats 3000000 in
theorem ref_of34 (p s : ByteArray) (rd : Int) (w : World) (hE : Env w) (hs : s.size ≤ 100000) :
    Calls Tryz.prog 15 #[.string p, .int .i64 rd, .string s] w fun en w2 => OfRes4 w p s rd en w2 ∧ Fr No w w2 := by
  have h0 : Fr No w (w.alloc (.cells #[.string ⟨#[]⟩, .string ⟨#[]⟩, .int .i64 0, .int .i64 0, .int .i64 0, .int .i64 0, .slice none 0 0] 31)) := (Fr.refl _ _).alloc _
  have q0 := block_alloc w (.cells #[.string ⟨#[]⟩, .string ⟨#[]⟩, .int .i64 0, .int .i64 0, .int .i64 0, .int .i64 0, .slice none 0 0] 31)
  have hsz : w.heap.size < (w.alloc (.cells #[.string ⟨#[]⟩, .string ⟨#[]⟩, .int .i64 0, .int .i64 0, .int .i64 0, .int .i64 0, .slice none 0 0] 31)).heap.size := by simp
  obtain ⟨W0, hW0⟩ : ∃ W0, W0 = w.alloc (.cells #[.string ⟨#[]⟩, .string ⟨#[]⟩, .int .i64 0, .int .i64 0, .int .i64 0, .int .i64 0, .slice none 0 0] 31) := ⟨_, rfl⟩
  rw [← hW0] at h0 q0 hsz
  have hrd := r_parse s W0 (hE.no h0) hs
  have H0 := Lib.hid h0
  clear h0 hE
  go_enter Tryz.func15, Tryz.ntmps15
  go_upto_region 1 with (fail)
  rw [← hW0]
  clear hW0
  go_wp2_with fail
  refine hrd.mono ?_
  rintro en w1 ⟨hres, hf1⟩
  have hs1 := hf1.size
  have q1 := hf1.heap q0 id
  have Hf1 := Lib.hid (H0.out.step hf1 (fun _ _ h => h))
  clear hrd q0 hf1
  rcases hres with ⟨er, hpn, her, rfl⟩ | ⟨vs, c, hpc, rfl, hca⟩
  · have Hn : Hid (∀ c, parseC s = some c → c.kind ≠ 4) := fun c h => by rw [hpn] at h; cases h
    have her1 : (er == 0) = false := by simp; exact her
    have her2 : (er != 0) = true := by simp; exact her
    have hx : Fr No w1 (w1.alloc (.cells #[.int .i64 0, .string ⟨#[]⟩, .string ⟨#[]⟩, .int .i64 0, .int .i64 0, .int .i64 0, .slice none 0 0] 48)) := (Fr.refl _ _).alloc _
    have q2 := hx.heap q1 id
    have Hf2 := Lib.hid (Hf1.out.step hx (fun _ _ h => h))
    have Hq2 := Lib.hid q2
    clear q1 hx hpn q2 her
    go_upto_region 3 with (fail)
    generalize w1.alloc (.cells #[.int .i64 0, .string ⟨#[]⟩, .string ⟨#[]⟩, .int .i64 0, .int .i64 0, .int .i64 0, .slice none 0 0] 48) = W2 at *
    have q2 := Hq2.out
    have b0 : W2.cell? ⟨w.heap.size, 0, none⟩ = some (.string ⟨#[]⟩) := cell_of_block q2 0
    have f0 : W2.frozen? ⟨w.heap.size, 0, none⟩ = false := free_of_block q2 0
    have b1 : W2.cell? ⟨w.heap.size, 1, none⟩ = some (.string ⟨#[]⟩) := cell_of_block q2 1
    have f1 : W2.frozen? ⟨w.heap.size, 1, none⟩ = false := free_of_block q2 1
    have b2 : W2.cell? ⟨w.heap.size, 2, none⟩ = some (.int .i64 0) := cell_of_block q2 2
    have f2 : W2.frozen? ⟨w.heap.size, 2, none⟩ = false := free_of_block q2 2
    have b3 : W2.cell? ⟨w.heap.size, 3, none⟩ = some (.int .i64 0) := cell_of_block q2 3
    have f3 : W2.frozen? ⟨w.heap.size, 3, none⟩ = false := free_of_block q2 3
    have b4 : W2.cell? ⟨w.heap.size, 4, none⟩ = some (.int .i64 0) := cell_of_block q2 4
    have f4 : W2.frozen? ⟨w.heap.size, 4, none⟩ = false := free_of_block q2 4
    have b5 : W2.cell? ⟨w.heap.size, 5, none⟩ = some (.int .i64 0) := cell_of_block q2 5
    have f5 : W2.frozen? ⟨w.heap.size, 5, none⟩ = false := free_of_block q2 5
    have b6 : W2.cell? ⟨w.heap.size, 6, none⟩ = some (.slice none 0 0) := cell_of_block q2 6
    have f6 : W2.frozen? ⟨w.heap.size, 6, none⟩ = false := free_of_block q2 6
    have h7 := set7 q2 rfl (.string ⟨#[]⟩) (.string ⟨#[]⟩) (.int .i64 0) (.int .i64 0) (.int .i64 0) (.int .i64 0) (.slice none 0 0)
    have Hfin := Lib.hid (Hf2.out.step h7.2 (fun b hb h => by unfold Is at h; omega))
    have Hq := Lib.hid h7.1
    clear h7 q2
    go_wp2_with fail
    have y0 := cell_of_block Hq.out 0
    have y1 := cell_of_block Hq.out 1
    have y2 := cell_of_block Hq.out 2
    have y3 := cell_of_block Hq.out 3
    have y4 := cell_of_block Hq.out 4
    have y5 := cell_of_block Hq.out 5
    have y6 := cell_of_block Hq.out 6
    refine bodyPost_ret (v := .tuple #[.agg #[.string ⟨#[]⟩, .string ⟨#[]⟩, .int .i64 0, .int .i64 0, .int .i64 0, .int .i64 0, .slice none 0 0], .bool false]) (by simp [results, Tryz.results15, go_sem, y0, y1, y2, y3, y4, y5, y6]) rfl ?_
    exact ⟨.inl ⟨Hn.out, rfl⟩, Hfin.out⟩
  · obtain ⟨k, i, l, sl, t, le, n⟩ := c
    obtain ⟨hFit, htxt⟩ := parse_fit hpc
    obtain ⟨a, cap, rfl, hin⟩ := hca.inAt
    have Hpc := Lib.hid hpc
    clear hpc hca htxt
    have hx : Fr No w1 (w1.alloc (.cells #[.int .i64 k, .string i, .string l, .int .i64 sl, .int .i64 t, .int .i64 le, .slice a n.length cap] 48)) := (Fr.refl _ _).alloc _
    have q2 := hx.heap q1 id
    have qt := block_alloc w1 (.cells #[.int .i64 k, .string i, .string l, .int .i64 sl, .int .i64 t, .int .i64 le, .slice a n.length cap] 48)
    have Hf2 := Lib.hid (Hf1.out.step hx (fun _ _ h => h))
    have Hin2 := Lib.hid (hin.fr hx (fun _ _ => id))
    have HFit := Lib.hid hFit
    have hs2 : w1.heap.size < (w1.alloc (.cells #[.int .i64 k, .string i, .string l, .int .i64 sl, .int .i64 t, .int .i64 le, .slice a n.length cap] 48)).heap.size := by simp
    have Hq2 := Lib.hid q2
    clear q1 hx hin hFit q2
    go_upto_region 2 with (fail)
    generalize w1.alloc (.cells #[.int .i64 k, .string i, .string l, .int .i64 sl, .int .i64 t, .int .i64 le, .slice a n.length cap] 48) = W2 at *
    have zt0 : W2.cell? ⟨w1.heap.size, 0, none⟩ = some (.int .i64 k) := cell_of_block qt 0
    rcases hk : (k == 4) with _ | _
    · have hk2 : (k != 4) = true := by simpa using hk
      have Hn : Hid (∀ c, parseC s = some c → c.kind ≠ 4) := fun c h => by
        rw [Hpc.out] at h; injection h with h; subst h
        show k ≠ 4
        simpa using hk
      clear qt
      go_upto_region 3 with (fail)
      clear zt0
      have q2 := Hq2.out
      have b0 : W2.cell? ⟨w.heap.size, 0, none⟩ = some (.string ⟨#[]⟩) := cell_of_block q2 0
      have f0 : W2.frozen? ⟨w.heap.size, 0, none⟩ = false := free_of_block q2 0
      have b1 : W2.cell? ⟨w.heap.size, 1, none⟩ = some (.string ⟨#[]⟩) := cell_of_block q2 1
      have f1 : W2.frozen? ⟨w.heap.size, 1, none⟩ = false := free_of_block q2 1
      have b2 : W2.cell? ⟨w.heap.size, 2, none⟩ = some (.int .i64 0) := cell_of_block q2 2
      have f2 : W2.frozen? ⟨w.heap.size, 2, none⟩ = false := free_of_block q2 2
      have b3 : W2.cell? ⟨w.heap.size, 3, none⟩ = some (.int .i64 0) := cell_of_block q2 3
      have f3 : W2.frozen? ⟨w.heap.size, 3, none⟩ = false := free_of_block q2 3
      have b4 : W2.cell? ⟨w.heap.size, 4, none⟩ = some (.int .i64 0) := cell_of_block q2 4
      have f4 : W2.frozen? ⟨w.heap.size, 4, none⟩ = false := free_of_block q2 4
      have b5 : W2.cell? ⟨w.heap.size, 5, none⟩ = some (.int .i64 0) := cell_of_block q2 5
      have f5 : W2.frozen? ⟨w.heap.size, 5, none⟩ = false := free_of_block q2 5
      have b6 : W2.cell? ⟨w.heap.size, 6, none⟩ = some (.slice none 0 0) := cell_of_block q2 6
      have f6 : W2.frozen? ⟨w.heap.size, 6, none⟩ = false := free_of_block q2 6
      have h7 := set7 q2 rfl (.string ⟨#[]⟩) (.string ⟨#[]⟩) (.int .i64 0) (.int .i64 0) (.int .i64 0) (.int .i64 0) (.slice none 0 0)
      have Hfin := Lib.hid (Hf2.out.step h7.2 (fun b hb h => by unfold Is at h; omega))
      have Hq := Lib.hid h7.1
      clear h7 q2
      go_wp2_with fail
      have y0 := cell_of_block Hq.out 0
      have y1 := cell_of_block Hq.out 1
      have y2 := cell_of_block Hq.out 2
      have y3 := cell_of_block Hq.out 3
      have y4 := cell_of_block Hq.out 4
      have y5 := cell_of_block Hq.out 5
      have y6 := cell_of_block Hq.out 6
      refine bodyPost_ret (v := .tuple #[.agg #[.string ⟨#[]⟩, .string ⟨#[]⟩, .int .i64 0, .int .i64 0, .int .i64 0, .int .i64 0, .slice none 0 0], .bool false]) (by simp [results, Tryz.results15, go_sem, y0, y1, y2, y3, y4, y5, y6]) rfl ?_
      exact ⟨.inl ⟨Hn.out, rfl⟩, Hfin.out⟩
    · have hk2 : (k != 4) = false := by simpa using hk
      have hkk : k = 4 := by simpa using hk
      have hk0 : (4 : Int) = k := hkk.symm
      clear hk hk2 hk0 zt0
      subst hkk
      have zt0 : W2.cell? ⟨w1.heap.size, 0, none⟩ = some (.int .i64 4) := cell_of_block qt 0
      go_upto_region 4 with (fail)
      have q2 := Hq2.out
      have hnl := len_counts n
      have hcl := HFit.out.count
      rw [Ct.count] at hcl
      refine region_sig (Is w.heap.size) [(0, false), (1, false), (2, false), (3, false), (4, false), (5, false), (6, false), (7, false), (8, false), (9, false), (10, false), (11, false), (12, true), (13, false), (14, true), (15, false)] (by kernel_rfl) (by kernel_rfl) (fun w6 hf6 => ?_)
      have qt6 := hf6.heap qt id
      have q26 := hf6.heap q2 id
      have hne : ¬ Is w.heap.size w1.heap.size := fun h => by unfold Is at h; omega
      have g1 : ∀ g : Gr (Is w.heap.size) w6, g.W.cell? ⟨w1.heap.size, 1, none⟩ = some (.string i) := fun g => g.fr.cell (cell_of_block qt6 1) hne
      have g3 : ∀ g : Gr (Is w.heap.size) w6, g.W.cell? ⟨w1.heap.size, 3, none⟩ = some (.int .i64 sl) := fun g => g.fr.cell (cell_of_block qt6 3) hne
      have g4 : ∀ g : Gr (Is w.heap.size) w6, g.W.cell? ⟨w1.heap.size, 4, none⟩ = some (.int .i64 t) := fun g => g.fr.cell (cell_of_block qt6 4) hne
      have g6 : ∀ g : Gr (Is w.heap.size) w6, g.W.cell? ⟨w1.heap.size, 6, none⟩ = some (.slice a n.length cap) := fun g => g.fr.cell (cell_of_block qt6 6) hne
      repeat (apply sig_q; exact rfl; exact rfl; exact rfl; intro K hK; go_big_quiet_op; go_big_quiet_on)
      clear g1 g3 g4 g6
      have hst := r_texts n a cap w6 _ (Hin2.out.fr hf6 (fun _ _ h => h)) (fun d hd => HFit.out.inner hd) (by omega)
      have hs6 := hf6.size
      have Hf6 := Lib.hid (Hf2.out.step hf6 (fun _ _ h => h))
      clear hf6 qt6 qt q2
      apply sig_m
      exact rfl
      go_wp2_with fail
      refine hst.mono ?_
      rintro en w7 ⟨av, cv, rfl, hS7, hfresh, hf7⟩
      have q27 := hf7.heap q26 id
      have h7 := set7 q27 rfl (.string p) (.string i) (.int .i64 rd) (.int .i64 sl) (.int .i64 t) (.int .i64 t) (.slice av n.length cv)
      have Hf7 := Lib.hid (Hf6.out.step hf7 (fun _ _ h => h))
      have Hfin := Lib.hid (Hf7.out.step h7.2 (fun b hb h => by unfold Is at h; omega))
      have Hst4 := Lib.hid (hS7.fr h7.2 (fun ad e hne h => by have := hfresh ad e; unfold Is at h; omega))
      have Hfresh : Hid (∀ ad, av = some ad → w.heap.size ≤ ad.block) := fun ad e => by have := hfresh ad e; omega
      have K7 := Lib.hid h7.2
      have Hq := Lib.hid h7.1
      have Hf7b := Lib.hid (hf7.mono (T := Is w.heap.size) (fun _ _ h => h.elim))
      have b0 : w7.cell? ⟨w.heap.size, 0, none⟩ = some (.string ⟨#[]⟩) := cell_of_block q27 0
      have f0 : w7.frozen? ⟨w.heap.size, 0, none⟩ = false := free_of_block q27 0
      have b1 : w7.cell? ⟨w.heap.size, 1, none⟩ = some (.string ⟨#[]⟩) := cell_of_block q27 1
      have f1 : w7.frozen? ⟨w.heap.size, 1, none⟩ = false := free_of_block q27 1
      have b2 : w7.cell? ⟨w.heap.size, 2, none⟩ = some (.int .i64 0) := cell_of_block q27 2
      have f2 : w7.frozen? ⟨w.heap.size, 2, none⟩ = false := free_of_block q27 2
      have b3 : w7.cell? ⟨w.heap.size, 3, none⟩ = some (.int .i64 0) := cell_of_block q27 3
      have f3 : w7.frozen? ⟨w.heap.size, 3, none⟩ = false := free_of_block q27 3
      have b4 : w7.cell? ⟨w.heap.size, 4, none⟩ = some (.int .i64 0) := cell_of_block q27 4
      have f4 : w7.frozen? ⟨w.heap.size, 4, none⟩ = false := free_of_block q27 4
      have b5 : w7.cell? ⟨w.heap.size, 5, none⟩ = some (.int .i64 0) := cell_of_block q27 5
      have f5 : w7.frozen? ⟨w.heap.size, 5, none⟩ = false := free_of_block q27 5
      have b6 : w7.cell? ⟨w.heap.size, 6, none⟩ = some (.slice none 0 0) := cell_of_block q27 6
      have f6 : w7.frozen? ⟨w.heap.size, 6, none⟩ = false := free_of_block q27 6
      clear h7 hf7 hS7 hfresh hst q26 q27
      go_wp2_with fail
      refine OnlyN.mk ⟨Hf7b.out, ?_⟩
      repeat (apply sig_q; exact rfl; exact rfl; exact rfl; intro K hK; go_big_quiet_op; go_big_quiet_on)
      apply sig_m
      exact rfl
      go_wp2_with fail
      refine OnlyN.mk ⟨K7.out, ?_⟩
      repeat (apply sig_q; exact rfl; exact rfl; exact rfl; intro K hK; go_big_quiet_op; go_big_quiet_on)
      refine sig_end ?_
      clear b0 f0 b1 f1 b2 f2 b3 f3 b4 f4 b5 f5 b6 f6
      go_wp2_with fail
      have y0 := cell_of_block Hq.out 0
      have y1 := cell_of_block Hq.out 1
      have y2 := cell_of_block Hq.out 2
      have y3 := cell_of_block Hq.out 3
      have y4 := cell_of_block Hq.out 4
      have y5 := cell_of_block Hq.out 5
      have y6 := cell_of_block Hq.out 6
      refine bodyPost_ret (v := .tuple #[.agg #[.string p, .string i, .int .i64 rd, .int .i64 sl, .int .i64 t, .int .i64 t, .slice av n.length cv], .bool true]) (by simp [results, Tryz.results15, go_sem, y0, y1, y2, y3, y4, y5, y6]) rfl ?_
      exact ⟨.inr ⟨.mk 4 i l sl t le n, av, cv, Hpc.out, rfl, rfl, Hst4.out, Hfresh.out⟩, Hfin.out⟩

set_option maxRecDepth 100000 in
set_option maxHeartbeats 3000000 in
theorem ref_of32 (p s : ByteArray) (rd : Int) (w : World) (hE : Env w) (hs : s.size ≤ 100000) :
    Calls Tryz.prog 18 #[.string p, .int .i64 rd, .string s] w fun en w2 => OfRes2 w p s rd en w2 ∧ Fr No w w2 := by
  have h0 : Fr No w (w.alloc (.cells #[.string ⟨#[]⟩, .string ⟨#[]⟩, .int .i64 0, .int .i64 0, .int .i64 0, .int .i64 0, .slice none 0 0] 31)) := (Fr.refl _ _).alloc _
  have q0 := block_alloc w (.cells #[.string ⟨#[]⟩, .string ⟨#[]⟩, .int .i64 0, .int .i64 0, .int .i64 0, .int .i64 0, .slice none 0 0] 31)
  have hsz : w.heap.size < (w.alloc (.cells #[.string ⟨#[]⟩, .string ⟨#[]⟩, .int .i64 0, .int .i64 0, .int .i64 0, .int .i64 0, .slice none 0 0] 31)).heap.size := by simp
  obtain ⟨W0, hW0⟩ : ∃ W0, W0 = w.alloc (.cells #[.string ⟨#[]⟩, .string ⟨#[]⟩, .int .i64 0, .int .i64 0, .int .i64 0, .int .i64 0, .slice none 0 0] 31) := ⟨_, rfl⟩
  rw [← hW0] at h0 q0 hsz
  have hrd := r_parse s W0 (hE.no h0) hs
  have H0 := Lib.hid h0
  clear h0 hE
  go_enter Tryz.func18, Tryz.ntmps18
  go_upto_region 1 with (fail)
  rw [← hW0]
  clear hW0
  go_wp2_with fail
  refine hrd.mono ?_
  rintro en w1 ⟨hres, hf1⟩
  have hs1 := hf1.size
  have q1 := hf1.heap q0 id
  have Hf1 := Lib.hid (H0.out.step hf1 (fun _ _ h => h))
  clear hrd q0 hf1
  rcases hres with ⟨er, hpn, her, rfl⟩ | ⟨vs, c, hpc, rfl, hca⟩
  · have Hn : Hid (∀ c, parseC s = some c → c.kind ≠ 2) := fun c h => by rw [hpn] at h; cases h
    have her1 : (er == 0) = false := by simp; exact her
    have her2 : (er != 0) = true := by simp; exact her
    have hx : Fr No w1 (w1.alloc (.cells #[.int .i64 0, .string ⟨#[]⟩, .string ⟨#[]⟩, .int .i64 0, .int .i64 0, .int .i64 0, .slice none 0 0] 48)) := (Fr.refl _ _).alloc _
    have q2 := hx.heap q1 id
    have Hf2 := Lib.hid (Hf1.out.step hx (fun _ _ h => h))
    have Hq2 := Lib.hid q2
    clear q1 hx hpn q2 her
    go_upto_region 3 with (fail)
    generalize w1.alloc (.cells #[.int .i64 0, .string ⟨#[]⟩, .string ⟨#[]⟩, .int .i64 0, .int .i64 0, .int .i64 0, .slice none 0 0] 48) = W2 at *
    have q2 := Hq2.out
    have b0 : W2.cell? ⟨w.heap.size, 0, none⟩ = some (.string ⟨#[]⟩) := cell_of_block q2 0
    have f0 : W2.frozen? ⟨w.heap.size, 0, none⟩ = false := free_of_block q2 0
    have b1 : W2.cell? ⟨w.heap.size, 1, none⟩ = some (.string ⟨#[]⟩) := cell_of_block q2 1
    have f1 : W2.frozen? ⟨w.heap.size, 1, none⟩ = false := free_of_block q2 1
    have b2 : W2.cell? ⟨w.heap.size, 2, none⟩ = some (.int .i64 0) := cell_of_block q2 2
    have f2 : W2.frozen? ⟨w.heap.size, 2, none⟩ = false := free_of_block q2 2
    have b3 : W2.cell? ⟨w.heap.size, 3, none⟩ = some (.int .i64 0) := cell_of_block q2 3
    have f3 : W2.frozen? ⟨w.heap.size, 3, none⟩ = false := free_of_block q2 3
    have b4 : W2.cell? ⟨w.heap.size, 4, none⟩ = some (.int .i64 0) := cell_of_block q2 4
    have f4 : W2.frozen? ⟨w.heap.size, 4, none⟩ = false := free_of_block q2 4
    have b5 : W2.cell? ⟨w.heap.size, 5, none⟩ = some (.int .i64 0) := cell_of_block q2 5
    have f5 : W2.frozen? ⟨w.heap.size, 5, none⟩ = false := free_of_block q2 5
    have b6 : W2.cell? ⟨w.heap.size, 6, none⟩ = some (.slice none 0 0) := cell_of_block q2 6
    have f6 : W2.frozen? ⟨w.heap.size, 6, none⟩ = false := free_of_block q2 6
    have h7 := set7 q2 rfl (.string ⟨#[]⟩) (.string ⟨#[]⟩) (.int .i64 0) (.int .i64 0) (.int .i64 0) (.int .i64 0) (.slice none 0 0)
    have Hfin := Lib.hid (Hf2.out.step h7.2 (fun b hb h => by unfold Is at h; omega))
    have Hq := Lib.hid h7.1
    clear h7 q2
    go_wp2_with fail
    have y0 := cell_of_block Hq.out 0
    have y1 := cell_of_block Hq.out 1
    have y2 := cell_of_block Hq.out 2
    have y3 := cell_of_block Hq.out 3
    have y4 := cell_of_block Hq.out 4
    have y5 := cell_of_block Hq.out 5
    have y6 := cell_of_block Hq.out 6
    refine bodyPost_ret (v := .tuple #[.agg #[.string ⟨#[]⟩, .string ⟨#[]⟩, .int .i64 0, .int .i64 0, .int .i64 0, .int .i64 0, .slice none 0 0], .bool false]) (by simp [results, Tryz.results18, go_sem, y0, y1, y2, y3, y4, y5, y6]) rfl ?_
    exact ⟨.inl ⟨Hn.out, rfl⟩, Hfin.out⟩
  · obtain ⟨k, i, l, sl, t, le, n⟩ := c
    obtain ⟨hFit, htxt⟩ := parse_fit hpc
    obtain ⟨a, cap, rfl, hin⟩ := hca.inAt
    have Hpc := Lib.hid hpc
    clear hpc hca htxt
    have hx : Fr No w1 (w1.alloc (.cells #[.int .i64 k, .string i, .string l, .int .i64 sl, .int .i64 t, .int .i64 le, .slice a n.length cap] 48)) := (Fr.refl _ _).alloc _
    have q2 := hx.heap q1 id
    have qt := block_alloc w1 (.cells #[.int .i64 k, .string i, .string l, .int .i64 sl, .int .i64 t, .int .i64 le, .slice a n.length cap] 48)
    have Hf2 := Lib.hid (Hf1.out.step hx (fun _ _ h => h))
    have Hin2 := Lib.hid (hin.fr hx (fun _ _ => id))
    have HFit := Lib.hid hFit
    have hs2 : w1.heap.size < (w1.alloc (.cells #[.int .i64 k, .string i, .string l, .int .i64 sl, .int .i64 t, .int .i64 le, .slice a n.length cap] 48)).heap.size := by simp
    have Hq2 := Lib.hid q2
    clear q1 hx hin hFit q2
    go_upto_region 2 with (fail)
    generalize w1.alloc (.cells #[.int .i64 k, .string i, .string l, .int .i64 sl, .int .i64 t, .int .i64 le, .slice a n.length cap] 48) = W2 at *
    have zt0 : W2.cell? ⟨w1.heap.size, 0, none⟩ = some (.int .i64 k) := cell_of_block qt 0
    rcases hk : (k == 2) with _ | _
    · have hk2 : (k != 2) = true := by simpa using hk
      have Hn : Hid (∀ c, parseC s = some c → c.kind ≠ 2) := fun c h => by
        rw [Hpc.out] at h; injection h with h; subst h
        show k ≠ 2
        simpa using hk
      clear qt
      go_upto_region 3 with (fail)
      clear zt0
      have q2 := Hq2.out
      have b0 : W2.cell? ⟨w.heap.size, 0, none⟩ = some (.string ⟨#[]⟩) := cell_of_block q2 0
      have f0 : W2.frozen? ⟨w.heap.size, 0, none⟩ = false := free_of_block q2 0
      have b1 : W2.cell? ⟨w.heap.size, 1, none⟩ = some (.string ⟨#[]⟩) := cell_of_block q2 1
      have f1 : W2.frozen? ⟨w.heap.size, 1, none⟩ = false := free_of_block q2 1
      have b2 : W2.cell? ⟨w.heap.size, 2, none⟩ = some (.int .i64 0) := cell_of_block q2 2
      have f2 : W2.frozen? ⟨w.heap.size, 2, none⟩ = false := free_of_block q2 2
      have b3 : W2.cell? ⟨w.heap.size, 3, none⟩ = some (.int .i64 0) := cell_of_block q2 3
      have f3 : W2.frozen? ⟨w.heap.size, 3, none⟩ = false := free_of_block q2 3
      have b4 : W2.cell? ⟨w.heap.size, 4, none⟩ = some (.int .i64 0) := cell_of_block q2 4
      have f4 : W2.frozen? ⟨w.heap.size, 4, none⟩ = false := free_of_block q2 4
      have b5 : W2.cell? ⟨w.heap.size, 5, none⟩ = some (.int .i64 0) := cell_of_block q2 5
      have f5 : W2.frozen? ⟨w.heap.size, 5, none⟩ = false := free_of_block q2 5
      have b6 : W2.cell? ⟨w.heap.size, 6, none⟩ = some (.slice none 0 0) := cell_of_block q2 6
      have f6 : W2.frozen? ⟨w.heap.size, 6, none⟩ = false := free_of_block q2 6
      have h7 := set7 q2 rfl (.string ⟨#[]⟩) (.string ⟨#[]⟩) (.int .i64 0) (.int .i64 0) (.int .i64 0) (.int .i64 0) (.slice none 0 0)
      have Hfin := Lib.hid (Hf2.out.step h7.2 (fun b hb h => by unfold Is at h; omega))
      have Hq := Lib.hid h7.1
      clear h7 q2
      go_wp2_with fail
      have y0 := cell_of_block Hq.out 0
      have y1 := cell_of_block Hq.out 1
      have y2 := cell_of_block Hq.out 2
      have y3 := cell_of_block Hq.out 3
      have y4 := cell_of_block Hq.out 4
      have y5 := cell_of_block Hq.out 5
      have y6 := cell_of_block Hq.out 6
      refine bodyPost_ret (v := .tuple #[.agg #[.string ⟨#[]⟩, .string ⟨#[]⟩, .int .i64 0, .int .i64 0, .int .i64 0, .int .i64 0, .slice none 0 0], .bool false]) (by simp [results, Tryz.results18, go_sem, y0, y1, y2, y3, y4, y5, y6]) rfl ?_
      exact ⟨.inl ⟨Hn.out, rfl⟩, Hfin.out⟩
    · have hk2 : (k != 2) = false := by simpa using hk
      have hkk : k = 2 := by simpa using hk
      have hk0 : (2 : Int) = k := hkk.symm
      clear hk hk2 hk0 zt0
      subst hkk
      have zt0 : W2.cell? ⟨w1.heap.size, 0, none⟩ = some (.int .i64 2) := cell_of_block qt 0
      go_upto_region 4 with (fail)
      have q2 := Hq2.out
      have hnl := len_counts n
      have hcl := HFit.out.count
      rw [Ct.count] at hcl
      refine region_sig (Is w.heap.size) [(0, false), (1, false), (2, false), (3, false), (4, false), (5, false), (6, false), (7, false), (8, false), (9, false), (10, false), (11, false), (12, true), (13, false), (14, true), (15, false)] (by kernel_rfl) (by kernel_rfl) (fun w6 hf6 => ?_)
      have qt6 := hf6.heap qt id
      have q26 := hf6.heap q2 id
      have hne : ¬ Is w.heap.size w1.heap.size := fun h => by unfold Is at h; omega
      have g1 : ∀ g : Gr (Is w.heap.size) w6, g.W.cell? ⟨w1.heap.size, 1, none⟩ = some (.string i) := fun g => g.fr.cell (cell_of_block qt6 1) hne
      have g3 : ∀ g : Gr (Is w.heap.size) w6, g.W.cell? ⟨w1.heap.size, 3, none⟩ = some (.int .i64 sl) := fun g => g.fr.cell (cell_of_block qt6 3) hne
      have g4 : ∀ g : Gr (Is w.heap.size) w6, g.W.cell? ⟨w1.heap.size, 4, none⟩ = some (.int .i64 t) := fun g => g.fr.cell (cell_of_block qt6 4) hne
      have g5 : ∀ g : Gr (Is w.heap.size) w6, g.W.cell? ⟨w1.heap.size, 5, none⟩ = some (.int .i64 le) := fun g => g.fr.cell (cell_of_block qt6 5) hne
      have g6 : ∀ g : Gr (Is w.heap.size) w6, g.W.cell? ⟨w1.heap.size, 6, none⟩ = some (.slice a n.length cap) := fun g => g.fr.cell (cell_of_block qt6 6) hne
      repeat (apply sig_q; exact rfl; exact rfl; exact rfl; intro K hK; go_big_quiet_op; go_big_quiet_on)
      clear g1 g3 g4 g5 g6
      have hst := r_texts n a cap w6 _ (Hin2.out.fr hf6 (fun _ _ h => h)) (fun d hd => HFit.out.inner hd) (by omega)
      have hs6 := hf6.size
      have Hf6 := Lib.hid (Hf2.out.step hf6 (fun _ _ h => h))
      clear hf6 qt6 qt q2
      apply sig_m
      exact rfl
      go_wp2_with fail
      refine hst.mono ?_
      rintro en w7 ⟨av, cv, rfl, hS7, hfresh, hf7⟩
      have q27 := hf7.heap q26 id
      have h7 := set7 q27 rfl (.string p) (.string i) (.int .i64 rd) (.int .i64 sl) (.int .i64 t) (.int .i64 le) (.slice av n.length cv)
      have Hf7 := Lib.hid (Hf6.out.step hf7 (fun _ _ h => h))
      have Hfin := Lib.hid (Hf7.out.step h7.2 (fun b hb h => by unfold Is at h; omega))
      have Hst4 := Lib.hid (hS7.fr h7.2 (fun ad e hne h => by have := hfresh ad e; unfold Is at h; omega))
      have Hfresh : Hid (∀ ad, av = some ad → w.heap.size ≤ ad.block) := fun ad e => by have := hfresh ad e; omega
      have K7 := Lib.hid h7.2
      have Hq := Lib.hid h7.1
      have Hf7b := Lib.hid (hf7.mono (T := Is w.heap.size) (fun _ _ h => h.elim))
      have b0 : w7.cell? ⟨w.heap.size, 0, none⟩ = some (.string ⟨#[]⟩) := cell_of_block q27 0
      have f0 : w7.frozen? ⟨w.heap.size, 0, none⟩ = false := free_of_block q27 0
      have b1 : w7.cell? ⟨w.heap.size, 1, none⟩ = some (.string ⟨#[]⟩) := cell_of_block q27 1
      have f1 : w7.frozen? ⟨w.heap.size, 1, none⟩ = false := free_of_block q27 1
      have b2 : w7.cell? ⟨w.heap.size, 2, none⟩ = some (.int .i64 0) := cell_of_block q27 2
      have f2 : w7.frozen? ⟨w.heap.size, 2, none⟩ = false := free_of_block q27 2
      have b3 : w7.cell? ⟨w.heap.size, 3, none⟩ = some (.int .i64 0) := cell_of_block q27 3
      have f3 : w7.frozen? ⟨w.heap.size, 3, none⟩ = false := free_of_block q27 3
      have b4 : w7.cell? ⟨w.heap.size, 4, none⟩ = some (.int .i64 0) := cell_of_block q27 4
      have f4 : w7.frozen? ⟨w.heap.size, 4, none⟩ = false := free_of_block q27 4
      have b5 : w7.cell? ⟨w.heap.size, 5, none⟩ = some (.int .i64 0) := cell_of_block q27 5
      have f5 : w7.frozen? ⟨w.heap.size, 5, none⟩ = false := free_of_block q27 5
      have b6 : w7.cell? ⟨w.heap.size, 6, none⟩ = some (.slice none 0 0) := cell_of_block q27 6
      have f6 : w7.frozen? ⟨w.heap.size, 6, none⟩ = false := free_of_block q27 6
      clear h7 hf7 hS7 hfresh hst q26 q27
      go_wp2_with fail
      refine OnlyN.mk ⟨Hf7b.out, ?_⟩
      repeat (apply sig_q; exact rfl; exact rfl; exact rfl; intro K hK; go_big_quiet_op; go_big_quiet_on)
      apply sig_m
      exact rfl
      go_wp2_with fail
      refine OnlyN.mk ⟨K7.out, ?_⟩
      repeat (apply sig_q; exact rfl; exact rfl; exact rfl; intro K hK; go_big_quiet_op; go_big_quiet_on)
      refine sig_end ?_
      clear b0 f0 b1 f1 b2 f2 b3 f3 b4 f4 b5 f5 b6 f6
      go_wp2_with fail
      have y0 := cell_of_block Hq.out 0
      have y1 := cell_of_block Hq.out 1
      have y2 := cell_of_block Hq.out 2
      have y3 := cell_of_block Hq.out 3
      have y4 := cell_of_block Hq.out 4
      have y5 := cell_of_block Hq.out 5
      have y6 := cell_of_block Hq.out 6
      refine bodyPost_ret (v := .tuple #[.agg #[.string p, .string i, .int .i64 rd, .int .i64 sl, .int .i64 t, .int .i64 le, .slice av n.length cv], .bool true]) (by simp [results, Tryz.results18, go_sem, y0, y1, y2, y3, y4, y5, y6]) rfl ?_
      exact ⟨.inr ⟨.mk 2 i l sl t le n, av, cv, Hpc.out, rfl, rfl, Hst4.out, Hfresh.out⟩, Hfin.out⟩

end Go.Proofs.YtcibciippghooaaGreatDoor
