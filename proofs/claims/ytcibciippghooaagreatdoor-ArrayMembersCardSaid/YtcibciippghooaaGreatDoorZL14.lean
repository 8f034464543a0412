/- Check of a content. Parse of a text. Maps of ints and of strings, keyed by ints, that the call made. -/
import Derived.Test.YtcibciippghooaaGreatDoorZL13
import Derived.Test.YtcibciippghooaaGreatDoorZL2
import Derived.Maps.StringElems
namespace Go.Proofs.YtcibciippghooaaGreatDoor
open Go.RowKit Go.Maps
set_option linter.unusedVariables false

theorem own_cells {w : World} {base : Nat} {ty : TypeId} {sz : Nat} {a : Option Addr} {n c m : Nat} {xs : List Value} (h : w.ownsRow base ty sz (.slice a n c) m xs) (hm : 0 < m) : ∃ g off, a = some ⟨g, off, none⟩ ∧ ∀ j u, xs[j]? = some u → w.cell? ⟨g, off + j, none⟩ = some u := by
  have hs := own_src h
  obtain ⟨_, ⟨h1, h2⟩ | ⟨g, cap, cur, h1, _⟩⟩ := h
  · omega
  · cases h1
    refine ⟨g, 0, rfl, fun j u hu => ?_⟩
    have := hs _ rfl j u hu
    rwa [Addr.add_lit] at this

set_option maxRecDepth 100000 in
set_option maxHeartbeats 1000000 in
theorem c_check1 (k s t e : Int) (i l : ByteArray) (n : List Ct) (a : Option Addr) (cap : Nat) (w : World) (hn : n.length ≤ 100000) (his : i.size ≤ 100000) (hls : l.size ≤ 100000) :
    Calls Tryz.prog 96 #[.agg #[.int .i64 k, .string i, .string l, .int .i64 s, .int .i64 t, .int .i64 e, .slice a n.length cap]] w fun en w2 => en = .returned (.bool (!alike (.mk k i l s t e n))) ∧ Fr No w w2 := by
  have h0 : Fr No w (w.alloc (.cells #[.int .i64 k, .string i, .string l, .int .i64 s, .int .i64 t, .int .i64 e, .slice a n.length cap] 48)) := (Fr.refl _ _).alloc _
  have H0 := Lib.hid h0
  go_enter Tryz.func96, Tryz.ntmps96
  clear h0
  go_wp2_with fail
  refine (c_alike k s t e i l n a cap _ hn his hls).mono ?_
  rintro en w1 ⟨rfl, hf1⟩
  have Hf := Lib.hid (H0.out.step hf1 (fun _ _ h => h))
  clear hf1
  go_wp2_with fail
  go_ret
  exact ⟨rfl, Hf.out⟩

set_option maxRecDepth 100000 in
set_option maxHeartbeats 1000000 in
theorem c_index (la : Option Addr) (lc : Nat) (cs : List Ct) (xs : List Value) (w : World) (hsh : ShFlat xs cs) (hpos : 0 < cs.length) (hmax : cs.length ≤ 100000)
    (hc : ∃ g off, la = some ⟨g, off, none⟩ ∧ ∀ j u, xs[j]? = some u → w.cell? ⟨g, off + j, none⟩ = some u) (hsm : ∀ d ∈ cs, SmallC 100000 d ∧ d.inner.length ≤ 100000) :
    Calls Tryz.prog 131 #[.slice la cs.length lc, .func (.func 96) #[] #[]] w fun e w' => (∃ r : Int, e = .returned (.int .i64 r) ∧ decide (0 ≤ r) = !cs.all alike) ∧ Fr No w w' := by
  obtain ⟨g, off, rfl, hcell⟩ := hc
  have Hcell := Lib.hid hcell
  clear hcell
  go_enter Tryz.func131, Tryz.ntmps131
  go_wp2_with fail
  go_loopw [8] (fun x wr => ∃ j : Nat, j ≤ cs.length ∧ x = .int .i64 (j : Int) ∧ Hid ((cs.take j).all alike = true) ∧ Fr No w wr) (fun x _ => cs.length - (intOf x).toNat)
  case atStart => exact ⟨0, by omega, rfl, by unfold Hid; simp, Fr.refl _ _⟩
  case round =>
    obtain ⟨j, hj, rfl, hno, hfr⟩ := hrel
    by_cases hlt : j < cs.length
    · have hlt' : (j : Int) < cs.length := by omega
      obtain ⟨d, hd⟩ : ∃ d, cs[j]? = some d := ⟨_, List.getElem?_eq_getElem hlt⟩
      have Hmem := Lib.hid (List.mem_of_getElem? hd)
      have Htk : Hid (cs.take (j + 1) = cs.take j ++ [d]) := by unfold Hid; rw [List.take_add_one, hd]; rfl
      obtain ⟨⟨hs1, hs2⟩, hs3⟩ := hsm d Hmem.out
      obtain ⟨k, i, l, s, t, e, n⟩ := d
      obtain ⟨a, cap, h7⟩ := hsh.at hd
      have y0 : wr.cell? ⟨g, off + j * 7, none⟩ = some (.int .i64 k) := hfr.cell (Hcell.out (j * 7 + 0) _ (h7 0 (by omega))) id
      have y1 : wr.cell? ⟨g, off + j * 7 + 1, none⟩ = some (.string i) := hfr.cell (Hcell.out (j * 7 + 1) _ (h7 1 (by omega))) id
      have y2 : wr.cell? ⟨g, off + j * 7 + 2, none⟩ = some (.string l) := hfr.cell (Hcell.out (j * 7 + 2) _ (h7 2 (by omega))) id
      have y3 : wr.cell? ⟨g, off + j * 7 + 3, none⟩ = some (.int .i64 s) := hfr.cell (Hcell.out (j * 7 + 3) _ (h7 3 (by omega))) id
      have y4 : wr.cell? ⟨g, off + j * 7 + 4, none⟩ = some (.int .i64 t) := hfr.cell (Hcell.out (j * 7 + 4) _ (h7 4 (by omega))) id
      have y5 : wr.cell? ⟨g, off + j * 7 + 5, none⟩ = some (.int .i64 e) := hfr.cell (Hcell.out (j * 7 + 5) _ (h7 5 (by omega))) id
      have y6 : wr.cell? ⟨g, off + j * 7 + 6, none⟩ = some (.slice a n.length cap) := hfr.cell (Hcell.out (j * 7 + 6) _ (h7 6 (by omega))) id
      clear hd h7
      go_wp2_with fail
      refine (c_check1 k s t e i l n a cap _ hs3 hs1 hs2).mono ?_
      rintro en w1 ⟨rfl, hf1⟩
      have hfr1 := hfr.step hf1 (fun _ _ h => h)
      clear y0 y1 y2 y3 y4 y5 y6 hf1
      cases hp : alike (.mk k i l s t e n)
      · have Hr : Hid (cs.all alike = false) := by unfold Hid; rw [List.all_eq_false]; exact ⟨_, Hmem.out, by rw [hp]; simp⟩
        clear hp
        go_wp2_with fail
        go_ret
        exact ⟨⟨(j : Int), rfl, by rw [Hr.out]; simp⟩, hfr1⟩
      · have Hn : Hid ((cs.take (j + 1)).all alike = true) := by unfold Hid; rw [Htk.out, List.all_append, hno.out]; simp [hp]
        clear hp
        go_wp2_with fail
        go_roundw
        case rel => exact ⟨j + 1, by omega, by go_num, Hn, hfr1⟩
        case measure => simp [intOf]; omega
    · have h := hno.out
      rw [List.take_of_length_le (by omega)] at h
      have Hp := Lib.hid h
      clear h
      go_wp2_with fail
      go_ret
      exact ⟨⟨-1, rfl, by rw [Hp.out]; rfl⟩, hfr⟩

set_option maxHeartbeats 1000000 in
theorem c_contains (la : Option Addr) (lc : Nat) (cs : List Ct) (xs : List Value) (w : World) (hsh : ShFlat xs cs) (hpos : 0 < cs.length) (hmax : cs.length ≤ 100000)
    (hc : ∃ g off, la = some ⟨g, off, none⟩ ∧ ∀ j u, xs[j]? = some u → w.cell? ⟨g, off + j, none⟩ = some u) (hsm : ∀ d ∈ cs, SmallC 100000 d ∧ d.inner.length ≤ 100000) :
    Calls Tryz.prog 94 #[.slice la cs.length lc, .func (.func 96) #[] #[]] w fun e w' => e = .returned (.bool (!cs.all alike)) ∧ Fr No w w' := by
  have Hc := Lib.hid (c_index la lc cs xs w hsh hpos hmax hc hsm)
  clear hsh hpos hmax hc hsm
  go_enter Tryz.func94, Tryz.ntmps94
  go_wp2_with fail
  refine Hc.out.mono ?_
  rintro e w1 ⟨⟨r, rfl, hr⟩, hf1⟩
  have Hr := Lib.hid hr
  clear hr
  go_wp2_with fail
  go_ret
  exact ⟨ret_bool Hr.out, hf1⟩

set_option maxRecDepth 100000 in
set_option maxHeartbeats 1000000 in
theorem c_check (c : Ct) (X : Nat → Prop) (vs : Array Value) (w : World) (h : CAt w X vs c) (hc : c.count ≤ 10000) (hsm : ∀ d ∈ c.walk, SmallC 100000 d) :
    Calls Tryz.prog 66 #[.agg vs] w fun en w2 => en = .returned (.int .i64 (if c.valid = true then 0 else 70)) ∧ Fr No w w2 := by
  obtain ⟨rv, hrv⟩ : ∃ rv : Int, rv = if c.valid = true then 0 else 70 := ⟨_, rfl⟩
  rw [← hrv]
  have Hrv := Lib.hid hrv
  clear hrv
  have hsm2 : ∀ d ∈ c.walk, SmallC 100000 d ∧ d.inner.length ≤ 100000 := fun d hd => ⟨hsm d hd, by have := inner_len hd; omega⟩
  have Hsm := Lib.hid hsm2
  clear hsm hsm2
  have hin0 := h
  obtain ⟨k, i, l, s, t, e, n⟩ := c
  obtain ⟨a, cap, rfl, hin⟩ := h.inAt
  have hdc := depth_count (.mk k i l s t e n)
  have h0 : Fr No w (w.alloc (.cells #[.int .i64 k, .string i, .string l, .int .i64 s, .int .i64 t, .int .i64 e, .slice a n.length cap] 48)) := (Fr.refl _ _).alloc _
  have q1 := block_alloc w (.cells #[.int .i64 k, .string i, .string l, .int .i64 s, .int .i64 t, .int .i64 e, .slice a n.length cap] 48)
  obtain ⟨W0, hW0⟩ : ∃ W0, W0 = w.alloc (.cells #[.int .i64 k, .string i, .string l, .int .i64 s, .int .i64 t, .int .i64 e, .slice a n.length cap] 48) := ⟨_, rfl⟩
  rw [← hW0] at h0 q1
  have a0 : W0.cell? ⟨w.heap.size, 0, none⟩ = some (.int .i64 k) := cell_of_block q1 0
  have a1 : W0.cell? ⟨w.heap.size, 1, none⟩ = some (.string i) := cell_of_block q1 1
  have a2 : W0.cell? ⟨w.heap.size, 2, none⟩ = some (.string l) := cell_of_block q1 2
  have a3 : W0.cell? ⟨w.heap.size, 3, none⟩ = some (.int .i64 s) := cell_of_block q1 3
  have a4 : W0.cell? ⟨w.heap.size, 4, none⟩ = some (.int .i64 t) := cell_of_block q1 4
  have a5 : W0.cell? ⟨w.heap.size, 5, none⟩ = some (.int .i64 e) := cell_of_block q1 5
  have a6 : W0.cell? ⟨w.heap.size, 6, none⟩ = some (.slice a n.length cap) := cell_of_block q1 6
  have hc0 := hin0.no h0
  have H0 := Lib.hid h0
  clear h0 hin0 hin
  go_enter Tryz.func66, Tryz.ntmps66
  go_upto_region 1 with (fail)
  rw [← hW0]
  clear hW0
  go_wp2_with fail
  refine (c_depth hc0 hc).mono ?_
  rintro en w1 ⟨rfl, hf1⟩
  have hc1 := hc0.no hf1
  have q2 := hf1.heap q1 id
  have Hf1 := Lib.hid (H0.out.step hf1 (fun _ _ h => h))
  clear a0 a1 a2 a3 a4 a5 a6 q1 hf1 hc0
  have a0 : w1.cell? ⟨w.heap.size, 0, none⟩ = some (.int .i64 k) := cell_of_block q2 0
  have a1 : w1.cell? ⟨w.heap.size, 1, none⟩ = some (.string i) := cell_of_block q2 1
  have a2 : w1.cell? ⟨w.heap.size, 2, none⟩ = some (.string l) := cell_of_block q2 2
  have a3 : w1.cell? ⟨w.heap.size, 3, none⟩ = some (.int .i64 s) := cell_of_block q2 3
  have a4 : w1.cell? ⟨w.heap.size, 4, none⟩ = some (.int .i64 t) := cell_of_block q2 4
  have a5 : w1.cell? ⟨w.heap.size, 5, none⟩ = some (.int .i64 e) := cell_of_block q2 5
  have a6 : w1.cell? ⟨w.heap.size, 6, none⟩ = some (.slice a n.length cap) := cell_of_block q2 6
  by_cases hd : (Ct.mk k i l s t e n).depth ≤ 6
  · have hd' : ¬ (6 : Int) < ((Ct.mk k i l s t e n).depth : Int) := by omega
    have Hd := Lib.hid hd
    go_wp2_with fail
    obtain ⟨a', cap', ev, hin1⟩ := hc1.inAt
    cases ev
    refine (c_walk_n 10000 (by omega) k s t e i l n a cap _ _ (by rw [Ct.count] at hc; omega) hin1).mono ?_
    rintro en w2 ⟨⟨ar, cr, xs, rfl, hsh, hown⟩, hf2⟩
    have Hf2 := Lib.hid (Hf1.out.step hf2 (fun _ _ h => h))
    have hwl : (Ct.mk k i l s t e n).walk.length = Ct.counts n + 1 := by rw [walk_len, Ct.count]
    have hcl := own_cells hown (by omega)
    have hcon := c_contains ar cr (Ct.mk k i l s t e n).walk xs w2 hsh (by omega) (by rw [Ct.count] at hc; omega) hcl Hsm.out
    rw [hwl] at hcon
    have Hcon := Lib.hid hcon
    clear a0 a1 a2 a3 a4 a5 a6 hcon hcl hown hsh q2 hc1 hwl hin1
    generalize Ct.counts n + 1 = cn at *
    go_wp2_with fail
    refine Hcon.out.mono ?_
    · rintro e w3 ⟨rfl, hf3⟩
      have Hf3 := Lib.hid (Hf2.out.step hf3 (fun _ _ h => h))
      have Hv : Hid ((Ct.mk k i l s t e n).valid = (Ct.mk k i l s t e n).walk.all alike) := by unfold Hid Ct.valid; rw [good_walk, decide_eq_true Hd.out, Bool.true_and]
      cases hal : (Ct.mk k i l s t e n).walk.all alike with
      | true =>
        have Hal := Lib.hid hal
        clear hal
        go_wp2_with fail
        go_ret
        exact ⟨by rw [Hrv.out, Hv.out, Hal.out]; rfl, Hf3.out⟩
      | false =>
        have Hal := Lib.hid hal
        clear hal
        go_wp2_with fail
        go_ret
        exact ⟨by rw [Hrv.out, Hv.out, Hal.out]; rfl, Hf3.out⟩
  · have hd' : (6 : Int) < ((Ct.mk k i l s t e n).depth : Int) := by omega
    have Hv : Hid ((Ct.mk k i l s t e n).valid = false) := by unfold Hid Ct.valid; rw [decide_eq_false hd]; rfl
    go_wp2_with fail
    go_ret
    exact ⟨by rw [Hrv.out, Hv.out]; rfl, Hf1.out⟩
end Go.Proofs.YtcibciippghooaaGreatDoor
namespace Go.Proofs.YtcibciippghooaaGreatDoor
open Go.RowKit Go.Maps
set_option linter.unusedVariables false

/-- What Parse of s answers. -/
def PaRes (w : World) (s : ByteArray) (e : Ending) (w' : World) : Prop :=
  (∃ er : Int, parseC s = none ∧ er ≠ 0 ∧ e = .returned (.tuple #[.agg #[.int .i64 0, .string ⟨#[]⟩, .string ⟨#[]⟩, .int .i64 0, .int .i64 0, .int .i64 0, .slice none 0 0], .int .i64 er])) ∨
  (∃ vs c, parseC s = some c ∧ e = .returned (.tuple #[.agg vs, .int .i64 0]) ∧ CAt w' (From w.heap.size) vs c)
theorem parse_of {s : ByteArray} (hl : s.size ≤ 256) : parseC s = match pC (s.size + 1) (bl s) with | some (c, []) => if c.valid = true then some c else none | _ => none := by
  unfold parseC
  rw [if_neg (by show ¬ 256 < s.size; omega)]
  rfl

set_option maxRecDepth 100000 in
set_option maxHeartbeats 2000000 in
theorem c_parse (s : ByteArray) (w : World) (hE : Env w) (hs : s.size ≤ 100000) :
    Calls Tryz.prog 42 #[.string s] w fun en w2 => PaRes w s en w2 ∧ Fr No w w2 := by
  have h0 : Fr No w (w.alloc (.cells #[.int .i64 0, .string ⟨#[]⟩, .string ⟨#[]⟩, .int .i64 0, .int .i64 0, .int .i64 0, .slice none 0 0] 48)) := (Fr.refl _ _).alloc _
  have q0 := block_alloc w (.cells #[.int .i64 0, .string ⟨#[]⟩, .string ⟨#[]⟩, .int .i64 0, .int .i64 0, .int .i64 0, .slice none 0 0] 48)
  have hE0 := hE.no h0
  have h9 := hE.sz
  have hsz : w.heap.size < (w.alloc (.cells #[.int .i64 0, .string ⟨#[]⟩, .string ⟨#[]⟩, .int .i64 0, .int .i64 0, .int .i64 0, .slice none 0 0] 48)).heap.size := by simp
  obtain ⟨W0, hW0⟩ : ∃ W0, W0 = w.alloc (.cells #[.int .i64 0, .string ⟨#[]⟩, .string ⟨#[]⟩, .int .i64 0, .int .i64 0, .int .i64 0, .slice none 0 0] 48) := ⟨_, rfl⟩
  rw [← hW0] at h0 q0 hE0 hsz
  have H0 := Lib.hid h0
  clear h0 hE
  go_enter Tryz.func42, Tryz.ntmps42
  go_upto_region 1 with (fail)
  rw [← hW0]
  clear hW0
  by_cases hl : 256 < s.size
  · have hl' : (256 : Int) < (s.size : Int) := by omega
    have Hn : Hid (parseC s = none) := by unfold Hid parseC; rw [if_pos (show 256 < (bl s).length from hl)]
    have b0 : W0.cell? ⟨w.heap.size, 0, none⟩ = some (.int .i64 0) := cell_of_block q0 0
    have b1 : W0.cell? ⟨w.heap.size, 1, none⟩ = some (.string ⟨#[]⟩) := cell_of_block q0 1
    have b2 : W0.cell? ⟨w.heap.size, 2, none⟩ = some (.string ⟨#[]⟩) := cell_of_block q0 2
    have b3 : W0.cell? ⟨w.heap.size, 3, none⟩ = some (.int .i64 0) := cell_of_block q0 3
    have b4 : W0.cell? ⟨w.heap.size, 4, none⟩ = some (.int .i64 0) := cell_of_block q0 4
    have b5 : W0.cell? ⟨w.heap.size, 5, none⟩ = some (.int .i64 0) := cell_of_block q0 5
    have b6 : W0.cell? ⟨w.heap.size, 6, none⟩ = some (.slice none 0 0) := cell_of_block q0 6
    have f0 : W0.frozen? ⟨w.heap.size, 0, none⟩ = false := free_of_block q0 0
    have f1 : W0.frozen? ⟨w.heap.size, 1, none⟩ = false := free_of_block q0 1
    have f2 : W0.frozen? ⟨w.heap.size, 2, none⟩ = false := free_of_block q0 2
    have f3 : W0.frozen? ⟨w.heap.size, 3, none⟩ = false := free_of_block q0 3
    have f4 : W0.frozen? ⟨w.heap.size, 4, none⟩ = false := free_of_block q0 4
    have f5 : W0.frozen? ⟨w.heap.size, 5, none⟩ = false := free_of_block q0 5
    have f6 : W0.frozen? ⟨w.heap.size, 6, none⟩ = false := free_of_block q0 6
    have h7 := set7 q0 rfl (.int .i64 0) (.string ⟨#[]⟩) (.string ⟨#[]⟩) (.int .i64 0) (.int .i64 0) (.int .i64 0) (.slice none 0 0)
    have Hfin := Lib.hid (H0.out.step h7.2 (fun b hb h => by unfold Is at h; omega))
    have H72 := Lib.hid h7.2
    have Hq := Lib.hid h7.1
    clear h7
    go_wp2_with fail
    have y0 := cell_of_block Hq.out 0
    have y1 := cell_of_block Hq.out 1
    have y2 := cell_of_block Hq.out 2
    have y3 := cell_of_block Hq.out 3
    have y4 := cell_of_block Hq.out 4
    have y5 := cell_of_block Hq.out 5
    have y6 := cell_of_block Hq.out 6
    refine bodyPost_ret (v := .tuple #[.agg #[.int .i64 0, .string ⟨#[]⟩, .string ⟨#[]⟩, .int .i64 0, .int .i64 0, .int .i64 0, .slice none 0 0], .int .i64 71]) (by simp [results, Tryz.results42, go_sem, y0, y1, y2, y3, y4, y5, y6]) rfl ?_
    exact ⟨.inl ⟨71, Hn.out, by decide, rfl⟩, Hfin.out⟩
  · have hl' : ¬ (256 : Int) < (s.size : Int) := by omega
    have hx : Fr No W0 (W0.alloc (.cells #[.string s, .int .i64 0, .bool false] 106)) := (Fr.refl _ _).alloc _
    have q1 := block_alloc W0 (.cells #[.string s, .int .i64 0, .bool false] 106)
    have hsx : W0.heap.size < (W0.alloc (.cells #[.string s, .int .i64 0, .bool false] 106)).heap.size := by simp
    have q01 := hx.heap q0 id
    have hE1 := hE0.no hx
    have Hx := Lib.hid (H0.out.step hx (fun _ _ h => h))
    have hpo := parse_of (s := s) (by omega)
    clear q0 hE0 hx
    go_upto_region 4 with (fail)
    generalize W0.alloc (.cells #[.string s, .int .i64 0, .bool false] 106) = W1 at *
    have hcur : Cur W1 W0.heap.size s (bl s) false := ⟨0, q1, by omega, by simp [bl]⟩
    have hbl : (bl s).length = s.size := rfl
    have Hpo := Lib.hid hpo
    clear hpo q1
    go_wp2_with fail
    refine (c_content (s.size + 1) W0.heap.size s (bl s) _ (by omega) hcur (by omega) hE1 (by omega)).mono ?_
    rintro en w2 ⟨k, i, l, sl, t, le, a, m, c, r', bad', rfl, hr, hc2, hf2, hcase⟩
    have hs2 := hf2.size
    have q02 := hf2.heap q01 (fun h => by unfold Is at h; omega)
    have Hf2 := Lib.hid (Hx.out.step hf2 (fun b hb h => by unfold Is at h; omega))
    have hal : Fr No w2 (w2.alloc (.cells #[.int .i64 k, .string i, .string l, .int .i64 sl, .int .i64 t, .int .i64 le, .slice a m c] 48)) := (Fr.refl _ _).alloc _
    have q5 := block_alloc w2 (.cells #[.int .i64 k, .string i, .string l, .int .i64 sl, .int .i64 t, .int .i64 le, .slice a m c] 48)
    have hc3 := hc2.no hal
    have q03 := hal.heap q02 id
    have Hf3 := Lib.hid (Hf2.out.step hal (fun _ _ h => h))
    have Hcase : Hid ((bad' = true ∧ pC (s.size + 1) (bl s) = none) ∨ (bad' = false ∧ ∃ ct, pC (s.size + 1) (bl s) = some (ct, r') ∧ CAt (w2.alloc (.cells #[.int .i64 k, .string i, .string l, .int .i64 sl, .int .i64 t, .int .i64 le, .slice a m c] 48)) (fun b => w.heap.size < b) #[.int .i64 k, .string i, .string l, .int .i64 sl, .int .i64 t, .int .i64 le, .slice a m c] ct)) := by
      rcases hcase with h | ⟨h1, ct, h2, h3⟩
      · exact .inl h
      · exact .inr ⟨h1, ct, h2, (h3.no hal).mono (fun b _ h => by unfold From at *; omega)⟩
    clear hcase q01 q02 hc2 hf2 hal hcur hE1
    go_upto_region 5 with (fail)
    generalize w2.alloc (.cells #[.int .i64 k, .string i, .string l, .int .i64 sl, .int .i64 t, .int .i64 le, .slice a m c] 48) = W3 at *
    obtain ⟨at_, qp, hat, hdr⟩ := hc3.blk
    have p1 : W3.cell? ⟨W0.heap.size, 1, none⟩ = some (.int .i64 (at_ : Int)) := cell_of_block qp 1
    have p2 : W3.cell? ⟨W0.heap.size, 2, none⟩ = some (.bool bad') := cell_of_block qp 2
    cases bad' with
    | true =>
      have Hn : Hid (parseC s = none) := by
        unfold Hid
        rcases Hcase.out with ⟨_, h⟩ | ⟨h, _⟩
        · rw [Hpo.out, h]
        · cases h
      clear q5
      have b0 : W3.cell? ⟨w.heap.size, 0, none⟩ = some (.int .i64 0) := cell_of_block q03 0
      have b1 : W3.cell? ⟨w.heap.size, 1, none⟩ = some (.string ⟨#[]⟩) := cell_of_block q03 1
      have b2 : W3.cell? ⟨w.heap.size, 2, none⟩ = some (.string ⟨#[]⟩) := cell_of_block q03 2
      have b3 : W3.cell? ⟨w.heap.size, 3, none⟩ = some (.int .i64 0) := cell_of_block q03 3
      have b4 : W3.cell? ⟨w.heap.size, 4, none⟩ = some (.int .i64 0) := cell_of_block q03 4
      have b5 : W3.cell? ⟨w.heap.size, 5, none⟩ = some (.int .i64 0) := cell_of_block q03 5
      have b6 : W3.cell? ⟨w.heap.size, 6, none⟩ = some (.slice none 0 0) := cell_of_block q03 6
      have f0 : W3.frozen? ⟨w.heap.size, 0, none⟩ = false := free_of_block q03 0
      have f1 : W3.frozen? ⟨w.heap.size, 1, none⟩ = false := free_of_block q03 1
      have f2 : W3.frozen? ⟨w.heap.size, 2, none⟩ = false := free_of_block q03 2
      have f3 : W3.frozen? ⟨w.heap.size, 3, none⟩ = false := free_of_block q03 3
      have f4 : W3.frozen? ⟨w.heap.size, 4, none⟩ = false := free_of_block q03 4
      have f5 : W3.frozen? ⟨w.heap.size, 5, none⟩ = false := free_of_block q03 5
      have f6 : W3.frozen? ⟨w.heap.size, 6, none⟩ = false := free_of_block q03 6
      have h7 := set7 q03 rfl (.int .i64 0) (.string ⟨#[]⟩) (.string ⟨#[]⟩) (.int .i64 0) (.int .i64 0) (.int .i64 0) (.slice none 0 0)
      have Hfin := Lib.hid (Hf3.out.step h7.2 (fun b hb h => by unfold Is at h; omega))
      have H72 := Lib.hid h7.2
      have Hq := Lib.hid h7.1
      clear h7
      go_wp2_with fail
      have y0 := cell_of_block Hq.out 0
      have y1 := cell_of_block Hq.out 1
      have y2 := cell_of_block Hq.out 2
      have y3 := cell_of_block Hq.out 3
      have y4 := cell_of_block Hq.out 4
      have y5 := cell_of_block Hq.out 5
      have y6 := cell_of_block Hq.out 6
      refine bodyPost_ret (v := .tuple #[.agg #[.int .i64 0, .string ⟨#[]⟩, .string ⟨#[]⟩, .int .i64 0, .int .i64 0, .int .i64 0, .slice none 0 0], .int .i64 70]) (by simp [results, Tryz.results42, go_sem, y0, y1, y2, y3, y4, y5, y6]) rfl ?_
      exact ⟨.inl ⟨70, Hn.out, by decide, rfl⟩, Hfin.out⟩
    | false =>
      have Hc2 : Hid (∃ ct, pC (s.size + 1) (bl s) = some (ct, r') ∧ CAt W3 (fun b => w.heap.size < b) #[.int .i64 k, .string i, .string l, .int .i64 sl, .int .i64 t, .int .i64 le, .slice a m c] ct) := by
        rcases Hcase.out with ⟨h, _⟩ | ⟨_, h⟩
        · cases h
        · exact h
      by_cases hae : at_ = s.size
      · have hae' : (at_ : Int) = (s.size : Int) := by omega
        have hr0 : r' = [] := by rw [← hdr, hae]; exact List.drop_eq_nil_of_le (Nat.le_refl _)
        obtain ⟨ct, hpc, hca⟩ := Hc2.out
        rw [hr0] at hpc
        have hcnt := (p_count _).1 _ _ _ hpc
        have hsm : ∀ d ∈ ct.walk, SmallC 100000 d := fun d hd => ((p_small _).1 _ _ _ hpc d hd).mono (by omega)
        have Hp : Hid (parseC s = if ct.valid = true then some ct else none) := by unfold Hid; rw [Hpo.out, hpc]
        have hck := c_check ct _ _ W3 hca (by simp at hcnt; omega) hsm
        obtain ⟨cv, hcv⟩ : ∃ cv, cv = ct.valid := ⟨_, rfl⟩
        rw [← hcv] at hck
        have Hcv := Lib.hid hcv
        have Hca := Lib.hid hca
        have a0 : W3.cell? ⟨w2.heap.size, 0, none⟩ = some (.int .i64 k) := cell_of_block q5 0
        have a1 : W3.cell? ⟨w2.heap.size, 1, none⟩ = some (.string i) := cell_of_block q5 1
        have a2 : W3.cell? ⟨w2.heap.size, 2, none⟩ = some (.string l) := cell_of_block q5 2
        have a3 : W3.cell? ⟨w2.heap.size, 3, none⟩ = some (.int .i64 sl) := cell_of_block q5 3
        have a4 : W3.cell? ⟨w2.heap.size, 4, none⟩ = some (.int .i64 t) := cell_of_block q5 4
        have a5 : W3.cell? ⟨w2.heap.size, 5, none⟩ = some (.int .i64 le) := cell_of_block q5 5
        have a6 : W3.cell? ⟨w2.heap.size, 6, none⟩ = some (.slice a m c) := cell_of_block q5 6
        clear hpc hca hsm hcv qp hdr hc3
        go_wp2_with fail
        refine hck.mono ?_
        rintro en w4 ⟨rfl, hf4⟩
        have q04 := hf4.heap q03 id
        have q54 := hf4.heap q5 id
        have Hf4 := Lib.hid (Hf3.out.step hf4 (fun _ _ h => h))
        have Hca4 := Lib.hid (Hca.out.no hf4)
        clear a0 a1 a2 a3 a4 a5 a6 hck hf4 p1 p2 q03 q5
        cases cv with
        | true =>
          have Hp4 : Hid (parseC s = some ct) := by unfold Hid; rw [Hp.out, if_pos Hcv.out.symm]
          simp only [if_true]
          go_upto_region 7 with (fail)
          have a0 : w4.cell? ⟨w2.heap.size, 0, none⟩ = some (.int .i64 k) := cell_of_block q54 0
          have a1 : w4.cell? ⟨w2.heap.size, 1, none⟩ = some (.string i) := cell_of_block q54 1
          have a2 : w4.cell? ⟨w2.heap.size, 2, none⟩ = some (.string l) := cell_of_block q54 2
          have a3 : w4.cell? ⟨w2.heap.size, 3, none⟩ = some (.int .i64 sl) := cell_of_block q54 3
          have a4 : w4.cell? ⟨w2.heap.size, 4, none⟩ = some (.int .i64 t) := cell_of_block q54 4
          have a5 : w4.cell? ⟨w2.heap.size, 5, none⟩ = some (.int .i64 le) := cell_of_block q54 5
          have a6 : w4.cell? ⟨w2.heap.size, 6, none⟩ = some (.slice a m c) := cell_of_block q54 6
          have b0 : w4.cell? ⟨w.heap.size, 0, none⟩ = some (.int .i64 0) := cell_of_block q04 0
          have b1 : w4.cell? ⟨w.heap.size, 1, none⟩ = some (.string ⟨#[]⟩) := cell_of_block q04 1
          have b2 : w4.cell? ⟨w.heap.size, 2, none⟩ = some (.string ⟨#[]⟩) := cell_of_block q04 2
          have b3 : w4.cell? ⟨w.heap.size, 3, none⟩ = some (.int .i64 0) := cell_of_block q04 3
          have b4 : w4.cell? ⟨w.heap.size, 4, none⟩ = some (.int .i64 0) := cell_of_block q04 4
          have b5 : w4.cell? ⟨w.heap.size, 5, none⟩ = some (.int .i64 0) := cell_of_block q04 5
          have b6 : w4.cell? ⟨w.heap.size, 6, none⟩ = some (.slice none 0 0) := cell_of_block q04 6
          have f0 : w4.frozen? ⟨w.heap.size, 0, none⟩ = false := free_of_block q04 0
          have f1 : w4.frozen? ⟨w.heap.size, 1, none⟩ = false := free_of_block q04 1
          have f2 : w4.frozen? ⟨w.heap.size, 2, none⟩ = false := free_of_block q04 2
          have f3 : w4.frozen? ⟨w.heap.size, 3, none⟩ = false := free_of_block q04 3
          have f4 : w4.frozen? ⟨w.heap.size, 4, none⟩ = false := free_of_block q04 4
          have f5 : w4.frozen? ⟨w.heap.size, 5, none⟩ = false := free_of_block q04 5
          have f6 : w4.frozen? ⟨w.heap.size, 6, none⟩ = false := free_of_block q04 6
          have h7 := set7 q04 rfl (.int .i64 k) (.string i) (.string l) (.int .i64 sl) (.int .i64 t) (.int .i64 le) (.slice a m c)
          have Hfin := Lib.hid (Hf4.out.step h7.2 (fun b hb h => by unfold Is at h; omega))
          have H72 := Lib.hid h7.2
          have Hca5 := Lib.hid (((Hca4.out.fr h7.2 (fun b hb h => by unfold Is at h; omega)).mono (Y := From w.heap.size) (fun b _ h => by unfold From; omega)))
          have Hq := Lib.hid h7.1
          clear h7
          go_wp2_with fail
          have y0 := cell_of_block Hq.out 0
          have y1 := cell_of_block Hq.out 1
          have y2 := cell_of_block Hq.out 2
          have y3 := cell_of_block Hq.out 3
          have y4 := cell_of_block Hq.out 4
          have y5 := cell_of_block Hq.out 5
          have y6 := cell_of_block Hq.out 6
          refine bodyPost_ret (v := .tuple #[.agg #[.int .i64 k, .string i, .string l, .int .i64 sl, .int .i64 t, .int .i64 le, .slice a m c], .int .i64 0]) (by simp [results, Tryz.results42, go_sem, y0, y1, y2, y3, y4, y5, y6]) rfl ?_
          exact ⟨.inr ⟨_, ct, Hp4.out, rfl, Hca5.out⟩, Hfin.out⟩
        | false =>
          have Hn : Hid (parseC s = none) := by unfold Hid; rw [Hp.out, if_neg (by rw [← Hcv.out]; simp)]
          simp only [Bool.false_eq_true, if_false]
          clear q54
          have b0 : w4.cell? ⟨w.heap.size, 0, none⟩ = some (.int .i64 0) := cell_of_block q04 0
          have b1 : w4.cell? ⟨w.heap.size, 1, none⟩ = some (.string ⟨#[]⟩) := cell_of_block q04 1
          have b2 : w4.cell? ⟨w.heap.size, 2, none⟩ = some (.string ⟨#[]⟩) := cell_of_block q04 2
          have b3 : w4.cell? ⟨w.heap.size, 3, none⟩ = some (.int .i64 0) := cell_of_block q04 3
          have b4 : w4.cell? ⟨w.heap.size, 4, none⟩ = some (.int .i64 0) := cell_of_block q04 4
          have b5 : w4.cell? ⟨w.heap.size, 5, none⟩ = some (.int .i64 0) := cell_of_block q04 5
          have b6 : w4.cell? ⟨w.heap.size, 6, none⟩ = some (.slice none 0 0) := cell_of_block q04 6
          have f0 : w4.frozen? ⟨w.heap.size, 0, none⟩ = false := free_of_block q04 0
          have f1 : w4.frozen? ⟨w.heap.size, 1, none⟩ = false := free_of_block q04 1
          have f2 : w4.frozen? ⟨w.heap.size, 2, none⟩ = false := free_of_block q04 2
          have f3 : w4.frozen? ⟨w.heap.size, 3, none⟩ = false := free_of_block q04 3
          have f4 : w4.frozen? ⟨w.heap.size, 4, none⟩ = false := free_of_block q04 4
          have f5 : w4.frozen? ⟨w.heap.size, 5, none⟩ = false := free_of_block q04 5
          have f6 : w4.frozen? ⟨w.heap.size, 6, none⟩ = false := free_of_block q04 6
          have h7 := set7 q04 rfl (.int .i64 0) (.string ⟨#[]⟩) (.string ⟨#[]⟩) (.int .i64 0) (.int .i64 0) (.int .i64 0) (.slice none 0 0)
          have Hfin := Lib.hid (Hf4.out.step h7.2 (fun b hb h => by unfold Is at h; omega))
          have H72 := Lib.hid h7.2
          have Hq := Lib.hid h7.1
          clear h7
          go_wp2_with fail
          have y0 := cell_of_block Hq.out 0
          have y1 := cell_of_block Hq.out 1
          have y2 := cell_of_block Hq.out 2
          have y3 := cell_of_block Hq.out 3
          have y4 := cell_of_block Hq.out 4
          have y5 := cell_of_block Hq.out 5
          have y6 := cell_of_block Hq.out 6
          refine bodyPost_ret (v := .tuple #[.agg #[.int .i64 0, .string ⟨#[]⟩, .string ⟨#[]⟩, .int .i64 0, .int .i64 0, .int .i64 0, .slice none 0 0], .int .i64 70]) (by simp [results, Tryz.results42, go_sem, y0, y1, y2, y3, y4, y5, y6]) rfl ?_
          exact ⟨.inl ⟨70, Hn.out, by decide, rfl⟩, Hfin.out⟩
      · have hae' : ¬ (at_ : Int) = (s.size : Int) := by omega
        have Hn : Hid (parseC s = none) := by
          unfold Hid
          obtain ⟨ct, hpc, hca⟩ := Hc2.out
          rw [Hpo.out, hpc]
          cases hr0 : r' with
          | cons x y => rfl
          | nil =>
            have h : (s.data.toList.drop at_).length = 0 := by rw [hdr, hr0]; rfl
            have h2 : s.data.toList.length = s.size := rfl
            rw [List.length_drop, h2] at h
            omega
        clear q5
        have b0 : W3.cell? ⟨w.heap.size, 0, none⟩ = some (.int .i64 0) := cell_of_block q03 0
        have b1 : W3.cell? ⟨w.heap.size, 1, none⟩ = some (.string ⟨#[]⟩) := cell_of_block q03 1
        have b2 : W3.cell? ⟨w.heap.size, 2, none⟩ = some (.string ⟨#[]⟩) := cell_of_block q03 2
        have b3 : W3.cell? ⟨w.heap.size, 3, none⟩ = some (.int .i64 0) := cell_of_block q03 3
        have b4 : W3.cell? ⟨w.heap.size, 4, none⟩ = some (.int .i64 0) := cell_of_block q03 4
        have b5 : W3.cell? ⟨w.heap.size, 5, none⟩ = some (.int .i64 0) := cell_of_block q03 5
        have b6 : W3.cell? ⟨w.heap.size, 6, none⟩ = some (.slice none 0 0) := cell_of_block q03 6
        have f0 : W3.frozen? ⟨w.heap.size, 0, none⟩ = false := free_of_block q03 0
        have f1 : W3.frozen? ⟨w.heap.size, 1, none⟩ = false := free_of_block q03 1
        have f2 : W3.frozen? ⟨w.heap.size, 2, none⟩ = false := free_of_block q03 2
        have f3 : W3.frozen? ⟨w.heap.size, 3, none⟩ = false := free_of_block q03 3
        have f4 : W3.frozen? ⟨w.heap.size, 4, none⟩ = false := free_of_block q03 4
        have f5 : W3.frozen? ⟨w.heap.size, 5, none⟩ = false := free_of_block q03 5
        have f6 : W3.frozen? ⟨w.heap.size, 6, none⟩ = false := free_of_block q03 6
        have h7 := set7 q03 rfl (.int .i64 0) (.string ⟨#[]⟩) (.string ⟨#[]⟩) (.int .i64 0) (.int .i64 0) (.int .i64 0) (.slice none 0 0)
        have Hfin := Lib.hid (Hf3.out.step h7.2 (fun b hb h => by unfold Is at h; omega))
        have H72 := Lib.hid h7.2
        have Hq := Lib.hid h7.1
        clear h7
        go_wp2_with fail
        have y0 := cell_of_block Hq.out 0
        have y1 := cell_of_block Hq.out 1
        have y2 := cell_of_block Hq.out 2
        have y3 := cell_of_block Hq.out 3
        have y4 := cell_of_block Hq.out 4
        have y5 := cell_of_block Hq.out 5
        have y6 := cell_of_block Hq.out 6
        refine bodyPost_ret (v := .tuple #[.agg #[.int .i64 0, .string ⟨#[]⟩, .string ⟨#[]⟩, .int .i64 0, .int .i64 0, .int .i64 0, .slice none 0 0], .int .i64 70]) (by simp [results, Tryz.results42, go_sem, y0, y1, y2, y3, y4, y5, y6]) rfl ?_
        exact ⟨.inl ⟨70, Hn.out, by decide, rfl⟩, Hfin.out⟩
end Go.Proofs.YtcibciippghooaaGreatDoor
namespace Go.Proofs.YtcibciippghooaaGreatDoor
open Go.RowKit Go.Maps
set_option linter.unusedVariables false

/-- Block mb is a map[int]string: its look-up is g. -/
def SMap (w : World) (mb : Nat) (g : Int → Option ByteArray) (N : Nat) : Prop :=
  ∃ (D : DataW Unit) (n : Nat), n ≤ N ∧ w.ownsMap Tryz.prog 3 (plainElem Tryz.prog 9) mb n D ∧ (∀ x, has D (.int .i64 x) = (g x).isSome) ∧ ∀ x, D.atKey (.int .i64 x) (.lit (.string [])) = .lit (.string ((g x).getD ⟨#[]⟩).data.toList)
/-- Block mb is a map[int]int: its look-up is g. -/
def IMap (w : World) (mb : Nat) (g : Int → Option Int) (N : Nat) : Prop :=
  ∃ (D : DataW Unit) (n : Nat), n ≤ N ∧ w.ownsMap Tryz.prog 3 (plainElem Tryz.prog 3) mb n D ∧ (∀ x, has D (.int .i64 x) = (g x).isSome) ∧ ∀ x, D.atKey (.int .i64 x) (.lit (.int .i64 0)) = .lit (.int .i64 ((g x).getD 0))
theorem SMap.lt {w : World} {mb : Nat} {g : Int → Option ByteArray} {N : Nat} (h : SMap w mb g N) : mb < w.heap.size := by obtain ⟨D, n, _, ho, _⟩ := h; exact ho.lt
theorem IMap.lt {w : World} {mb : Nat} {g : Int → Option Int} {N : Nat} (h : IMap w mb g N) : mb < w.heap.size := by obtain ⟨D, n, _, ho, _⟩ := h; exact ho.lt
theorem SMap.fr {S : Nat → Prop} {w w' : World} {mb : Nat} {g : Int → Option ByteArray} {N : Nat} (h : SMap w mb g N) (hf : Fr S w w') (hS : ¬ S mb) : SMap w' mb g N := by
  obtain ⟨D, n, hn, ho, r⟩ := h; exact ⟨D, n, hn, hf.ownsMap ho hS, r⟩
theorem IMap.fr {S : Nat → Prop} {w w' : World} {mb : Nat} {g : Int → Option Int} {N : Nat} (h : IMap w mb g N) (hf : Fr S w w') (hS : ¬ S mb) : IMap w' mb g N := by
  obtain ⟨D, n, hn, ho, r⟩ := h; exact ⟨D, n, hn, hf.ownsMap ho hS, r⟩
theorem SMap.made (w : World) : SMap (w.alloc (.map #[] 0)) w.heap.size (fun _ => none) 0 := ⟨.map [], 0, Nat.le_refl _, World.ownsMap_made _ _ _ _, fun _ => rfl, fun _ => rfl⟩
theorem IMap.made (w : World) : IMap (w.alloc (.map #[] 0)) w.heap.size (fun _ => none) 0 := ⟨.map [], 0, Nat.le_refl _, World.ownsMap_made _ _ _ _, fun _ => rfl, fun _ => rfl⟩
theorem zeroS (w : World) : (zeroValue 9).run Tryz.prog w = .ok (.string ⟨#[]⟩) w := by kernel_rfl
theorem zeroI (w : World) : (zeroValue 3).run Tryz.prog w = .ok (.int .i64 0) w := by kernel_rfl
theorem bytes_eq {s t : ByteArray} (h : s.data.toList = t.data.toList) : s = t := by
  cases s; cases t
  simp only at h
  congr 1
  exact Array.toList_inj.1 h

theorem wp_smap {w : World} {ops : Array Oper} {rest : List Oper} {o : Oper} {a : Act} {Q : Exit → Act → World → Prop} (hg : o.guard = none) (m x : Operand) (t : TypeId) (hop : o.op = Op.lookup t m x false) (ht : Tryz.prog.underlying t = some (.map 3 9))
    (mb : Nat) (g : Int → Option ByteArray) (N : Nat) (k : Int) (hk : (Lit.int .i64 k).wf = true) (hm : a.eval m = .map (some mb)) (hown : SMap w mb g N) (hx : a.eval x = .int .i64 k)
    (hK : wpList Tryz.prog ops Q rest (a.put o.dst (.string ((g k).getD ⟨#[]⟩))) w) : wpList Tryz.prog ops Q (o :: rest) a w := by
  obtain ⟨D, n, _, ho, _, h2⟩ := hown
  refine wpList_plain hg fun K' hK' => ?_
  obtain ⟨v, ps, hrun, hv⟩ := ho.lookup lawI ht (zeroS w) (plainElem_string Tryz.underlying9 (by unfold maxLen; show 0 ≤ _; omega)) (keyOf_int_mk Tryz.underlying3 hk)
  obtain ⟨s, rfl, hs, _⟩ := plainElem_string_inv Tryz.underlying9 hv
  simp only [Prod.mk.injEq] at hs
  have e := (h2 k).symm.trans hs.1
  obtain rfl : s = (g k).getD ⟨#[]⟩ := bytes_eq (by simpa using e.symm)
  unfold Oper.wp
  simp [execOp, hop, hm, hx, hrun, Result.andThen]
  exact hK' _ _ hK
theorem wp_smap_ok {w : World} {ops : Array Oper} {rest : List Oper} {o : Oper} {a : Act} {Q : Exit → Act → World → Prop} (hg : o.guard = none) (m x : Operand) (t : TypeId) (hop : o.op = Op.lookup t m x true) (ht : Tryz.prog.underlying t = some (.map 3 9))
    (mb : Nat) (g : Int → Option ByteArray) (N : Nat) (k : Int) (hk : (Lit.int .i64 k).wf = true) (hm : a.eval m = .map (some mb)) (hown : SMap w mb g N) (hx : a.eval x = .int .i64 k)
    (hK : wpList Tryz.prog ops Q rest (a.put o.dst (.tuple #[.string ((g k).getD ⟨#[]⟩), .bool (g k).isSome])) w) : wpList Tryz.prog ops Q (o :: rest) a w := by
  obtain ⟨D, n, _, ho, h1, h2⟩ := hown
  refine wpList_lookup_own_ok w hg m x t hop 3 9 lawI ht _ (zeroS w) (.lit (.string [])) [] (plainElem_string Tryz.underlying9 (by unfold maxLen; show 0 ≤ _; omega)) mb n D hm ho _ _ hx (keyOf_int_mk Tryz.underlying3 hk) (fun v ps hv => ?_)
  obtain ⟨s, rfl, hs, _⟩ := plainElem_string_inv Tryz.underlying9 hv
  simp only [Prod.mk.injEq] at hs
  have e := (h2 k).symm.trans hs.1
  obtain rfl : s = (g k).getD ⟨#[]⟩ := bytes_eq (by simpa using e.symm)
  rw [h1]; exact hK
theorem wp_imap_ok {w : World} {ops : Array Oper} {rest : List Oper} {o : Oper} {a : Act} {Q : Exit → Act → World → Prop} (hg : o.guard = none) (m x : Operand) (t : TypeId) (hop : o.op = Op.lookup t m x true) (ht : Tryz.prog.underlying t = some (.map 3 3))
    (mb : Nat) (g : Int → Option Int) (N : Nat) (k : Int) (hk : (Lit.int .i64 k).wf = true) (hm : a.eval m = .map (some mb)) (hown : IMap w mb g N) (hx : a.eval x = .int .i64 k)
    (hK : wpList Tryz.prog ops Q rest (a.put o.dst (.tuple #[.int .i64 ((g k).getD 0), .bool (g k).isSome])) w) : wpList Tryz.prog ops Q (o :: rest) a w := by
  obtain ⟨D, n, _, ho, h1, h2⟩ := hown
  refine wpList_lookup_own_ok_int w hg m x t hop 3 3 .i64 lawI ht Tryz.underlying3 (zeroI w) mb n D hm ho _ _ hx (keyOf_int_mk Tryz.underlying3 hk) (fun c hc _ => ?_)
  have e := (h2 k).symm.trans hc
  obtain rfl : c = (g k).getD 0 := by simpa using e.symm
  rw [h1]; exact hK

def updO {α : Type} (g : Int → Option α) (x : Int) (v : α) : Int → Option α := fun y => if y = x then some v else g y
theorem SMap.put {w w1 : World} {mb : Nat} {D : DataW Unit} {n N : Nat} {g : Int → Option ByteArray} (hn : n ≤ N) (ho : w.ownsMap Tryz.prog 3 (plainElem Tryz.prog 9) mb n D) (h1 : ∀ x, has D (.int .i64 x) = (g x).isSome) (h2 : ∀ x, D.atKey (.int .i64 x) (.lit (.string [])) = .lit (.string ((g x).getD ⟨#[]⟩).data.toList))
    (x : Int) (s : ByteArray) (ho1 : w1.ownsMap Tryz.prog 3 (plainElem Tryz.prog 9) mb (n + 1) (D.put (.int .i64 x) (.lit (.string s.data.toList)))) : SMap w1 mb (updO g x s) (N + 1) := by
  refine ⟨_, n + 1, by omega, ho1, fun y => ?_, fun y => ?_⟩
  · unfold updO
    split
    · rename_i e; subst e; rw [has_put_same ho.isMap (isKeyInt _) _]; rfl
    · rename_i e; rw [has_put_other (by intro e'; exact e (by simpa using e'))]; exact h1 y
  · unfold updO
    split
    · rename_i e; subst e; rw [atKey_put_same ho.isMap (isKeyInt _) _ _]; rfl
    · rename_i e; rw [atKey_put_other (by intro e'; exact e (by simpa using e'))]; exact h2 y
theorem IMap.put {w w1 : World} {mb : Nat} {D : DataW Unit} {n N : Nat} {g : Int → Option Int} (hn : n ≤ N) (ho : w.ownsMap Tryz.prog 3 (plainElem Tryz.prog 3) mb n D) (h1 : ∀ x, has D (.int .i64 x) = (g x).isSome) (h2 : ∀ x, D.atKey (.int .i64 x) (.lit (.int .i64 0)) = .lit (.int .i64 ((g x).getD 0)))
    (x v : Int) (ho1 : w1.ownsMap Tryz.prog 3 (plainElem Tryz.prog 3) mb (n + 1) (D.put (.int .i64 x) (.lit (.int .i64 v)))) : IMap w1 mb (updO g x v) (N + 1) := by
  refine ⟨_, n + 1, by omega, ho1, fun y => ?_, fun y => ?_⟩
  · unfold updO
    split
    · rename_i e; subst e; rw [has_put_same ho.isMap (isKeyInt _) _]; rfl
    · rename_i e; rw [has_put_other (by intro e'; exact e (by simpa using e'))]; exact h1 y
  · unfold updO
    split
    · rename_i e; subst e; rw [atKey_put_same ho.isMap (isKeyInt _) _ _]; rfl
    · rename_i e; rw [atKey_put_other (by intro e'; exact e (by simpa using e'))]; exact h2 y
end Go.Proofs.YtcibciippghooaaGreatDoor
