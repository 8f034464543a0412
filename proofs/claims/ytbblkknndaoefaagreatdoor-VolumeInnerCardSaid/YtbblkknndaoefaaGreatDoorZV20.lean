/- Check of a content. Parse of a text. Maps of ints and of strings, keyed by ints, that the call made. tree.look, tree.Origin. tree.Origin, the view's find. -/
import Derived.Test.YtbblkknndaoefaaGreatDoorZV19
import Derived.Test.YtbblkknndaoefaaGreatDoorZV1
import Derived.Maps.StringElems
import Derived.Test.YtbblkknndaoefaaGreatDoorZV8
import Derived.Test.YtbblkknndaoefaaGreatDoorZV2
import Derived.Test.YtbblkknndaoefaaGreatDoorStrs
namespace Go.Proofs.YtbblkknndaoefaaGreatDoor
open Go.RowKit Go.Maps
set_option linter.unusedVariables false

theorem own_cells {w : World} {base : Nat} {ty : TypeId} {sz : Nat} {a : Option Addr} {n c m : Nat} {xs : List Value} (h : w.ownsRow base ty sz (.slice a n c) m xs) (hm : 0 < m) : ∃ g off, a = some ⟨g, off, none⟩ ∧ ∀ j u, xs[j]? = some u → w.cell? ⟨g, off + j, none⟩ = some u := by
  have hs := own_src h
  obtain ⟨_, ⟨h1, h2⟩ | ⟨g, cap, cur, h1, _⟩⟩ := h
  · omega
  · cases h1
    refine ⟨g, 0, rfl, fun j u hu => ?_⟩
    have := hs _ rfl j u hu
    rwa [Addr.add_lit] at this

set_option maxRecDepth 100000 in
set_option maxHeartbeats 1000000 in
theorem c_check1 (k s t e : Int) (i l : ByteArray) (n : List Ct) (a : Option Addr) (cap : Nat) (w : World) (hn : n.length ≤ 100000) (his : i.size ≤ 100000) (hls : l.size ≤ 100000) :
    Calls Tryz.prog 122 #[.agg #[.int .i64 k, .string i, .string l, .int .i64 s, .int .i64 t, .int .i64 e, .slice a n.length cap]] w fun en w2 => en = .returned (.bool (!alike (.mk k i l s t e n))) ∧ Fr No w w2 := by
  have h0 : Fr No w (w.alloc (.cells #[.int .i64 k, .string i, .string l, .int .i64 s, .int .i64 t, .int .i64 e, .slice a n.length cap] 54)) := (Fr.refl _ _).alloc _
  have H0 := Lib.hid h0
  go_enter Tryz.func122, Tryz.ntmps122
  clear h0
  go_wp2_with fail
  refine (c_alike k s t e i l n a cap _ hn his hls).mono ?_
  rintro en w1 ⟨rfl, hf1⟩
  have Hf := Lib.hid (H0.out.step hf1 (fun _ _ h => h))
  clear hf1
  go_wp2_with fail
  go_ret
  exact ⟨rfl, Hf.out⟩

set_option maxRecDepth 100000 in
set_option maxHeartbeats 1000000 in
theorem c_index (la : Option Addr) (lc : Nat) (cs : List Ct) (xs : List Value) (w : World) (hsh : ShFlat xs cs) (hpos : 0 < cs.length) (hmax : cs.length ≤ 100000)
    (hc : ∃ g off, la = some ⟨g, off, none⟩ ∧ ∀ j u, xs[j]? = some u → w.cell? ⟨g, off + j, none⟩ = some u) (hsm : ∀ d ∈ cs, SmallC 100000 d ∧ d.inner.length ≤ 100000) :
    Calls Tryz.prog 144 #[.slice la cs.length lc, .func (.func 122) #[] #[]] w fun e w' => (∃ r : Int, e = .returned (.int .i64 r) ∧ decide (0 ≤ r) = !cs.all alike) ∧ Fr No w w' := by
  obtain ⟨g, off, rfl, hcell⟩ := hc
  have Hcell := Lib.hid hcell
  clear hcell
  go_enter Tryz.func144, Tryz.ntmps144
  go_wp2_with fail
  go_loopw [8] (fun x wr => ∃ j : Nat, j ≤ cs.length ∧ x = .int .i64 (j : Int) ∧ Hid ((cs.take j).all alike = true) ∧ Fr No w wr) (fun x _ => cs.length - (intOf x).toNat)
  case atStart => exact ⟨0, by omega, rfl, by unfold Hid; simp, Fr.refl _ _⟩
  case round =>
    obtain ⟨j, hj, rfl, hno, hfr⟩ := hrel
    by_cases hlt : j < cs.length
    · have hlt' : (j : Int) < cs.length := by omega
      obtain ⟨d, hd⟩ : ∃ d, cs[j]? = some d := ⟨_, List.getElem?_eq_getElem hlt⟩
      have Hmem := Lib.hid (List.mem_of_getElem? hd)
      have Htk : Hid (cs.take (j + 1) = cs.take j ++ [d]) := by unfold Hid; rw [List.take_add_one, hd]; rfl
      obtain ⟨⟨hs1, hs2⟩, hs3⟩ := hsm d Hmem.out
      obtain ⟨k, i, l, s, t, e, n⟩ := d
      obtain ⟨a, cap, h7⟩ := hsh.at hd
      have y0 : wr.cell? ⟨g, off + j * 7, none⟩ = some (.int .i64 k) := hfr.cell (Hcell.out (j * 7 + 0) _ (h7 0 (by omega))) id
      have y1 : wr.cell? ⟨g, off + j * 7 + 1, none⟩ = some (.string i) := hfr.cell (Hcell.out (j * 7 + 1) _ (h7 1 (by omega))) id
      have y2 : wr.cell? ⟨g, off + j * 7 + 2, none⟩ = some (.string l) := hfr.cell (Hcell.out (j * 7 + 2) _ (h7 2 (by omega))) id
      have y3 : wr.cell? ⟨g, off + j * 7 + 3, none⟩ = some (.int .i64 s) := hfr.cell (Hcell.out (j * 7 + 3) _ (h7 3 (by omega))) id
      have y4 : wr.cell? ⟨g, off + j * 7 + 4, none⟩ = some (.int .i64 t) := hfr.cell (Hcell.out (j * 7 + 4) _ (h7 4 (by omega))) id
      have y5 : wr.cell? ⟨g, off + j * 7 + 5, none⟩ = some (.int .i64 e) := hfr.cell (Hcell.out (j * 7 + 5) _ (h7 5 (by omega))) id
      have y6 : wr.cell? ⟨g, off + j * 7 + 6, none⟩ = some (.slice a n.length cap) := hfr.cell (Hcell.out (j * 7 + 6) _ (h7 6 (by omega))) id
      clear hd h7
      go_wp2_with fail
      refine (c_check1 k s t e i l n a cap _ hs3 hs1 hs2).mono ?_
      rintro en w1 ⟨rfl, hf1⟩
      have hfr1 := hfr.step hf1 (fun _ _ h => h)
      clear y0 y1 y2 y3 y4 y5 y6 hf1
      cases hp : alike (.mk k i l s t e n)
      · have Hr : Hid (cs.all alike = false) := by unfold Hid; rw [List.all_eq_false]; exact ⟨_, Hmem.out, by rw [hp]; simp⟩
        clear hp
        go_wp2_with fail
        go_ret
        exact ⟨⟨(j : Int), rfl, by rw [Hr.out]; simp⟩, hfr1⟩
      · have Hn : Hid ((cs.take (j + 1)).all alike = true) := by unfold Hid; rw [Htk.out, List.all_append, hno.out]; simp [hp]
        clear hp
        go_wp2_with fail
        go_roundw
        case rel => exact ⟨j + 1, by omega, by go_num, Hn, hfr1⟩
        case measure => simp [intOf]; omega
    · have h := hno.out
      rw [List.take_of_length_le (by omega)] at h
      have Hp := Lib.hid h
      clear h
      go_wp2_with fail
      go_ret
      exact ⟨⟨-1, rfl, by rw [Hp.out]; rfl⟩, hfr⟩

set_option maxHeartbeats 1000000 in
theorem c_contains (la : Option Addr) (lc : Nat) (cs : List Ct) (xs : List Value) (w : World) (hsh : ShFlat xs cs) (hpos : 0 < cs.length) (hmax : cs.length ≤ 100000)
    (hc : ∃ g off, la = some ⟨g, off, none⟩ ∧ ∀ j u, xs[j]? = some u → w.cell? ⟨g, off + j, none⟩ = some u) (hsm : ∀ d ∈ cs, SmallC 100000 d ∧ d.inner.length ≤ 100000) :
    Calls Tryz.prog 120 #[.slice la cs.length lc, .func (.func 122) #[] #[]] w fun e w' => e = .returned (.bool (!cs.all alike)) ∧ Fr No w w' := by
  have Hc := Lib.hid (c_index la lc cs xs w hsh hpos hmax hc hsm)
  clear hsh hpos hmax hc hsm
  go_enter Tryz.func120, Tryz.ntmps120
  go_wp2_with fail
  refine Hc.out.mono ?_
  rintro e w1 ⟨⟨r, rfl, hr⟩, hf1⟩
  have Hr := Lib.hid hr
  clear hr
  go_wp2_with fail
  go_ret
  exact ⟨ret_bool Hr.out, hf1⟩

set_option maxRecDepth 100000 in
set_option maxHeartbeats 1000000 in
theorem c_check (c : Ct) (X : Nat → Prop) (vs : Array Value) (w : World) (h : CAt w X vs c) (hc : c.count ≤ 10000) (hsm : ∀ d ∈ c.walk, SmallC 100000 d) :
    Calls Tryz.prog 86 #[.agg vs] w fun en w2 => en = .returned (.int .i64 (if c.valid = true then 0 else 70)) ∧ Fr No w w2 := by
  obtain ⟨rv, hrv⟩ : ∃ rv : Int, rv = if c.valid = true then 0 else 70 := ⟨_, rfl⟩
  rw [← hrv]
  have Hrv := Lib.hid hrv
  clear hrv
  have hsm2 : ∀ d ∈ c.walk, SmallC 100000 d ∧ d.inner.length ≤ 100000 := fun d hd => ⟨hsm d hd, by have := inner_len hd; omega⟩
  have Hsm := Lib.hid hsm2
  clear hsm hsm2
  have hin0 := h
  obtain ⟨k, i, l, s, t, e, n⟩ := c
  obtain ⟨a, cap, rfl, hin⟩ := h.inAt
  have hdc := depth_count (.mk k i l s t e n)
  have h0 : Fr No w (w.alloc (.cells #[.int .i64 k, .string i, .string l, .int .i64 s, .int .i64 t, .int .i64 e, .slice a n.length cap] 54)) := (Fr.refl _ _).alloc _
  have q1 := block_alloc w (.cells #[.int .i64 k, .string i, .string l, .int .i64 s, .int .i64 t, .int .i64 e, .slice a n.length cap] 54)
  obtain ⟨W0, hW0⟩ : ∃ W0, W0 = w.alloc (.cells #[.int .i64 k, .string i, .string l, .int .i64 s, .int .i64 t, .int .i64 e, .slice a n.length cap] 54) := ⟨_, rfl⟩
  rw [← hW0] at h0 q1
  have a0 : W0.cell? ⟨w.heap.size, 0, none⟩ = some (.int .i64 k) := cell_of_block q1 0
  have a1 : W0.cell? ⟨w.heap.size, 1, none⟩ = some (.string i) := cell_of_block q1 1
  have a2 : W0.cell? ⟨w.heap.size, 2, none⟩ = some (.string l) := cell_of_block q1 2
  have a3 : W0.cell? ⟨w.heap.size, 3, none⟩ = some (.int .i64 s) := cell_of_block q1 3
  have a4 : W0.cell? ⟨w.heap.size, 4, none⟩ = some (.int .i64 t) := cell_of_block q1 4
  have a5 : W0.cell? ⟨w.heap.size, 5, none⟩ = some (.int .i64 e) := cell_of_block q1 5
  have a6 : W0.cell? ⟨w.heap.size, 6, none⟩ = some (.slice a n.length cap) := cell_of_block q1 6
  have hc0 := hin0.no h0
  have H0 := Lib.hid h0
  clear h0 hin0 hin
  go_enter Tryz.func86, Tryz.ntmps86
  go_upto_region 1 with (fail)
  rw [← hW0]
  clear hW0
  go_wp2_with fail
  refine (c_depth hc0 hc).mono ?_
  rintro en w1 ⟨rfl, hf1⟩
  have hc1 := hc0.no hf1
  have q2 := hf1.heap q1 id
  have Hf1 := Lib.hid (H0.out.step hf1 (fun _ _ h => h))
  clear a0 a1 a2 a3 a4 a5 a6 q1 hf1 hc0
  have a0 : w1.cell? ⟨w.heap.size, 0, none⟩ = some (.int .i64 k) := cell_of_block q2 0
  have a1 : w1.cell? ⟨w.heap.size, 1, none⟩ = some (.string i) := cell_of_block q2 1
  have a2 : w1.cell? ⟨w.heap.size, 2, none⟩ = some (.string l) := cell_of_block q2 2
  have a3 : w1.cell? ⟨w.heap.size, 3, none⟩ = some (.int .i64 s) := cell_of_block q2 3
  have a4 : w1.cell? ⟨w.heap.size, 4, none⟩ = some (.int .i64 t) := cell_of_block q2 4
  have a5 : w1.cell? ⟨w.heap.size, 5, none⟩ = some (.int .i64 e) := cell_of_block q2 5
  have a6 : w1.cell? ⟨w.heap.size, 6, none⟩ = some (.slice a n.length cap) := cell_of_block q2 6
  by_cases hd : (Ct.mk k i l s t e n).depth ≤ 6
  · have hd' : ¬ (6 : Int) < ((Ct.mk k i l s t e n).depth : Int) := by omega
    have Hd := Lib.hid hd
    go_wp2_with fail
    obtain ⟨a', cap', ev, hin1⟩ := hc1.inAt
    cases ev
    refine (c_walk_n 10000 (by omega) k s t e i l n a cap _ _ (by rw [Ct.count] at hc; omega) hin1).mono ?_
    rintro en w2 ⟨⟨ar, cr, xs, rfl, hsh, hown⟩, hf2⟩
    have Hf2 := Lib.hid (Hf1.out.step hf2 (fun _ _ h => h))
    have hwl : (Ct.mk k i l s t e n).walk.length = Ct.counts n + 1 := by rw [walk_len, Ct.count]
    have hcl := own_cells hown (by omega)
    have hcon := c_contains ar cr (Ct.mk k i l s t e n).walk xs w2 hsh (by omega) (by rw [Ct.count] at hc; omega) hcl Hsm.out
    rw [hwl] at hcon
    have Hcon := Lib.hid hcon
    clear a0 a1 a2 a3 a4 a5 a6 hcon hcl hown hsh q2 hc1 hwl hin1
    generalize Ct.counts n + 1 = cn at *
    go_wp2_with fail
    refine Hcon.out.mono ?_
    · rintro e w3 ⟨rfl, hf3⟩
      have Hf3 := Lib.hid (Hf2.out.step hf3 (fun _ _ h => h))
      have Hv : Hid ((Ct.mk k i l s t e n).valid = (Ct.mk k i l s t e n).walk.all alike) := by unfold Hid Ct.valid; rw [good_walk, decide_eq_true Hd.out, Bool.true_and]
      cases hal : (Ct.mk k i l s t e n).walk.all alike with
      | true =>
        have Hal := Lib.hid hal
        clear hal
        go_wp2_with fail
        go_ret
        exact ⟨by rw [Hrv.out, Hv.out, Hal.out]; rfl, Hf3.out⟩
      | false =>
        have Hal := Lib.hid hal
        clear hal
        go_wp2_with fail
        go_ret
        exact ⟨by rw [Hrv.out, Hv.out, Hal.out]; rfl, Hf3.out⟩
  · have hd' : (6 : Int) < ((Ct.mk k i l s t e n).depth : Int) := by omega
    have Hv : Hid ((Ct.mk k i l s t e n).valid = false) := by unfold Hid Ct.valid; rw [decide_eq_false hd]; rfl
    go_wp2_with fail
    go_ret
    exact ⟨by rw [Hrv.out, Hv.out]; rfl, Hf1.out⟩
end Go.Proofs.YtbblkknndaoefaaGreatDoor
namespace Go.Proofs.YtbblkknndaoefaaGreatDoor
open Go.RowKit Go.Maps
set_option linter.unusedVariables false

/-- What Parse of s answers. -/
def PaRes (w : World) (s : ByteArray) (e : Ending) (w' : World) : Prop :=
  (∃ er : Int, parseC s = none ∧ er ≠ 0 ∧ e = .returned (.tuple #[.agg #[.int .i64 0, .string ⟨#[]⟩, .string ⟨#[]⟩, .int .i64 0, .int .i64 0, .int .i64 0, .slice none 0 0], .int .i64 er])) ∨
  (∃ vs c, parseC s = some c ∧ e = .returned (.tuple #[.agg vs, .int .i64 0]) ∧ CAt w' (From w.heap.size) vs c)
theorem parse_of {s : ByteArray} (hl : s.size ≤ 256) : parseC s = match pC (s.size + 1) (bl s) with | some (c, []) => if c.valid = true then some c else none | _ => none := by
  unfold parseC
  rw [if_neg (by show ¬ 256 < s.size; omega)]
  rfl

set_option maxRecDepth 100000 in
set_option maxHeartbeats 2000000 in
theorem c_parse (s : ByteArray) (w : World) (ha : Ascii s) (hE : Env w) (hs : s.size ≤ 100000) :
    Calls Tryz.prog 38 #[.string s] w fun en w2 => PaRes w s en w2 ∧ Fr No w w2 := by
  have h0 : Fr No w (w.alloc (.cells #[.int .i64 0, .string ⟨#[]⟩, .string ⟨#[]⟩, .int .i64 0, .int .i64 0, .int .i64 0, .slice none 0 0] 54)) := (Fr.refl _ _).alloc _
  have q0 := block_alloc w (.cells #[.int .i64 0, .string ⟨#[]⟩, .string ⟨#[]⟩, .int .i64 0, .int .i64 0, .int .i64 0, .slice none 0 0] 54)
  have hE0 := hE.no h0
  have h9 := hE.sz
  have hsz : w.heap.size < (w.alloc (.cells #[.int .i64 0, .string ⟨#[]⟩, .string ⟨#[]⟩, .int .i64 0, .int .i64 0, .int .i64 0, .slice none 0 0] 54)).heap.size := by simp
  obtain ⟨W0, hW0⟩ : ∃ W0, W0 = w.alloc (.cells #[.int .i64 0, .string ⟨#[]⟩, .string ⟨#[]⟩, .int .i64 0, .int .i64 0, .int .i64 0, .slice none 0 0] 54) := ⟨_, rfl⟩
  rw [← hW0] at h0 q0 hE0 hsz
  have H0 := Lib.hid h0
  clear h0 hE
  go_enter Tryz.func38, Tryz.ntmps38
  go_upto_region 1 with (fail)
  rw [← hW0]
  clear hW0
  by_cases hl : 256 < s.size
  · have hl' : (256 : Int) < (s.size : Int) := by omega
    have Hn : Hid (parseC s = none) := by unfold Hid parseC; rw [if_pos (show 256 < (bl s).length from hl)]
    have b0 : W0.cell? ⟨w.heap.size, 0, none⟩ = some (.int .i64 0) := cell_of_block q0 0
    have b1 : W0.cell? ⟨w.heap.size, 1, none⟩ = some (.string ⟨#[]⟩) := cell_of_block q0 1
    have b2 : W0.cell? ⟨w.heap.size, 2, none⟩ = some (.string ⟨#[]⟩) := cell_of_block q0 2
    have b3 : W0.cell? ⟨w.heap.size, 3, none⟩ = some (.int .i64 0) := cell_of_block q0 3
    have b4 : W0.cell? ⟨w.heap.size, 4, none⟩ = some (.int .i64 0) := cell_of_block q0 4
    have b5 : W0.cell? ⟨w.heap.size, 5, none⟩ = some (.int .i64 0) := cell_of_block q0 5
    have b6 : W0.cell? ⟨w.heap.size, 6, none⟩ = some (.slice none 0 0) := cell_of_block q0 6
    have f0 : W0.frozen? ⟨w.heap.size, 0, none⟩ = false := free_of_block q0 0
    have f1 : W0.frozen? ⟨w.heap.size, 1, none⟩ = false := free_of_block q0 1
    have f2 : W0.frozen? ⟨w.heap.size, 2, none⟩ = false := free_of_block q0 2
    have f3 : W0.frozen? ⟨w.heap.size, 3, none⟩ = false := free_of_block q0 3
    have f4 : W0.frozen? ⟨w.heap.size, 4, none⟩ = false := free_of_block q0 4
    have f5 : W0.frozen? ⟨w.heap.size, 5, none⟩ = false := free_of_block q0 5
    have f6 : W0.frozen? ⟨w.heap.size, 6, none⟩ = false := free_of_block q0 6
    have h7 := set7 q0 rfl (.int .i64 0) (.string ⟨#[]⟩) (.string ⟨#[]⟩) (.int .i64 0) (.int .i64 0) (.int .i64 0) (.slice none 0 0)
    have Hfin := Lib.hid (H0.out.step h7.2 (fun b hb h => by unfold Is at h; omega))
    have H72 := Lib.hid h7.2
    have Hq := Lib.hid h7.1
    clear h7
    go_wp2_with fail
    have y0 := cell_of_block Hq.out 0
    have y1 := cell_of_block Hq.out 1
    have y2 := cell_of_block Hq.out 2
    have y3 := cell_of_block Hq.out 3
    have y4 := cell_of_block Hq.out 4
    have y5 := cell_of_block Hq.out 5
    have y6 := cell_of_block Hq.out 6
    refine bodyPost_ret (v := .tuple #[.agg #[.int .i64 0, .string ⟨#[]⟩, .string ⟨#[]⟩, .int .i64 0, .int .i64 0, .int .i64 0, .slice none 0 0], .int .i64 71]) (by simp [results, Tryz.results38, go_sem, y0, y1, y2, y3, y4, y5, y6]) rfl ?_
    exact ⟨.inl ⟨71, Hn.out, by decide, rfl⟩, Hfin.out⟩
  · have hl' : ¬ (256 : Int) < (s.size : Int) := by omega
    have hx : Fr No W0 (W0.alloc (.cells #[.string s, .int .i64 0, .bool false] 116)) := (Fr.refl _ _).alloc _
    have q1 := block_alloc W0 (.cells #[.string s, .int .i64 0, .bool false] 116)
    have hsx : W0.heap.size < (W0.alloc (.cells #[.string s, .int .i64 0, .bool false] 116)).heap.size := by simp
    have q01 := hx.heap q0 id
    have hE1 := hE0.no hx
    have Hx := Lib.hid (H0.out.step hx (fun _ _ h => h))
    have hpo := parse_of (s := s) (by omega)
    clear q0 hE0 hx
    go_upto_region 4 with (fail)
    generalize W0.alloc (.cells #[.string s, .int .i64 0, .bool false] 116) = W1 at *
    have hcur : Cur W1 W0.heap.size s (bl s) false := ⟨0, q1, by omega, by simp [bl]⟩
    have hbl : (bl s).length = s.size := rfl
    have Hpo := Lib.hid hpo
    clear hpo q1
    go_wp2_with fail
    refine (c_content (s.size + 1) W0.heap.size s (bl s) _ (by omega) hcur ha (by omega) hE1 (by omega)).mono ?_
    rintro en w2 ⟨k, i, l, sl, t, le, a, m, c, r', bad', rfl, hr, hc2, hf2, hcase⟩
    have hs2 := hf2.size
    have q02 := hf2.heap q01 (fun h => by unfold Is at h; omega)
    have Hf2 := Lib.hid (Hx.out.step hf2 (fun b hb h => by unfold Is at h; omega))
    have hal : Fr No w2 (w2.alloc (.cells #[.int .i64 k, .string i, .string l, .int .i64 sl, .int .i64 t, .int .i64 le, .slice a m c] 54)) := (Fr.refl _ _).alloc _
    have q5 := block_alloc w2 (.cells #[.int .i64 k, .string i, .string l, .int .i64 sl, .int .i64 t, .int .i64 le, .slice a m c] 54)
    have hc3 := hc2.no hal
    have q03 := hal.heap q02 id
    have Hf3 := Lib.hid (Hf2.out.step hal (fun _ _ h => h))
    have Hcase : Hid ((bad' = true ∧ pC (s.size + 1) (bl s) = none) ∨ (bad' = false ∧ ∃ ct, pC (s.size + 1) (bl s) = some (ct, r') ∧ CAt (w2.alloc (.cells #[.int .i64 k, .string i, .string l, .int .i64 sl, .int .i64 t, .int .i64 le, .slice a m c] 54)) (fun b => w.heap.size < b) #[.int .i64 k, .string i, .string l, .int .i64 sl, .int .i64 t, .int .i64 le, .slice a m c] ct)) := by
      rcases hcase with h | ⟨h1, ct, h2, h3⟩
      · exact .inl h
      · exact .inr ⟨h1, ct, h2, (h3.no hal).mono (fun b _ h => by unfold From at *; omega)⟩
    clear hcase q01 q02 hc2 hf2 hal hcur hE1
    go_upto_region 5 with (fail)
    generalize w2.alloc (.cells #[.int .i64 k, .string i, .string l, .int .i64 sl, .int .i64 t, .int .i64 le, .slice a m c] 54) = W3 at *
    obtain ⟨at_, qp, hat, hdr⟩ := hc3.blk
    have p1 : W3.cell? ⟨W0.heap.size, 1, none⟩ = some (.int .i64 (at_ : Int)) := cell_of_block qp 1
    have p2 : W3.cell? ⟨W0.heap.size, 2, none⟩ = some (.bool bad') := cell_of_block qp 2
    cases bad' with
    | true =>
      have Hn : Hid (parseC s = none) := by
        unfold Hid
        rcases Hcase.out with ⟨_, h⟩ | ⟨h, _⟩
        · rw [Hpo.out, h]
        · cases h
      clear q5
      have b0 : W3.cell? ⟨w.heap.size, 0, none⟩ = some (.int .i64 0) := cell_of_block q03 0
      have b1 : W3.cell? ⟨w.heap.size, 1, none⟩ = some (.string ⟨#[]⟩) := cell_of_block q03 1
      have b2 : W3.cell? ⟨w.heap.size, 2, none⟩ = some (.string ⟨#[]⟩) := cell_of_block q03 2
      have b3 : W3.cell? ⟨w.heap.size, 3, none⟩ = some (.int .i64 0) := cell_of_block q03 3
      have b4 : W3.cell? ⟨w.heap.size, 4, none⟩ = some (.int .i64 0) := cell_of_block q03 4
      have b5 : W3.cell? ⟨w.heap.size, 5, none⟩ = some (.int .i64 0) := cell_of_block q03 5
      have b6 : W3.cell? ⟨w.heap.size, 6, none⟩ = some (.slice none 0 0) := cell_of_block q03 6
      have f0 : W3.frozen? ⟨w.heap.size, 0, none⟩ = false := free_of_block q03 0
      have f1 : W3.frozen? ⟨w.heap.size, 1, none⟩ = false := free_of_block q03 1
      have f2 : W3.frozen? ⟨w.heap.size, 2, none⟩ = false := free_of_block q03 2
      have f3 : W3.frozen? ⟨w.heap.size, 3, none⟩ = false := free_of_block q03 3
      have f4 : W3.frozen? ⟨w.heap.size, 4, none⟩ = false := free_of_block q03 4
      have f5 : W3.frozen? ⟨w.heap.size, 5, none⟩ = false := free_of_block q03 5
      have f6 : W3.frozen? ⟨w.heap.size, 6, none⟩ = false := free_of_block q03 6
      have h7 := set7 q03 rfl (.int .i64 0) (.string ⟨#[]⟩) (.string ⟨#[]⟩) (.int .i64 0) (.int .i64 0) (.int .i64 0) (.slice none 0 0)
      have Hfin := Lib.hid (Hf3.out.step h7.2 (fun b hb h => by unfold Is at h; omega))
      have H72 := Lib.hid h7.2
      have Hq := Lib.hid h7.1
      clear h7
      go_wp2_with fail
      have y0 := cell_of_block Hq.out 0
      have y1 := cell_of_block Hq.out 1
      have y2 := cell_of_block Hq.out 2
      have y3 := cell_of_block Hq.out 3
      have y4 := cell_of_block Hq.out 4
      have y5 := cell_of_block Hq.out 5
      have y6 := cell_of_block Hq.out 6
      refine bodyPost_ret (v := .tuple #[.agg #[.int .i64 0, .string ⟨#[]⟩, .string ⟨#[]⟩, .int .i64 0, .int .i64 0, .int .i64 0, .slice none 0 0], .int .i64 70]) (by simp [results, Tryz.results38, go_sem, y0, y1, y2, y3, y4, y5, y6]) rfl ?_
      exact ⟨.inl ⟨70, Hn.out, by decide, rfl⟩, Hfin.out⟩
    | false =>
      have Hc2 : Hid (∃ ct, pC (s.size + 1) (bl s) = some (ct, r') ∧ CAt W3 (fun b => w.heap.size < b) #[.int .i64 k, .string i, .string l, .int .i64 sl, .int .i64 t, .int .i64 le, .slice a m c] ct) := by
        rcases Hcase.out with ⟨h, _⟩ | ⟨_, h⟩
        · cases h
        · exact h
      by_cases hae : at_ = s.size
      · have hae' : (at_ : Int) = (s.size : Int) := by omega
        have hr0 : r' = [] := by rw [← hdr, hae]; exact List.drop_eq_nil_of_le (Nat.le_refl _)
        obtain ⟨ct, hpc, hca⟩ := Hc2.out
        rw [hr0] at hpc
        have hcnt := (p_count _).1 _ _ _ hpc
        have hsm : ∀ d ∈ ct.walk, SmallC 100000 d := fun d hd => ((p_small _).1 _ _ _ hpc d hd).mono (by omega)
        have Hp : Hid (parseC s = if ct.valid = true then some ct else none) := by unfold Hid; rw [Hpo.out, hpc]
        have hck := c_check ct _ _ W3 hca (by simp at hcnt; omega) hsm
        obtain ⟨cv, hcv⟩ : ∃ cv, cv = ct.valid := ⟨_, rfl⟩
        rw [← hcv] at hck
        have Hcv := Lib.hid hcv
        have Hca := Lib.hid hca
        have a0 : W3.cell? ⟨w2.heap.size, 0, none⟩ = some (.int .i64 k) := cell_of_block q5 0
        have a1 : W3.cell? ⟨w2.heap.size, 1, none⟩ = some (.string i) := cell_of_block q5 1
        have a2 : W3.cell? ⟨w2.heap.size, 2, none⟩ = some (.string l) := cell_of_block q5 2
        have a3 : W3.cell? ⟨w2.heap.size, 3, none⟩ = some (.int .i64 sl) := cell_of_block q5 3
        have a4 : W3.cell? ⟨w2.heap.size, 4, none⟩ = some (.int .i64 t) := cell_of_block q5 4
        have a5 : W3.cell? ⟨w2.heap.size, 5, none⟩ = some (.int .i64 le) := cell_of_block q5 5
        have a6 : W3.cell? ⟨w2.heap.size, 6, none⟩ = some (.slice a m c) := cell_of_block q5 6
        clear hpc hca hsm hcv qp hdr hc3
        go_wp2_with fail
        refine hck.mono ?_
        rintro en w4 ⟨rfl, hf4⟩
        have q04 := hf4.heap q03 id
        have q54 := hf4.heap q5 id
        have Hf4 := Lib.hid (Hf3.out.step hf4 (fun _ _ h => h))
        have Hca4 := Lib.hid (Hca.out.no hf4)
        clear a0 a1 a2 a3 a4 a5 a6 hck hf4 p1 p2 q03 q5
        cases cv with
        | true =>
          have Hp4 : Hid (parseC s = some ct) := by unfold Hid; rw [Hp.out, if_pos Hcv.out.symm]
          simp only [if_true]
          go_upto_region 7 with (fail)
          have a0 : w4.cell? ⟨w2.heap.size, 0, none⟩ = some (.int .i64 k) := cell_of_block q54 0
          have a1 : w4.cell? ⟨w2.heap.size, 1, none⟩ = some (.string i) := cell_of_block q54 1
          have a2 : w4.cell? ⟨w2.heap.size, 2, none⟩ = some (.string l) := cell_of_block q54 2
          have a3 : w4.cell? ⟨w2.heap.size, 3, none⟩ = some (.int .i64 sl) := cell_of_block q54 3
          have a4 : w4.cell? ⟨w2.heap.size, 4, none⟩ = some (.int .i64 t) := cell_of_block q54 4
          have a5 : w4.cell? ⟨w2.heap.size, 5, none⟩ = some (.int .i64 le) := cell_of_block q54 5
          have a6 : w4.cell? ⟨w2.heap.size, 6, none⟩ = some (.slice a m c) := cell_of_block q54 6
          have b0 : w4.cell? ⟨w.heap.size, 0, none⟩ = some (.int .i64 0) := cell_of_block q04 0
          have b1 : w4.cell? ⟨w.heap.size, 1, none⟩ = some (.string ⟨#[]⟩) := cell_of_block q04 1
          have b2 : w4.cell? ⟨w.heap.size, 2, none⟩ = some (.string ⟨#[]⟩) := cell_of_block q04 2
          have b3 : w4.cell? ⟨w.heap.size, 3, none⟩ = some (.int .i64 0) := cell_of_block q04 3
          have b4 : w4.cell? ⟨w.heap.size, 4, none⟩ = some (.int .i64 0) := cell_of_block q04 4
          have b5 : w4.cell? ⟨w.heap.size, 5, none⟩ = some (.int .i64 0) := cell_of_block q04 5
          have b6 : w4.cell? ⟨w.heap.size, 6, none⟩ = some (.slice none 0 0) := cell_of_block q04 6
          have f0 : w4.frozen? ⟨w.heap.size, 0, none⟩ = false := free_of_block q04 0
          have f1 : w4.frozen? ⟨w.heap.size, 1, none⟩ = false := free_of_block q04 1
          have f2 : w4.frozen? ⟨w.heap.size, 2, none⟩ = false := free_of_block q04 2
          have f3 : w4.frozen? ⟨w.heap.size, 3, none⟩ = false := free_of_block q04 3
          have f4 : w4.frozen? ⟨w.heap.size, 4, none⟩ = false := free_of_block q04 4
          have f5 : w4.frozen? ⟨w.heap.size, 5, none⟩ = false := free_of_block q04 5
          have f6 : w4.frozen? ⟨w.heap.size, 6, none⟩ = false := free_of_block q04 6
          have h7 := set7 q04 rfl (.int .i64 k) (.string i) (.string l) (.int .i64 sl) (.int .i64 t) (.int .i64 le) (.slice a m c)
          have Hfin := Lib.hid (Hf4.out.step h7.2 (fun b hb h => by unfold Is at h; omega))
          have H72 := Lib.hid h7.2
          have Hca5 := Lib.hid (((Hca4.out.fr h7.2 (fun b hb h => by unfold Is at h; omega)).mono (Y := From w.heap.size) (fun b _ h => by unfold From; omega)))
          have Hq := Lib.hid h7.1
          clear h7
          go_wp2_with fail
          have y0 := cell_of_block Hq.out 0
          have y1 := cell_of_block Hq.out 1
          have y2 := cell_of_block Hq.out 2
          have y3 := cell_of_block Hq.out 3
          have y4 := cell_of_block Hq.out 4
          have y5 := cell_of_block Hq.out 5
          have y6 := cell_of_block Hq.out 6
          refine bodyPost_ret (v := .tuple #[.agg #[.int .i64 k, .string i, .string l, .int .i64 sl, .int .i64 t, .int .i64 le, .slice a m c], .int .i64 0]) (by simp [results, Tryz.results38, go_sem, y0, y1, y2, y3, y4, y5, y6]) rfl ?_
          exact ⟨.inr ⟨_, ct, Hp4.out, rfl, Hca5.out⟩, Hfin.out⟩
        | false =>
          have Hn : Hid (parseC s = none) := by unfold Hid; rw [Hp.out, if_neg (by rw [← Hcv.out]; simp)]
          simp only [Bool.false_eq_true, if_false]
          clear q54
          have b0 : w4.cell? ⟨w.heap.size, 0, none⟩ = some (.int .i64 0) := cell_of_block q04 0
          have b1 : w4.cell? ⟨w.heap.size, 1, none⟩ = some (.string ⟨#[]⟩) := cell_of_block q04 1
          have b2 : w4.cell? ⟨w.heap.size, 2, none⟩ = some (.string ⟨#[]⟩) := cell_of_block q04 2
          have b3 : w4.cell? ⟨w.heap.size, 3, none⟩ = some (.int .i64 0) := cell_of_block q04 3
          have b4 : w4.cell? ⟨w.heap.size, 4, none⟩ = some (.int .i64 0) := cell_of_block q04 4
          have b5 : w4.cell? ⟨w.heap.size, 5, none⟩ = some (.int .i64 0) := cell_of_block q04 5
          have b6 : w4.cell? ⟨w.heap.size, 6, none⟩ = some (.slice none 0 0) := cell_of_block q04 6
          have f0 : w4.frozen? ⟨w.heap.size, 0, none⟩ = false := free_of_block q04 0
          have f1 : w4.frozen? ⟨w.heap.size, 1, none⟩ = false := free_of_block q04 1
          have f2 : w4.frozen? ⟨w.heap.size, 2, none⟩ = false := free_of_block q04 2
          have f3 : w4.frozen? ⟨w.heap.size, 3, none⟩ = false := free_of_block q04 3
          have f4 : w4.frozen? ⟨w.heap.size, 4, none⟩ = false := free_of_block q04 4
          have f5 : w4.frozen? ⟨w.heap.size, 5, none⟩ = false := free_of_block q04 5
          have f6 : w4.frozen? ⟨w.heap.size, 6, none⟩ = false := free_of_block q04 6
          have h7 := set7 q04 rfl (.int .i64 0) (.string ⟨#[]⟩) (.string ⟨#[]⟩) (.int .i64 0) (.int .i64 0) (.int .i64 0) (.slice none 0 0)
          have Hfin := Lib.hid (Hf4.out.step h7.2 (fun b hb h => by unfold Is at h; omega))
          have H72 := Lib.hid h7.2
          have Hq := Lib.hid h7.1
          clear h7
          go_wp2_with fail
          have y0 := cell_of_block Hq.out 0
          have y1 := cell_of_block Hq.out 1
          have y2 := cell_of_block Hq.out 2
          have y3 := cell_of_block Hq.out 3
          have y4 := cell_of_block Hq.out 4
          have y5 := cell_of_block Hq.out 5
          have y6 := cell_of_block Hq.out 6
          refine bodyPost_ret (v := .tuple #[.agg #[.int .i64 0, .string ⟨#[]⟩, .string ⟨#[]⟩, .int .i64 0, .int .i64 0, .int .i64 0, .slice none 0 0], .int .i64 70]) (by simp [results, Tryz.results38, go_sem, y0, y1, y2, y3, y4, y5, y6]) rfl ?_
          exact ⟨.inl ⟨70, Hn.out, by decide, rfl⟩, Hfin.out⟩
      · have hae' : ¬ (at_ : Int) = (s.size : Int) := by omega
        have Hn : Hid (parseC s = none) := by
          unfold Hid
          obtain ⟨ct, hpc, hca⟩ := Hc2.out
          rw [Hpo.out, hpc]
          cases hr0 : r' with
          | cons x y => rfl
          | nil =>
            have h : (s.data.toList.drop at_).length = 0 := by rw [hdr, hr0]; rfl
            have h2 : s.data.toList.length = s.size := rfl
            rw [List.length_drop, h2] at h
            omega
        clear q5
        have b0 : W3.cell? ⟨w.heap.size, 0, none⟩ = some (.int .i64 0) := cell_of_block q03 0
        have b1 : W3.cell? ⟨w.heap.size, 1, none⟩ = some (.string ⟨#[]⟩) := cell_of_block q03 1
        have b2 : W3.cell? ⟨w.heap.size, 2, none⟩ = some (.string ⟨#[]⟩) := cell_of_block q03 2
        have b3 : W3.cell? ⟨w.heap.size, 3, none⟩ = some (.int .i64 0) := cell_of_block q03 3
        have b4 : W3.cell? ⟨w.heap.size, 4, none⟩ = some (.int .i64 0) := cell_of_block q03 4
        have b5 : W3.cell? ⟨w.heap.size, 5, none⟩ = some (.int .i64 0) := cell_of_block q03 5
        have b6 : W3.cell? ⟨w.heap.size, 6, none⟩ = some (.slice none 0 0) := cell_of_block q03 6
        have f0 : W3.frozen? ⟨w.heap.size, 0, none⟩ = false := free_of_block q03 0
        have f1 : W3.frozen? ⟨w.heap.size, 1, none⟩ = false := free_of_block q03 1
        have f2 : W3.frozen? ⟨w.heap.size, 2, none⟩ = false := free_of_block q03 2
        have f3 : W3.frozen? ⟨w.heap.size, 3, none⟩ = false := free_of_block q03 3
        have f4 : W3.frozen? ⟨w.heap.size, 4, none⟩ = false := free_of_block q03 4
        have f5 : W3.frozen? ⟨w.heap.size, 5, none⟩ = false := free_of_block q03 5
        have f6 : W3.frozen? ⟨w.heap.size, 6, none⟩ = false := free_of_block q03 6
        have h7 := set7 q03 rfl (.int .i64 0) (.string ⟨#[]⟩) (.string ⟨#[]⟩) (.int .i64 0) (.int .i64 0) (.int .i64 0) (.slice none 0 0)
        have Hfin := Lib.hid (Hf3.out.step h7.2 (fun b hb h => by unfold Is at h; omega))
        have H72 := Lib.hid h7.2
        have Hq := Lib.hid h7.1
        clear h7
        go_wp2_with fail
        have y0 := cell_of_block Hq.out 0
        have y1 := cell_of_block Hq.out 1
        have y2 := cell_of_block Hq.out 2
        have y3 := cell_of_block Hq.out 3
        have y4 := cell_of_block Hq.out 4
        have y5 := cell_of_block Hq.out 5
        have y6 := cell_of_block Hq.out 6
        refine bodyPost_ret (v := .tuple #[.agg #[.int .i64 0, .string ⟨#[]⟩, .string ⟨#[]⟩, .int .i64 0, .int .i64 0, .int .i64 0, .slice none 0 0], .int .i64 70]) (by simp [results, Tryz.results38, go_sem, y0, y1, y2, y3, y4, y5, y6]) rfl ?_
        exact ⟨.inl ⟨70, Hn.out, by decide, rfl⟩, Hfin.out⟩
end Go.Proofs.YtbblkknndaoefaaGreatDoor
namespace Go.Proofs.YtbblkknndaoefaaGreatDoor
open Go.RowKit Go.Maps
set_option linter.unusedVariables false

/-- Block mb is a map[int]string: its look-up is g. -/
def SMap (w : World) (mb : Nat) (g : Int → Option ByteArray) (N : Nat) : Prop :=
  ∃ (D : DataW Unit) (n : Nat), n ≤ N ∧ w.ownsMap Tryz.prog 3 (plainElem Tryz.prog 9) mb n D ∧ (∀ x, has D (.int .i64 x) = (g x).isSome) ∧ ∀ x, D.atKey (.int .i64 x) (.lit (.string [])) = .lit (.string ((g x).getD ⟨#[]⟩).data.toList)
/-- Block mb is a map[int]int: its look-up is g. -/
def IMap (w : World) (mb : Nat) (g : Int → Option Int) (N : Nat) : Prop :=
  ∃ (D : DataW Unit) (n : Nat), n ≤ N ∧ w.ownsMap Tryz.prog 3 (plainElem Tryz.prog 3) mb n D ∧ (∀ x, has D (.int .i64 x) = (g x).isSome) ∧ ∀ x, D.atKey (.int .i64 x) (.lit (.int .i64 0)) = .lit (.int .i64 ((g x).getD 0))
theorem SMap.lt {w : World} {mb : Nat} {g : Int → Option ByteArray} {N : Nat} (h : SMap w mb g N) : mb < w.heap.size := by obtain ⟨D, n, _, ho, _⟩ := h; exact ho.lt
theorem IMap.lt {w : World} {mb : Nat} {g : Int → Option Int} {N : Nat} (h : IMap w mb g N) : mb < w.heap.size := by obtain ⟨D, n, _, ho, _⟩ := h; exact ho.lt
theorem SMap.fr {S : Nat → Prop} {w w' : World} {mb : Nat} {g : Int → Option ByteArray} {N : Nat} (h : SMap w mb g N) (hf : Fr S w w') (hS : ¬ S mb) : SMap w' mb g N := by
  obtain ⟨D, n, hn, ho, r⟩ := h; exact ⟨D, n, hn, hf.ownsMap ho hS, r⟩
theorem IMap.fr {S : Nat → Prop} {w w' : World} {mb : Nat} {g : Int → Option Int} {N : Nat} (h : IMap w mb g N) (hf : Fr S w w') (hS : ¬ S mb) : IMap w' mb g N := by
  obtain ⟨D, n, hn, ho, r⟩ := h; exact ⟨D, n, hn, hf.ownsMap ho hS, r⟩
theorem SMap.made (w : World) : SMap (w.alloc (.map #[] 0)) w.heap.size (fun _ => none) 0 := ⟨.map [], 0, Nat.le_refl _, World.ownsMap_made _ _ _ _, fun _ => rfl, fun _ => rfl⟩
theorem IMap.made (w : World) : IMap (w.alloc (.map #[] 0)) w.heap.size (fun _ => none) 0 := ⟨.map [], 0, Nat.le_refl _, World.ownsMap_made _ _ _ _, fun _ => rfl, fun _ => rfl⟩
theorem zeroS (w : World) : (zeroValue 9).run Tryz.prog w = .ok (.string ⟨#[]⟩) w := by kernel_rfl
theorem zeroI (w : World) : (zeroValue 3).run Tryz.prog w = .ok (.int .i64 0) w := by kernel_rfl
theorem bytes_eq {s t : ByteArray} (h : s.data.toList = t.data.toList) : s = t := by
  cases s; cases t
  simp only at h
  congr 1
  exact Array.toList_inj.1 h

theorem wp_smap {w : World} {ops : Array Oper} {rest : List Oper} {o : Oper} {a : Act} {Q : Exit → Act → World → Prop} (hg : o.guard = none) (m x : Operand) (t : TypeId) (hop : o.op = Op.lookup t m x false) (ht : Tryz.prog.underlying t = some (.map 3 9))
    (mb : Nat) (g : Int → Option ByteArray) (N : Nat) (k : Int) (hk : (Lit.int .i64 k).wf = true) (hm : a.eval m = .map (some mb)) (hown : SMap w mb g N) (hx : a.eval x = .int .i64 k)
    (hK : wpList Tryz.prog ops Q rest (a.put o.dst (.string ((g k).getD ⟨#[]⟩))) w) : wpList Tryz.prog ops Q (o :: rest) a w := by
  obtain ⟨D, n, _, ho, _, h2⟩ := hown
  refine wpList_plain hg fun K' hK' => ?_
  obtain ⟨v, ps, hrun, hv⟩ := ho.lookup lawI ht (zeroS w) (plainElem_string Tryz.underlying9 (by unfold maxLen; show 0 ≤ _; omega)) (keyOf_int_mk Tryz.underlying3 hk)
  obtain ⟨s, rfl, hs, _⟩ := plainElem_string_inv Tryz.underlying9 hv
  simp only [Prod.mk.injEq] at hs
  have e := (h2 k).symm.trans hs.1
  obtain rfl : s = (g k).getD ⟨#[]⟩ := bytes_eq (by simpa using e.symm)
  unfold Oper.wp
  simp [execOp, hop, hm, hx, hrun, Result.andThen]
  exact hK' _ _ hK
theorem wp_smap_ok {w : World} {ops : Array Oper} {rest : List Oper} {o : Oper} {a : Act} {Q : Exit → Act → World → Prop} (hg : o.guard = none) (m x : Operand) (t : TypeId) (hop : o.op = Op.lookup t m x true) (ht : Tryz.prog.underlying t = some (.map 3 9))
    (mb : Nat) (g : Int → Option ByteArray) (N : Nat) (k : Int) (hk : (Lit.int .i64 k).wf = true) (hm : a.eval m = .map (some mb)) (hown : SMap w mb g N) (hx : a.eval x = .int .i64 k)
    (hK : wpList Tryz.prog ops Q rest (a.put o.dst (.tuple #[.string ((g k).getD ⟨#[]⟩), .bool (g k).isSome])) w) : wpList Tryz.prog ops Q (o :: rest) a w := by
  obtain ⟨D, n, _, ho, h1, h2⟩ := hown
  refine wpList_lookup_own_ok w hg m x t hop 3 9 lawI ht _ (zeroS w) (.lit (.string [])) [] (plainElem_string Tryz.underlying9 (by unfold maxLen; show 0 ≤ _; omega)) mb n D hm ho _ _ hx (keyOf_int_mk Tryz.underlying3 hk) (fun v ps hv => ?_)
  obtain ⟨s, rfl, hs, _⟩ := plainElem_string_inv Tryz.underlying9 hv
  simp only [Prod.mk.injEq] at hs
  have e := (h2 k).symm.trans hs.1
  obtain rfl : s = (g k).getD ⟨#[]⟩ := bytes_eq (by simpa using e.symm)
  rw [h1]; exact hK
theorem wp_imap_ok {w : World} {ops : Array Oper} {rest : List Oper} {o : Oper} {a : Act} {Q : Exit → Act → World → Prop} (hg : o.guard = none) (m x : Operand) (t : TypeId) (hop : o.op = Op.lookup t m x true) (ht : Tryz.prog.underlying t = some (.map 3 3))
    (mb : Nat) (g : Int → Option Int) (N : Nat) (k : Int) (hk : (Lit.int .i64 k).wf = true) (hm : a.eval m = .map (some mb)) (hown : IMap w mb g N) (hx : a.eval x = .int .i64 k)
    (hK : wpList Tryz.prog ops Q rest (a.put o.dst (.tuple #[.int .i64 ((g k).getD 0), .bool (g k).isSome])) w) : wpList Tryz.prog ops Q (o :: rest) a w := by
  obtain ⟨D, n, _, ho, h1, h2⟩ := hown
  refine wpList_lookup_own_ok_int w hg m x t hop 3 3 .i64 lawI ht Tryz.underlying3 (zeroI w) mb n D hm ho _ _ hx (keyOf_int_mk Tryz.underlying3 hk) (fun c hc _ => ?_)
  have e := (h2 k).symm.trans hc
  obtain rfl : c = (g k).getD 0 := by simpa using e.symm
  rw [h1]; exact hK

def updO {α : Type} (g : Int → Option α) (x : Int) (v : α) : Int → Option α := fun y => if y = x then some v else g y
theorem SMap.put {w w1 : World} {mb : Nat} {D : DataW Unit} {n N : Nat} {g : Int → Option ByteArray} (hn : n ≤ N) (ho : w.ownsMap Tryz.prog 3 (plainElem Tryz.prog 9) mb n D) (h1 : ∀ x, has D (.int .i64 x) = (g x).isSome) (h2 : ∀ x, D.atKey (.int .i64 x) (.lit (.string [])) = .lit (.string ((g x).getD ⟨#[]⟩).data.toList))
    (x : Int) (s : ByteArray) (ho1 : w1.ownsMap Tryz.prog 3 (plainElem Tryz.prog 9) mb (n + 1) (D.put (.int .i64 x) (.lit (.string s.data.toList)))) : SMap w1 mb (updO g x s) (N + 1) := by
  refine ⟨_, n + 1, by omega, ho1, fun y => ?_, fun y => ?_⟩
  · unfold updO
    split
    · rename_i e; subst e; rw [has_put_same ho.isMap (isKeyInt _) _]; rfl
    · rename_i e; rw [has_put_other (by intro e'; exact e (by simpa using e'))]; exact h1 y
  · unfold updO
    split
    · rename_i e; subst e; rw [atKey_put_same ho.isMap (isKeyInt _) _ _]; rfl
    · rename_i e; rw [atKey_put_other (by intro e'; exact e (by simpa using e'))]; exact h2 y
theorem IMap.put {w w1 : World} {mb : Nat} {D : DataW Unit} {n N : Nat} {g : Int → Option Int} (hn : n ≤ N) (ho : w.ownsMap Tryz.prog 3 (plainElem Tryz.prog 3) mb n D) (h1 : ∀ x, has D (.int .i64 x) = (g x).isSome) (h2 : ∀ x, D.atKey (.int .i64 x) (.lit (.int .i64 0)) = .lit (.int .i64 ((g x).getD 0)))
    (x v : Int) (ho1 : w1.ownsMap Tryz.prog 3 (plainElem Tryz.prog 3) mb (n + 1) (D.put (.int .i64 x) (.lit (.int .i64 v)))) : IMap w1 mb (updO g x v) (N + 1) := by
  refine ⟨_, n + 1, by omega, ho1, fun y => ?_, fun y => ?_⟩
  · unfold updO
    split
    · rename_i e; subst e; rw [has_put_same ho.isMap (isKeyInt _) _]; rfl
    · rename_i e; rw [has_put_other (by intro e'; exact e (by simpa using e'))]; exact h1 y
  · unfold updO
    split
    · rename_i e; subst e; rw [atKey_put_same ho.isMap (isKeyInt _) _ _]; rfl
    · rename_i e; rw [atKey_put_other (by intro e'; exact e (by simpa using e'))]; exact h2 y
end Go.Proofs.YtbblkknndaoefaaGreatDoor
namespace Go.Proofs.YtbblkknndaoefaaGreatDoor
open Go.RowKit Go.Maps
set_option linter.unusedVariables false

def stepO (g : Int → Option ByteArray) (d : Dev) : Int → Option ByteArray := updO g d.index ((g d.parent).getD ⟨#[]⟩ ++ ⟨#[47]⟩ ++ d.orig)
/-- The origins, as look reckons them. -/
def ogs (l : List Dev) : Int → Option ByteArray := l.foldl stepO (fun _ => none)
/-- The path of a list of names. -/
def pathOf (l : List ByteArray) : ByteArray := l.foldl (fun s x => s ++ ⟨#[47]⟩ ++ x) ⟨#[]⟩
def plcs (ds : List Dev) (k : Nat) : Int → Option Int := fun n => (look (ds.take k) n).map fun _ => place ds n

theorem ogs_snoc (l : List Dev) (d : Dev) : ogs (l ++ [d]) = stepO (ogs l) d := by unfold ogs; rw [List.foldl_append]; rfl
theorem ogs_size {ds : List Dev} (h : ∀ d ∈ ds, d.orig.size ≤ 32) : ∀ (k : Nat) (n : Int), ((ogs (ds.take k) n).getD ⟨#[]⟩).size ≤ 33 * k
  | 0, n => by show (ByteArray.mk #[]).size ≤ _; exact Nat.zero_le _
  | k + 1, n => by
    by_cases hk : k < ds.length
    · have e : ds.take (k + 1) = ds.take k ++ [ds[k]] := by rw [List.take_add_one, List.getElem?_eq_getElem hk]; rfl
      have h1 := ogs_size h k ds[k].parent
      have h2 := ogs_size h k n
      have h3 := h ds[k] (List.getElem_mem hk)
      rw [e, ogs_snoc]
      unfold stepO updO
      split
      · simp only [Option.getD_some, ByteArray.size_append]
        have : (⟨#[47]⟩ : ByteArray).size = 1 := rfl
        omega
      · omega
    · have h2 := ogs_size h k n
      rw [List.take_of_length_le (by omega)] at h2 ⊢
      omega
theorem look_take {ds : List Dev} (hnd : (ds.map Dev.index).Nodup) {k : Nat} {d : Dev} (hd : ds[k]? = some d) (n : Int) : look (ds.take (k + 1)) n = if n = d.index then some d else look (ds.take k) n := by
  have e : ds.take (k + 1) = ds.take k ++ [d] := by rw [List.take_add_one, hd]; rfl
  have hnd' : ((ds.take k ++ [d]).map Dev.index).Nodup := by rw [← e]; exact (List.Sublist.map _ (List.take_sublist _ _)).nodup hnd
  rw [e]
  unfold look
  rw [List.find?_append]
  by_cases hn : n = d.index
  · rw [if_pos hn]
    have : (ds.take k).find? (fun x => decide (x.index = n)) = none := by
      rw [List.find?_eq_none]
      intro x hx hxn
      simp only [decide_eq_true_eq] at hxn
      rw [List.map_append, List.nodup_append] at hnd'
      exact hnd'.2.2 x.index (List.mem_map_of_mem hx) d.index (by simp) (by rw [hxn, hn])
    rw [this]; simp [hn]
  · rw [if_neg hn]
    have : ([d].find? (fun x => decide (x.index = n))) = none := by simp; exact fun h => hn h.symm
    rw [this]; simp
theorem plcs_step {ds : List Dev} (hT : TreeOk ds) {k : Nat} {d : Dev} (hd : ds[k]? = some d) : plcs ds (k + 1) = updO (plcs ds k) d.index (k : Int) := by
  funext n
  unfold plcs updO
  rw [look_take hT.nd hd]
  split
  · rename_i e
    subst e
    rcases place_look ds d.index with ⟨h1, h2⟩ | ⟨j, x, h1, h2, h3⟩
    · rw [hT.lk (List.mem_of_getElem? hd)] at h1; cases h1
    · rw [hT.lk (List.mem_of_getElem? hd)] at h1; cases h1
      rw [h2]
      have hj : j < ds.length := (List.getElem?_eq_some_iff.1 h3).1
      have hk : k < ds.length := (List.getElem?_eq_some_iff.1 hd).1
      have hp := List.pairwise_iff_getElem.1 hT.nd
      have e1 : ds[j].index = ds[k].index := by
        rw [List.getElem?_eq_getElem hj] at h3; rw [List.getElem?_eq_getElem hk] at hd
        rw [Option.some.inj h3, Option.some.inj hd]
      rcases Nat.lt_trichotomy j k with h | rfl | h
      · have hq := hp j k (by simpa using hj) (by simpa using hk) h
        rw [List.getElem_map, List.getElem_map] at hq
        exact absurd e1 hq
      · rfl
      · have hq := hp k j (by simpa using hk) (by simpa using hj) h
        rw [List.getElem_map, List.getElem_map] at hq
        exact absurd e1.symm hq
  · rfl
/-- What look's map of origins holds. -/
theorem ogs_eq {ds : List Dev} (hT : TreeOk ds) : ∀ (k : Nat), k ≤ ds.length → ∀ n, ogs (ds.take k) n = (look (ds.take k) n).map fun _ => pathOf (origin ds n)
  | 0, _, n => by simp [ogs, look]
  | k + 1, hk, n => by
    have hlt : k < ds.length := by omega
    have hd : ds[k]? = some ds[k] := List.getElem?_eq_getElem hlt
    have e : ds.take (k + 1) = ds.take k ++ [ds[k]] := by rw [List.take_add_one, hd]; rfl
    have ih := ogs_eq hT k (by omega)
    rw [look_take hT.nd hd, e, ogs_snoc]
    unfold stepO updO
    split
    · rename_i hn
      have ho : pathOf (origin ds n) = pathOf (origin ds ds[k].parent) ++ ⟨#[47]⟩ ++ ds[k].orig := by
        rw [hn, hT.origin_cons (hT.lk (List.getElem_mem hlt))]
        unfold pathOf; rw [List.foldl_append]; rfl
      have hp : (ogs (ds.take k) ds[k].parent).getD ⟨#[]⟩ = pathOf (origin ds ds[k].parent) := by
        rw [ih]
        rcases hT.pa k _ hd with h0 | ⟨j, f, hj, hf, hfi⟩
        · have hz : look (ds.take k) ds[k].parent = none := by
            rw [h0, look_none]; intro x hx e; have := (hT.ix x (List.mem_of_mem_take hx)).1; omega
          rw [hz, h0, TreeOk.origin_none hT.zero]; rfl
        · have hm : f ∈ ds.take k := by
            have : (ds.take k)[j]? = some f := by rw [List.getElem?_take_of_lt hj]; exact hf
            exact List.mem_of_getElem? this
          have hnd : ((ds.take k).map Dev.index).Nodup := (List.Sublist.map _ (List.take_sublist _ _)).nodup hT.nd
          have := look_of_nodup hnd hm
          rw [hfi] at this
          rw [this]; rfl
      rw [hp, ho]; rfl
    · exact ih n
theorem TreeOk.pwf {ds : List Dev} (h : TreeOk ds) {d : Dev} (hd : d ∈ ds) : (Lit.int .i64 d.parent).wf = true := by
  obtain ⟨k, hk⟩ := List.getElem?_of_mem hd
  rcases h.pa k d hk with h0 | ⟨j, e, _, he, hi⟩
  · rw [h0]; decide
  · rw [← hi]
    have := h.ix e (List.mem_of_getElem? he)
    exact WalkArith.wf_i64 (by omega)
theorem TreeOk.iwf {ds : List Dev} (h : TreeOk ds) {d : Dev} (hd : d ∈ ds) : (Lit.int .i64 d.index).wf = true := by
  have := h.ix d hd
  exact WalkArith.wf_i64 (by omega)

/-- What look hands back. -/
def ViewAt (w w' : World) (a : Option Addr) (cap : Nat) (ds : List Dev) (e : Ending) : Prop :=
  ∃ m1 m2, e = .returned (.agg #[.slice a ds.length cap, .map (some m1), .map (some m2)]) ∧ w.heap.size ≤ m1 ∧ w.heap.size ≤ m2 ∧ m1 ≠ m2 ∧ IMap w' m1 (plcs ds ds.length) ds.length ∧ SMap w' m2 (ogs ds) ds.length

def Two2 (x y : Nat) : Nat → Prop := fun b => b = x ∨ b = y

end Go.Proofs.YtbblkknndaoefaaGreatDoor
namespace Go.Proofs.YtbblkknndaoefaaGreatDoor
open Go.RowKit Go.Maps
set_option linter.unusedVariables false

/-- Block a view's parts stand for the tree ds. -/
def VAt (w : World) (m1 m2 : Nat) (ds : List Dev) : Prop := IMap w m1 (plcs ds ds.length) ds.length ∧ SMap w m2 (ogs ds) ds.length
theorem VAt.fr {S : Nat → Prop} {w w' : World} {m1 m2 : Nat} {ds : List Dev} (h : VAt w m1 m2 ds) (hf : Fr S w w') (h1 : ¬ S m1) (h2 : ¬ S m2) : VAt w' m1 m2 ds := ⟨h.1.fr hf h1, h.2.fr hf h2⟩
theorem plcs_all (ds : List Dev) (n : Int) : plcs ds ds.length n = (look ds n).map fun _ => place ds n := by unfold plcs; rw [List.take_of_length_le (Nat.le_refl _)]

def FindIs (ds : List Dev) (n : Int) (e : Ending) : Prop := (look ds n = none ∧ e = .returned (.tuple #[.agg Dev.zero.vals, .bool false])) ∨ ∃ d, look ds n = some d ∧ e = .returned (.tuple #[.agg d.vals, .bool true])

end Go.Proofs.YtbblkknndaoefaaGreatDoor
/- The view's up; the reference's ancestors. -/
namespace Go.Proofs.YtbblkknndaoefaaGreatDoor
open Go.RowKit Go.Maps
set_option linter.unusedVariables false

theorem Devs.tail {w : World} {b off cap : Nat} {x : Dev} {l : List Dev} (h : Devs w (some ⟨b, off, none⟩) cap (x :: l)) : Devs w (some ⟨b, off + 10, none⟩) (cap - 1) l := by
  have h1 := h.len
  have h2 := h.max
  simp only [List.length_cons] at h1
  refine ⟨by omega, by omega, (fun e => by cases e), fun ad e hne => ?_⟩
  cases e
  obtain ⟨_, h3, h4⟩ := h.cell _ rfl (by simp)
  refine ⟨rfl, h3, fun i d hi j hj => ?_⟩
  have := h4 (i + 1) d (by simpa using hi) j hj
  rw [show off + 10 + (i * 10 + j) = off + ((i + 1) * 10 + j) by omega]
  exact this

end Go.Proofs.YtbblkknndaoefaaGreatDoor
/- The reference's place: a path of names. -/
namespace Go.Proofs.YtbblkknndaoefaaGreatDoor
open Go.RowKit Go.Maps
set_option linter.unusedVariables false

theorem fold_bytes : ∀ (l : List ByteArray) (s : ByteArray), (l.foldl (fun s x => s ++ ⟨#[47]⟩ ++ x) s).data.toList = s.data.toList ++ Lib.joinTail [47] (l.map (·.data.toList))
  | [], s => by simp [Lib.joinTail]
  | x :: t, s => by
    rw [List.foldl_cons, fold_bytes t]
    simp [Lib.joinTail]
theorem path_bytes (l : List ByteArray) : (pathOf l).data.toList = Lib.joinTail [47] (l.map (·.data.toList)) := by
  unfold pathOf; rw [fold_bytes]; rfl
theorem path_join {l : List ByteArray} (h : l ≠ []) : (⟨#[47]⟩ : ByteArray) ++ ⟨(Lib.join (l.map (·.data.toList)) [47]).toArray⟩ = pathOf l := by
  refine bytes_eq ?_
  rw [path_bytes]
  cases l with
  | nil => exact absurd rfl h
  | cons x t => simp [Lib.join_cons, Lib.joinTail]
theorem tail_le : ∀ (l : List ByteArray), (∀ x ∈ l, x.size ≤ 32) → (Lib.joinTail [47] (l.map (·.data.toList))).length ≤ 33 * l.length
  | [], _ => by simp [Lib.joinTail]
  | x :: t, h => by
    have h1 := tail_le t (fun y hy => h y (List.mem_cons_of_mem _ hy))
    have h2 := h x (List.mem_cons_self ..)
    have h3 : x.data.toList.length = x.size := by simp
    simp only [Lib.joinTail, List.map_cons, List.flatten_cons, List.length_append, List.length_cons, List.length_nil, List.map_map] at h1 ⊢
    omega
theorem join_le {l : List ByteArray} (h : ∀ x ∈ l, x.size ≤ 32) : (Lib.join (l.map (·.data.toList)) [47]).length ≤ 33 * l.length := by
  cases l with
  | nil => simp [Lib.join, List.intercalate]
  | cons x t =>
    have := tail_le (x :: t) h
    simp only [List.map_cons, Lib.join_cons, Lib.joinTail, List.flatten_cons, List.length_append, List.length_cons, List.length_nil] at this ⊢
    omega

theorem origin_sz {ds : List Dev} (hT : TreeOk ds) (n : Int) : ∀ x ∈ origin ds n, x.size ≤ 32 := by
  intro x hx
  unfold origin at hx
  rw [List.mem_reverse] at hx
  obtain ⟨d, hd, rfl⟩ := List.mem_map.1 hx
  exact hT.sz d (chain_mem hd)

end Go.Proofs.YtbblkknndaoefaaGreatDoor
