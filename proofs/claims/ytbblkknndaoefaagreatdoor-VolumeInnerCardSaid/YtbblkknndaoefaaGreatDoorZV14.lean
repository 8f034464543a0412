/- volume.Lacks. coldplugref34.Name, Want, Lacks. Slices of texts and of members that came in, opened, with the bounds of their sizes. few: lists that are short enough (chapter 33). -/
import Derived.Test.YtbblkknndaoefaaGreatDoorZV13
import Derived.Test.YtbblkknndaoefaaGreatDoorZV12
import Derived.Test.YtbblkknndaoefaaGreatDoorZV5
import Derived.Deep.Slices
import Derived.SliceStrings
import Derived.ChangeArms
import Derived.SizedLaws
import Derived.Test.YtbblkknndaoefaaGreatDoorZV2
namespace Go.Proofs.YtbblkknndaoefaaGreatDoor
open Go.RowKit Go.Maps
set_option linter.unusedVariables false
attribute [local go_sem] Oper.semAt_some

theorem lacksF_wf {ps : List ByteArray} (h : ps.length ≤ 1000000) : ∀ x ∈ lacksF ps ps.length, (Lit.int .i64 x).wf = true := by
  intro x hx
  unfold lacksF at hx
  obtain ⟨k, hk, rfl⟩ := List.mem_map.1 hx
  have := List.mem_range.1 (List.mem_filter.1 hk).1
  exact WalkArith.wf_i64 (by omega)
structure LackI (w0 : World) (N t3 : Nat) (pre : List Int) (V : Nat → Prop) (W : World) : Prop where
  row : ∃ av cv, W.heap[t3]? = some (.cells #[.slice av pre.length cv] 22) ∧ W.ownsRow N 3 1 (.slice av pre.length cv) pre.length (pre.map (Value.int .i64)) ∧ ∀ b, V b ↔ b = t3 ∨ (Value.slice av pre.length cv).ownBlock = some b
  fr : Fr (From w0.heap.size) w0 W
theorem LackI.lt {w0 : World} {N t3 : Nat} {pre : List Int} {V : Nat → Prop} {W : World} (h : LackI w0 N t3 pre V W) : ∀ b, V b → b < W.heap.size := by
  obtain ⟨av, cv, h1, h2, h4⟩ := h.row
  intro b hb
  rcases (h4 b).1 hb with rfl | hb
  · exact lt_of_block h1
  · exact ownsRow_lt h2 hb
theorem LackI.keep {w0 : World} {N t3 : Nat} {pre : List Int} {V S : Nat → Prop} {A B : World} (h : LackI w0 N t3 pre V A) (hf : Fr S A B) (hS : ∀ b, S b → ¬ V b ∧ w0.heap.size ≤ b) : LackI w0 N t3 pre V B := by
  obtain ⟨av, cv, h1, h2, h4⟩ := h.row
  exact ⟨⟨av, cv, hf.heap h1 (fun h => (hS _ h).1 ((h4 _).2 (.inl rfl))), ownsRow_at h2 hf (fun b hb h => (hS _ h).1 ((h4 _).2 (.inr hb))), h4⟩, h.fr.step hf (fun b hb h => (hS _ h).2)⟩

set_option maxRecDepth 100000 in
set_option maxHeartbeats 4000000 in
theorem v_lacks (s : ByteArray) (t e n : Int) (iv : Value) (a : Option Addr) (cap : Nat) (ps : List ByteArray) (w : World) (hS : Strs w a cap ps) (hps : ps.length ≤ 1000000) :
    Calls Tryz.prog 34 #[.agg #[.string s, .slice a ps.length cap, .int .i64 t, .int .i64 e, .int .i64 n, iv]] w fun en w' => (∃ a' c', en = .returned (.slice a' (lacksF ps ps.length).length c') ∧ Ints w' a' c' (lacksF ps ps.length)) ∧ Fr No w w' := by
  refine (callsIn_wide (n := 12)).1 (callsIn_of_wp_marks Tryz.func34 rfl trivial (wpIn_wide.2 ?_))
  simp only [Tryz.ntmps34, List.size_toArray, List.length_cons, List.length_nil, Nat.reduceAdd, Nat.reduceSub, Array.replicate_succ, Array.replicate_zero, List.push_toArray, List.append_toArray, List.nil_append, List.cons_append]
  obtain ⟨i0, hi0, hz0, hz1, hz2⟩ := info_parts infoI2
  have hW : Fr No w ((w.alloc (.cells #[.string s, .slice a ps.length cap, .int .i64 t, .int .i64 e, .int .i64 n, iv] 42)).alloc (.cells #[.slice none 0 0] 22)) := ((Fr.refl _ _).alloc _).alloc _
  have b1 := block_alloc1 w (.cells #[.string s, .slice a ps.length cap, .int .i64 t, .int .i64 e, .int .i64 n, iv] 42) (.cells #[.slice none 0 0] 22)
  have b2 := block_alloc2 w (.cells #[.string s, .slice a ps.length cap, .int .i64 t, .int .i64 e, .int .i64 n, iv] 42) (.cells #[.slice none 0 0] 22)
  have hs0 : ((w.alloc (.cells #[.string s, .slice a ps.length cap, .int .i64 t, .int .i64 e, .int .i64 n, iv] 42)).alloc (.cells #[.slice none 0 0] 22)).heap.size = w.heap.size + 2 := by simp
  have hS0 := hS.no hW (fun _ => id)
  go_upto_region 2 with (fail)
  generalize (w.alloc (.cells #[.string s, .slice a ps.length cap, .int .i64 t, .int .i64 e, .int .i64 n, iv] 42)).alloc (.cells #[.slice none 0 0] 22) = W0 at *
  have x1 : W0.cell? ⟨w.heap.size, 1, none⟩ = some (.slice a ps.length cap) := cell_of_block b1 1
  have Hs0 := Lib.hid hs0
  clear hs0
  go_wp2_with fail
  refine (v_empty _ _ _ _).mono ?_
  rintro en w1 ⟨rfl, rfl⟩
  have hx : Fr No W0 (W0.alloc (.cells #[.slice a ps.length cap] 33)) := (Fr.refl _ _).alloc _
  have d2 := hx.heap b2 id
  have db := block_alloc W0 (.cells #[.slice a ps.length cap] 33)
  have hS2 := hS0.no hx (fun _ => id)
  have hfw := hW.step hx (fun _ _ h => h)
  have hs2 : (W0.alloc (.cells #[.slice a ps.length cap] 33)).heap.size = w.heap.size + 3 := by have := Hs0.out; simp; omega
  have hal : ∀ ad, a = some ad → ps ≠ [] → ad.block < w.heap.size := fun ad e hne => (hS.cell ad e hne).2.1
  have hbs : W0.heap.size = w.heap.size + 2 := Hs0.out
  clear x1 b1 b2 hS0 hx hW
  go_wp2_with fail
  generalize W0.alloc (.cells #[.slice a ps.length cap] 33) = W2 at *
  rw [hbs] at db
  clear hbs Hs0
  refine (wpIn_wide (n := 12)).1 (wpIn_range_fr (α := Int) (T := fun _ => False) (V0 := Is (w.heap.size + 1)) rfl (by omega) (gf := 115) (lb := #[.pointer (some ⟨w.heap.size + 2, 0, none⟩)]) rfl trivial (enters_of Tryz.func115 (by kernel_rfl) rfl) (encs := fun i : Int => #[.int .i64 i]) (fun _ => rfl) (fun b h => h.elim) (fun b h => by unfold Is at h; omega)
    (empty_gives 11 (by omega) (w.heap.size + 2) a cap ps W2 (Is (w.heap.size + 1)) db hS2 hps (fun ad e hne h => by have := hal ad e hne; unfold Is at h; omega))
    (LackI w (W2.heap.size + 2) (w.heap.size + 1)) (fun _ _ _ h => h.lt) (fun s V A B S h hf hS => h.keep hf (fun b hb => ⟨(hS b hb).1, (hS b hb).2.elim (fun h => h.elim) (fun h => by omega)⟩))
    ⟨⟨none, 0, d2, World.ownsRow_nil _ _ _ _, fun b => by simp [Is, Value.ownBlock]⟩, hfw.mono (fun _ _ h => h.elim)⟩
    (fun x V a' W => a' = { tmps := #[.agg #[.string s, .slice a ps.length cap, .int .i64 t, .int .i64 e, .int .i64 n, iv], .pointer (some ⟨w.heap.size, 0, none⟩), .slice none 0 0, .pointer (some ⟨w.heap.size + 1, 0, none⟩), .int .i64 x, .pointer (some ⟨w.heap.size, 1, none⟩), .slice a ps.length cap, .func (.func 115) #[] #[.pointer (some ⟨w.heap.size + 2, 0, none⟩)], .int .i64 x, undef, undef, undef, undef, undef], defers := [] })
    (fun x V a' A B h hf => h)
    ?assign ?body ?done)
  case assign =>
    intro l pre V x W K hi hsz2 hK
    have hK' := fun a' W' (h1 : Fr No W W') h2 => hK a' W' h1 h2
    gi_wp2
    exact hK _ _ (Fr.refl _ _) rfl
  case done =>
    rintro V W hi hK hnV
    obtain ⟨av, cv, h1, h2, h4⟩ := hi.row
    have c5 : W.cell? ⟨w.heap.size + 1, 0, none⟩ = some (.slice av (lacksF ps ps.length).length cv) := cell_of_block h1 0
    have hput : Fr (Is W2.heap.size) W (W.putObj W2.heap.size (.deferred none)) := Fr.putObj _ _ _ rfl
    have h2' := ownsRow_at h2 hput (fun b hb e => by unfold Is at e; subst e; exact hnV ((h4 _).2 (.inr hb)))
    obtain ⟨a', c', hv, hD, hfresh⟩ := Ints.of_own h2' (fun x hx => lacksF_wf hps x hx)
    have hfin : Fr No w (W.putObj W2.heap.size (.deferred none)) := (hi.fr.step hput (fun b hb e => by unfold Is at e; have := hfw.size; omega)).mono (fun b hb h => by unfold From at h; omega)
    cases hv
    have H := Lib.hid (And.intro hD hfin)
    clear hD hfresh hfin h2 h2' hput h4 hfw
    go_wp2
    refine ⟨by simp, .inl ⟨_, _, rfl, run_takeDeferred hK, ?_⟩⟩
    exact ⟨_, results_tmp rfl _ _ _, ⟨_, _, rfl, H.out.1⟩, H.out.2⟩
  case body =>
    rintro l pre V x a' W hi rfl hpre hsz2
    obtain ⟨av, cv, h1, h2, h4⟩ := hi.row
    have x3 : W.cell? ⟨w.heap.size + 1, 0, none⟩ = some (.slice av pre.length cv) := cell_of_block h1 0
    have hql : pre.length ≤ 1000000 := by have := hpre.length_le; have := lacksF_len ps ps.length; simp at *; omega
    have hVl := hi.lt
    have H4 : Hid (∀ b, V b ↔ b = w.heap.size + 1 ∨ (Value.slice av pre.length cv).ownBlock = some b) := h4
    have Hi := Lib.hid hi
    have H2 := Lib.hid h2
    have H1 := Lib.hid h1
    have Hsz2 := Lib.hid hsz2
    have Hs2 := Lib.hid hs2
    have hbase : W2.heap.size + 2 ≤ W.heap.size + 1 := by omega
    clear h4 hi hpre hsz2 hs2 h1
    gi_wp2_with (gi_at_builtin; refine wpListIn_append_own _ rfl _ _ 22 rfl (W2.heap.size + 2) 3 i0 (.int .i64 0) 1 8 Tryz.underlying22 hi0 hz0 hz1 hz2 rfl (by decide) _ _ _ rfl (h2.alloc _) ⟨W.heap.size, 0, none⟩ 1 1 [.int .i64 x] rfl rfl (cell_one_new _ _ _) (ints_oneCell _ [x]) (by unfold maxLen; omega) (by omega) (by simp; omega) ?_; intro v' w4 hown4 hgrow4 _; obtain ⟨av', cv', rfl⟩ := ownsRow_slice hown4; have hal4 := (Fr.refl No W).alloc (.cells #[.int .i64 x] 3); have k10 := (Fr.of_grown hgrow4).heap (hal4.heap H1.out id) (fun e => by have := ownsRow_blk (H2.out.alloc (.cells #[.int .i64 x] 3)) e; unfold From at this; have := Hs2.out; omega); have x5 : w4.cell? ⟨w.heap.size + 1, 0, none⟩ = some (.slice av pre.length cv) := cell_of_block k10 0; have y5 : w4.frozen? ⟨w.heap.size + 1, 0, none⟩ = false := free_of_block k10 0)
    have hg4 : Fr V W w4 := (hal4.mono (fun _ _ h => h.elim)).step (Fr.of_grown hgrow4) (fun b _ e => (H4.out b).2 (.inr e))
    have hs : Fr (Is (w.heap.size + 1)) w4 (w4.setCell ⟨w.heap.size + 1, 0, none⟩ (.slice av' (pre.length + 1) cv')) := Fr.setCell (S := Is (w.heap.size + 1)) (p := ⟨w.heap.size + 1, 0, none⟩) (Fr.refl _ _) (fun _ => rfl) _
    have hV5 : V (w.heap.size + 1) := (H4.out _).2 (.inl rfl)
    have hfs := hg4.step hs (fun b _ e => by unfold Is at e; subst e; exact hV5)
    have hVw : ∀ b, V b → w.heap.size ≤ b := fun b hb => ((H4.out b).1 hb).elim (fun e => by omega) (fun e => by have := ownsRow_blk H2.out e; unfold From at this; have := Hs2.out; omega)
    refine ⟨fun b => b = w.heap.size + 1 ∨ (Value.slice av' (pre.length + 1) cv').ownBlock = some b, fun b hb => hb.elim (fun e => .inl (e ▸ hV5)) (fun e => .inr (ownsRow_blk hown4 e)), ⟨⟨av', cv', ?_, ?_, ?_⟩, Hi.out.fr.step hfs (fun b _ hb => hVw b hb)⟩, hfs⟩
    · have := block_setCell k10 0 (.slice av' (pre.length + 1) cv')
      simpa using this
    · have := ownsRow_at hown4 hs (fun b hb e => by have := ownsRow_blk hown4 hb; unfold Is at e; unfold From at this; have := Hs2.out; omega)
      simpa using this
    · intro b; rw [List.length_append]; rfl
end Go.Proofs.YtbblkknndaoefaaGreatDoor
namespace Go.Proofs.YtbblkknndaoefaaGreatDoor
open Go.RowKit Go.Maps
set_option linter.unusedVariables false

set_option maxRecDepth 100000 in
set_option maxHeartbeats 2000000 in
theorem ref_name (id : ByteArray) (k : Int) (w : World) (hE : Env w) (hid : id.size ≤ 1000000) (hk : (Lit.int .i64 k).wf = true) :
    Calls Tryz.prog 30 #[.string id, .int .i64 k] w fun e w' => e = .returned (.tuple #[.string (if lvOk id k = true then lvT id k else ⟨#[]⟩), .int .i64 (if lvOk id k = true then 0 else 340)]) ∧ Fr No w w' := by
  have hkb : -9223372036854775808 ≤ k ∧ k ≤ 9223372036854775807 := by simp [Lit.wf, IntKind.min, IntKind.max, IntKind.signed, IntKind.bits] at hk; omega
  have hil := Lib.itoa_length_le k hkb.1 hkb.2
  have hsz := lvT_size id k
  have h1 : ((⟨#[108, 118, 45]⟩ : ByteArray) ++ id).size ≤ 9223372036854775807 := by rw [ByteArray.size_append]; show 3 + id.size ≤ _; omega
  have h2 : ((⟨#[108, 118, 45]⟩ : ByteArray) ++ id ++ (⟨#[45]⟩ : ByteArray)).size ≤ 9223372036854775807 := by rw [ByteArray.size_append, ByteArray.size_append]; show 3 + id.size + 1 ≤ _; omega
  obtain ⟨it, hit⟩ : ∃ it, it = (⟨(Lib.itoa k).toArray⟩ : ByteArray) := ⟨_, rfl⟩
  have hL : lvT id k = (⟨#[108, 118, 45]⟩ : ByteArray) ++ id ++ (⟨#[45]⟩ : ByteArray) ++ it := by rw [hit]; rfl
  have h3 : ((⟨#[108, 118, 45]⟩ : ByteArray) ++ id ++ (⟨#[45]⟩ : ByteArray) ++ it).size ≤ 9223372036854775807 := by rw [← hL, hsz]; omega
  have h4 : ((⟨#[108, 118, 45]⟩ : ByteArray) ++ id ++ (⟨#[45]⟩ : ByteArray) ++ it).size ≤ maxLen := by unfold maxLen; rw [← hL, hsz]; omega
  have hits : it.size ≤ 21 := by rw [hit]; simpa [ByteArray.size] using hil
  have hz3 : ¬ 9223372036854775807 < 3 + id.size + 1 + it.size := by omega
  have hz4 : ¬ 9223372036854775807 < ((⟨#[108, 118, 45]⟩ : ByteArray) ++ id ++ (⟨#[45]⟩ : ByteArray)).size + it.size := by rw [← ByteArray.size_append]; omega
  have hz5 : ((⟨#[108, 118, 45]⟩ : ByteArray) ++ id ++ (⟨#[45]⟩ : ByteArray)).size + it.size ≤ 9223372036854775807 := by omega
  obtain ⟨bo, hbo⟩ : ∃ bo, bo = lvOk id k := ⟨_, rfl⟩
  rw [← hbo, hL]
  have Hbo := Lib.hid hbo
  have HL := Lib.hid hL
  have hit2 : (⟨(Lib.itoa k).toArray⟩ : ByteArray) = it := hit.symm
  clear hbo hL hsz hil hit
  go_enter Tryz.func30, Tryz.ntmps30
  go_wp2_with fail
  refine (Tryz.strconv_Itoa k hkb.1 hkb.2 _ hE.tab).mono ?_
  rintro e w1 ⟨rfl, kk, os, rfl⟩
  have hf1 : Fr No w (Go.Sort.grow (w.drewN kk) os) := Fr.of_below_size (Lib.below_grow _ w (Nat.le_refl _) kk os)
  generalize Go.Sort.grow (w.drewN kk) os = w1 at *
  rw [hit2]
  by_cases hk1 : 1 ≤ k
  · by_cases hk2 : k ≤ 16
    · go_wp2_with fail
      refine (v_valid _ _ h4).mono ?_
      rintro e w2 ⟨rfl, rfl⟩
      have hf12 := hf1
      have hb : bo = isName ((⟨#[108, 118, 45]⟩ : ByteArray) ++ id ++ (⟨#[45]⟩ : ByteArray) ++ it) := by rw [Hbo.out, ← HL.out]; unfold lvOk; simp [hk1, hk2]
      rw [← hb]
      have Hf := Lib.hid hf12
      clear hf1 hf12 hb
      cases bo
      · go_wp2_with fail
        refine bodyPost_ret (v := .tuple #[.string ⟨#[]⟩, .int .i64 340]) (by simp [results, Tryz.results30, go_sem]) rfl ?_
        exact ⟨by simp, Hf.out⟩
      · go_wp2_with fail
        refine bodyPost_ret (v := .tuple #[.string ((⟨#[108, 118, 45]⟩ : ByteArray) ++ id ++ (⟨#[45]⟩ : ByteArray) ++ it), .int .i64 0]) (by simp [results, Tryz.results30, go_sem]) rfl ?_
        exact ⟨by simp, Hf.out⟩
    · have hb : bo = false := by rw [Hbo.out]; unfold lvOk; simp [hk2]
      subst hb
      have Hf := Lib.hid hf1
      clear hf1
      go_wp2_with fail
      refine bodyPost_ret (v := .tuple #[.string ⟨#[]⟩, .int .i64 340]) (by simp [results, Tryz.results30, go_sem]) rfl ?_
      exact ⟨by simp, Hf.out⟩
  · have hb : bo = false := by rw [Hbo.out]; unfold lvOk; simp [hk1]
    subst hb
    have Hf := Lib.hid hf1
    clear hf1
    go_wp2_with fail
    refine bodyPost_ret (v := .tuple #[.string ⟨#[]⟩, .int .i64 340]) (by simp [results, Tryz.results30, go_sem]) rfl ?_
    exact ⟨by simp, Hf.out⟩

theorem lackAt_some {ps : List ByteArray} {j : Nat} {x : ByteArray} (h : ps[j]? = some x) : lackAt ps j = x.toList.isEmpty := by
  unfold lackAt; rw [h]

/-- What the reference's Want answers. -/
def WantR (gi : ByteArray) (t n : Int) (ins : List ByteArray) (rd : Int) (e : Ending) (w' : World) : Prop := ∃ a' c' V, e = .returned (.slice a' (V : List Vir).length c') ∧ Virs w' a' c' V ∧ V = wantL gi t n ins rd
set_option maxRecDepth 100000 in
set_option maxHeartbeats 4000000 in
theorem ref_want (gi : ByteArray) (t e n rd : Int) (pa : Option Addr) (pn pc : Nat) (la : Option Addr) (lc : Nat) (ins : List ByteArray) (w : World) (hE : Env w) (hid : gi.size ≤ 1000000) (hS : Strs w la lc ins) (hil : ins.length ≤ 1000000) :
    Calls Tryz.prog 32 #[.agg #[.string gi, .slice pa pn pc, .int .i64 t, .int .i64 e, .int .i64 n, .slice la ins.length lc], .int .i64 rd] w fun en w' => WantR gi t n ins rd en w' ∧ Fr No w w' := by
  obtain ⟨i0, hi0, hz0, hz1, hz2⟩ := info_parts infoV
  have hx : Fr No w (w.alloc (.cells #[.string gi, .slice pa pn pc, .int .i64 t, .int .i64 e, .int .i64 n, .slice la ins.length lc] 42)) := (Fr.refl _ _).alloc _
  have q0 := block_alloc w (.cells #[.string gi, .slice pa pn pc, .int .i64 t, .int .i64 e, .int .i64 n, .slice la ins.length lc] 42)
  have hm := hS.lenmax
  have hS0 := hS.no hx (fun _ => id)
  have hE0 := hE.no hx
  have hl0 := lt_of_block q0
  obtain ⟨W0, hW0⟩ : ∃ W0, W0 = w.alloc (.cells #[.string gi, .slice pa pn pc, .int .i64 t, .int .i64 e, .int .i64 n, .slice la ins.length lc] 42) := ⟨_, rfl⟩
  rw [← hW0] at hx q0 hS0 hE0 hl0
  have hcells : ∀ W : World, Fr (From W0.heap.size) W0 W → W.heap[w.heap.size]? = some (.cells #[.string gi, .slice pa pn pc, .int .i64 t, .int .i64 e, .int .i64 n, .slice la ins.length lc] 42) := fun W hf => hf.heap q0 (by unfold From; omega)
  have Hc := Lib.hid hcells
  have Hx := Lib.hid hx
  clear hx hS hE hcells q0
  go_enter Tryz.func32, Tryz.ntmps32
  go_upto_region 1 with (fail)
  rw [← hW0]
  clear hW0
  by_cases hnt : n = t
  · subst hnt
    go_wp2_with fail
    go_loopw [5, 6] (fun u i wr => ∃ (j : Nat) (V : List Vir) (av : Option Addr) (cv : Nat), j ≤ ins.length ∧ V.length ≤ j ∧ u = .slice av V.length cv ∧ i = .int .i64 ((j : Int) + 1) ∧ wr.ownsRow W0.heap.size 64 4 (.slice av V.length cv) V.length (vflat V) ∧ Hid (V = wantF gi ins rd j) ∧ Fr (From W0.heap.size) W0 wr) (fun _ i _ => (ins.length + 1 - (intOf i).toNat))
    case atStart => exact ⟨0, [], none, 0, by omega, by simp, rfl, rfl, World.ownsRow_nil _ _ _ _, by unfold Hid wantF; simp, Fr.refl _ _⟩
    case round =>
      obtain ⟨j, V, av, cv, hj, hVl, rfl, rfl, hown, HV, hf⟩ := hrel
      have hVle : V.length ≤ 1000000 := by omega
      have hq := Hc.out _ hf
      have x0 := cell_of_block hq 0
      have x2 := cell_of_block hq 2
      have x4 := cell_of_block hq 4
      have x5 := cell_of_block hq 5
      by_cases hlt : j < ins.length
      · have hlt' : (j : Int) + 1 ≤ ins.length := by omega
        obtain ⟨b, off, x, rfl, hxj, hc⟩ := (hS0.keep hf (fun b hb h => by unfold From at h; omega)).at hlt
        have hnm := ref_name gi ((j : Int) + 1) wr (hE0.no (hf.mono (fun b hb h => by unfold From at h; omega))) hid (WalkArith.wf_i64 (by omega))
        have Hxj := Lib.hid hxj
        have Hq := Lib.hid hq
        have hsr := hf.size
        clear hxj hq
        rcases hok : lvOk gi ((j : Int) + 1) with _ | _
        · rw [hok] at hnm
          simp only [Bool.false_eq_true, if_false] at hnm
          have HV2 : Hid (V = wantF gi ins rd (j + 1)) := by unfold Hid; rw [wantF_succ, hok]; simpa using HV.out
          clear hok
          go_wp2_with fail
          refine hnm.mono ?_
          rintro en w1 ⟨rfl, hf1⟩
          have H := Lib.hid (And.intro (ownsRow_at hown hf1 (fun _ _ h => h)) (hf.step hf1 (fun _ _ h => h.elim)))
          clear hown hf hf1 hnm HV x0 x2 x4 x5 hc
          go_wp2_with fail
          go_roundw
          case rel => exact ⟨j + 1, V, av, cv, by omega, by omega, rfl, by go_num, H.out.1, HV2, H.out.2⟩
          case measure => simp [intOf]; omega
        · rw [hok] at hnm
          simp only [if_true] at hnm
          have HV2 : Hid (wantF gi ins rd (j + 1) = V ++ [⟨⟨#[]⟩, lvT gi ((j : Int) + 1), x, rd⟩]) := by
            unfold Hid; rw [wantF_succ, hok, ← HV.out, if_pos rfl]
            unfold wantAt; rw [Hxj.out]; rfl
          clear hok
          go_wp2_with fail
          refine hnm.mono ?_
          rintro en w1 ⟨rfl, hf1⟩
          have hown1 := ownsRow_at hown hf1 (fun _ _ h => h)
          have hf01 := hf.step hf1 (fun _ _ h => h.elim)
          have hs1 := hf1.size
          have Hown1 := Lib.hid hown1
          have Hf01 := Lib.hid hf01
          have y5 := hf1.cell x5 id
          have hc1 := hf1.cell hc id
          obtain ⟨nm, hnm2⟩ : ∃ nm, nm = lvT gi ((j : Int) + 1) := ⟨_, rfl⟩
          rw [← hnm2] at HV2 ⊢
          clear hown hf hf1 hnm HV hf01 hnm2 x0 x2 x4 x5 hc
          go_wp2_with (at_builtin; refine wpList_append_own _ rfl _ _ 36 rfl W0.heap.size 64 i0 (.agg #[.string ByteArray.empty, .string ByteArray.empty, .string ByteArray.empty, .int .i64 0]) 4 56 Tryz.underlying36 hi0 hz0 hz1 hz2 rfl (by decide) _ _ _ rfl (hown1.alloc _) ⟨w1.heap.size, 0, none⟩ 1 1 (Vir.vals ⟨⟨#[]⟩, nm, x, rd⟩).toList rfl rfl (cells_new _ (Vir.vals ⟨⟨#[]⟩, nm, x, rd⟩) _ rfl) (vvals_one _) (by unfold maxLen; omega) (by omega) (by first | omega | (simp; done) | (simp; omega)) ?_; intro v' w9 hown9 hgrow9 _; obtain ⟨av', cv', rfl⟩ := ownsRow_slice hown9)
          have hgf : Fr (fun b => (Value.slice av V.length cv).ownBlock = some b) (w1.alloc (.cells (Vir.vals ⟨⟨#[]⟩, nm, x, rd⟩) 64)) w9 := Fr.of_grown hgrow9
          have hal : Fr No w1 (w1.alloc (.cells (Vir.vals ⟨⟨#[]⟩, nm, x, rd⟩) 64)) := (Fr.refl _ _).alloc _
          have HF := Lib.hid (And.intro hown9 ((Hf01.out.step hal (fun _ _ h => h.elim)).step hgf (fun b _ h => ownsRow_blk Hown1.out h)))
          clear hown9 hgf hal hgrow9 hown1
          go_roundw
          case rel => exact ⟨j + 1, V ++ [⟨⟨#[]⟩, nm, x, rd⟩], av', cv', by omega, by simp; omega, by simp, by go_num, by rw [List.length_append, vflat_snoc]; exact HF.out.1, Lib.hid HV2.out.symm, HF.out.2⟩
          case measure => simp [intOf]; omega
      · obtain rfl : j = ins.length := by omega
        have hlt' : ¬ (ins.length : Int) + 1 ≤ ins.length := by omega
        obtain ⟨a', c', hv, hR, hfresh⟩ := Virs.of_own hown
        cases hv
        have H := Lib.hid (And.intro hR (Hx.out.step (hf.mono (T := No) (fun b hb h => by unfold From at h; omega)) (fun _ _ h => h)))
        clear hown hf hR hfresh hq
        go_wp2_with fail
        go_ret
        exact ⟨⟨_, _, V, rfl, H.out.1, by unfold wantL; rw [if_pos rfl]; exact HV.out⟩, H.out.2⟩
  · have hb : (n == t) = false := by simpa using hnt
    have Hnt := Lib.hid hnt
    clear hnt
    go_wp2_with fail
    go_loopw [5, 6] (fun u i wr => u = .slice none 0 0 ∧ i = .int .i64 1 ∧ Fr (From W0.heap.size) W0 wr) (fun _ _ _ => 0)
    case atStart => exact ⟨rfl, rfl, Fr.refl _ _⟩
    case round =>
      obtain ⟨rfl, rfl, hf⟩ := hrel
      have hq := Hc.out _ hf
      have x2 := cell_of_block hq 2
      have x4 := cell_of_block hq 4
      have x5 := cell_of_block hq 5
      have H := Lib.hid (Hx.out.step (hf.mono (T := No) (fun b hb h => by unfold From at h; omega)) (fun _ _ h => h))
      clear hq hf
      by_cases hlt : (1 : Int) ≤ ins.length
      · go_wp2_with fail
        go_ret
        exact ⟨⟨none, 0, [], rfl, Virs.nil _, by unfold wantL; rw [if_neg Hnt.out]⟩, H.out⟩
      · go_wp2_with fail
        go_ret
        exact ⟨⟨none, 0, [], rfl, Virs.nil _, by unfold wantL; rw [if_neg Hnt.out]⟩, H.out⟩

set_option maxRecDepth 100000 in
set_option maxHeartbeats 2000000 in
theorem ref_lacks (s : ByteArray) (t e n : Int) (iv : Value) (a : Option Addr) (cap : Nat) (ps : List ByteArray) (w : World) (hS : Strs w a cap ps) (hps : ps.length ≤ 1000000) :
    Calls Tryz.prog 35 #[.agg #[.string s, .slice a ps.length cap, .int .i64 t, .int .i64 e, .int .i64 n, iv]] w fun en w' => (∃ a' c', en = .returned (.slice a' (lacksF ps ps.length).length c') ∧ Ints w' a' c' (lacksF ps ps.length)) ∧ Fr No w w' := by
  obtain ⟨i0, hi0, hz0, hz1, hz2⟩ := info_parts infoI2
  have hx : Fr No w (w.alloc (.cells #[.string s, .slice a ps.length cap, .int .i64 t, .int .i64 e, .int .i64 n, iv] 42)) := (Fr.refl _ _).alloc _
  have q0 := block_alloc w (.cells #[.string s, .slice a ps.length cap, .int .i64 t, .int .i64 e, .int .i64 n, iv] 42)
  have hm := hS.lenmax
  have hS0 := hS.no hx (fun _ => id)
  have hl0 := lt_of_block q0
  obtain ⟨W0, hW0⟩ : ∃ W0, W0 = w.alloc (.cells #[.string s, .slice a ps.length cap, .int .i64 t, .int .i64 e, .int .i64 n, iv] 42) := ⟨_, rfl⟩
  rw [← hW0] at hx q0 hS0 hl0
  have hcells : ∀ W : World, Fr (From W0.heap.size) W0 W → W.cell? ⟨w.heap.size, 1, none⟩ = some (.slice a ps.length cap) := fun W hf => cell_of_block (hf.heap q0 (by unfold From; omega)) 1
  have Hc := Lib.hid hcells
  have Hx := Lib.hid hx
  clear hx hS hcells q0
  go_enter Tryz.func35, Tryz.ntmps35
  go_upto_region 1 with (fail)
  rw [← hW0]
  clear hW0
  go_wp2_with fail
  go_loopw [3, 4] (fun u i wr => ∃ (j : Nat) (V : List Int) (av : Option Addr) (cv : Nat), j ≤ ps.length ∧ V.length ≤ j ∧ u = .slice av V.length cv ∧ i = .int .i64 (j : Int) ∧ wr.ownsRow W0.heap.size 3 1 (.slice av V.length cv) V.length (V.map (Value.int .i64)) ∧ Hid (V = lacksF ps j) ∧ Fr (From W0.heap.size) W0 wr) (fun _ i _ => ps.length - (intOf i).toNat)
  case atStart => exact ⟨0, [], none, 0, by omega, by simp, rfl, rfl, World.ownsRow_nil _ _ _ _, by unfold Hid lacksF; simp, Fr.refl _ _⟩
  case round =>
    obtain ⟨j, V, av, cv, hj, hVl, rfl, rfl, hown, HV, hf⟩ := hrel
    have hVle : V.length ≤ 1000000 := by omega
    have x1 := Hc.out _ hf
    have hsr := hf.size
    by_cases hlt : j < ps.length
    · have hlt' : (j : Int) < ps.length := by omega
      obtain ⟨b, off, x, rfl, hxj, hc⟩ := (hS0.keep hf (fun b hb h => by unfold From at h; omega)).at hlt
      have Hla := Lib.hid (lackAt_some hxj)
      clear hxj
      rcases hxe : x.toList.isEmpty with _ | _
      · have HV2 : Hid (V = lacksF ps (j + 1)) := by unfold Hid; rw [lacksF_succ, Hla.out, hxe]; simpa using HV.out
        have H := Lib.hid (And.intro hown hf)
        clear hown hf
        go_wp2_with fail
        go_roundw
        case rel => exact ⟨j + 1, V, av, cv, by omega, by omega, rfl, by go_num, H.out.1, HV2, H.out.2⟩
        case measure => simp [intOf]; omega
      · have HV2 : Hid (V ++ [(j : Int) + 1] = lacksF ps (j + 1)) := by unfold Hid; rw [lacksF_succ, Hla.out, hxe, HV.out]; rfl
        have Hown := Lib.hid hown
        have Hf := Lib.hid hf
        have hxe' : x.toList = [] := List.isEmpty_iff.1 hxe
        clear hf hxe
        have hal : Fr No wr (wr.alloc (.cells #[.int .i64 ((j : Int) + 1)] 3)) := (Fr.refl _ _).alloc _
        go_wp2_with (at_builtin; refine wpList_append_own _ rfl _ _ 22 rfl W0.heap.size 3 i0 (.int .i64 0) 1 8 Tryz.underlying22 hi0 hz0 hz1 hz2 rfl (by decide) _ _ _ rfl (hown.alloc _) ⟨wr.heap.size, 0, none⟩ 1 1 [.int .i64 ((j : Int) + 1)] rfl rfl (cell_one_new _ _ _) (ints_oneCell _ [(j : Int) + 1]) (by unfold maxLen; omega) (by omega) (by first | omega | (simp; done) | (simp; omega)) ?_; intro v' w9 hown9 hgrow9 _; obtain ⟨av', cv', rfl⟩ := ownsRow_slice hown9)
        have hgf : Fr (fun b => (Value.slice av V.length cv).ownBlock = some b) (wr.alloc (.cells #[.int .i64 ((j : Int) + 1)] 3)) w9 := Fr.of_grown hgrow9
        have HF := Lib.hid (And.intro hown9 ((Hf.out.step hal (fun _ _ h => h.elim)).step hgf (fun b _ h => ownsRow_blk Hown.out h)))
        clear hown9 hgf hal hgrow9 hown
        go_roundw
        case rel => exact ⟨j + 1, V ++ [(j : Int) + 1], av', cv', by omega, by simp; omega, by simp, by go_num, by rw [List.length_append, List.map_append]; exact HF.out.1, HV2, HF.out.2⟩
        case measure => simp [intOf]; omega
    · obtain rfl : j = ps.length := by omega
      have hVe := HV.out
      obtain ⟨a', c', hv, hR, hfresh⟩ := Ints.of_own hown (fun x hx => lacksF_wf hps x (by rw [← hVe]; exact hx))
      cases hv
      have H := Lib.hid (And.intro hR (And.intro hVe (Hx.out.step (hf.mono (T := No) (fun b hb h => by unfold From at h; omega)) (fun _ _ h => h))))
      clear hown hf hR hfresh hVe HV
      go_wp2_with fail
      go_ret
      refine ⟨?_, H.out.2.2⟩
      rw [← H.out.2.1]
      exact ⟨_, _, rfl, H.out.1⟩
end Go.Proofs.YtbblkknndaoefaaGreatDoor
namespace Go.Proofs.YtbblkknndaoefaaGreatDoor
open Go.RowKit Go.Maps Go.ChangeShapes
set_option linter.unusedVariables false

/-- What a row's size bound says of one argument. -/
def Wt {H : Type} (t : TypeId) (d : DataW H) : Prop := ∀ n ∈ d.weights Tryz.prog t, n ≤ reachBytes
theorem wt_all {H : Type} (e : TypeId) : ∀ (l : List (DataW H)) (d : DataW H), d ∈ l → ∀ n ∈ d.weights Tryz.prog e, n ∈ DataW.weightsAll Tryz.prog e l
  | x :: t, d, h, n, hn => by
    simp only [DataW.weightsAll, List.mem_append]
    rcases List.mem_cons.1 h with rfl | h
    · exact .inl hn
    · exact .inr (wt_all e t d h n hn)
  | [], d, h, _, _ => by cases h
theorem wt_string {H : Type} {t : TypeId} {s : ByteArray} (h : Wt t (.lit (.string s.data.toList) : DataW H)) : s.size ≤ reachBytes := by
  have h1 := h s.data.toList.length (by simp [DataW.weights])
  rwa [Array.length_toList] at h1
theorem wt_slice {H : Type} {t e : TypeId} {el sp : List (DataW H)} (hu : Tryz.prog.underlying t = some (.slice e)) (h : Wt t (.slice el sp)) :
    (el.length + sp.length) * Tryz.prog.bytesOf e ≤ reachBytes ∧ ∀ d ∈ el, Wt e d := by
  refine ⟨h _ (by simp [DataW.weights, hu]), fun d hd n hn => h n ?_⟩
  simp only [DataW.weights, hu, List.mem_cons, List.mem_append]
  exact .inr (.inl (wt_all e el d hd n hn))
theorem wt_struct {H : Type} {t : TypeId} {fs : Array Field} {parts : List (DataW H)} (hu : Tryz.prog.underlying t = some (.struct fs)) (h : Wt t (.agg parts)) {j : Nat} {f : Field} {d : DataW H} (hf : fs[j]? = some f) (hd : parts[j]? = some d) : Wt f.type d := fun n hn => h n (by
  simp only [DataW.weights, hu]
  exact DataW.weights_mem_each (j := j) (by rw [List.getElem?_map, Array.getElem?_toList, hf]; rfl) hd n hn)
theorem wt_each {H : Type} {ts : List TypeId} {ds : List (DataW H)} (h : (DataW.weightsEach Tryz.prog ts ds).all (· ≤ reachBytes) = true) {j : Nat} {t : TypeId} {d : DataW H} (ht : ts[j]? = some t) (hd : ds[j]? = some d) : Wt t d := fun n hn => by
  have := List.all_eq_true.1 h n (DataW.weights_mem_each ht hd n hn)
  simpa using this

section
variable {H : Type} {enc : TypeId × Value → H} {w : World} {base : Nat} {spare : Nat → Bool} {held : Bool}
theorem lt_of_cell {w : World} {p : Addr} {v : Value} (h : w.cell? p = some v) : p.block < w.heap.size := by
  unfold World.cell? at h
  cases hh : w.heap[p.block]? with
  | none => simp [hh] at h
  | some o => exact (Array.getElem?_eq_some_iff.1 hh).1
/-- The bounds of texts that came in. -/
structure StrsIn (l : List ByteArray) : Prop where
  n : l.length * 16 ≤ reachBytes
  s : ∀ x ∈ l, x.size ≤ reachBytes
set_option maxRecDepth 100000 in
theorem open_strs_raw {fuel : Nat} {cs : List Value} {x : DataW H × List MemPlace} (h : DataW.trod enc Tryz.prog w base spare held fuel 33 cs = some x) (hz : Wt 33 x.1) :
    ∃ a c l, cs = [.slice a (l : List ByteArray).length c] ∧ Strs w a c l ∧ StrsIn l := by
  rcases open_strings Tryz.underlying33 Tryz.underlying9 (by kernel_rfl) h with ⟨rfl, _⟩ | ⟨a, len, cap, ss, rfl, hb, h1, h2, h3, rfl, h4, h5⟩
  · exact ⟨none, 0, [], rfl, Strs.nil w, ⟨by simp, by simp⟩⟩
  · have hle : len ≤ ss.length := by rw [h3]; split <;> omega
    have hl : (ss.take len).length = len := by rw [List.length_take]; omega
    obtain ⟨z1, z2⟩ := wt_slice Tryz.underlying33 hz
    have hbs : Tryz.prog.bytesOf 9 = 16 := by kernel_rfl
    rw [hbs] at z1
    have z3 : (strs (H := H) (ss.take len)).length = (ss.take len).length := by simp [strs]
    refine ⟨some a, cap, ss.take len, by rw [hl], ⟨by omega, h2, (fun e => by cases e), fun ad e hne => ?_⟩, ⟨by rw [z3] at z1; omega, fun s hs => wt_string (z2 _ (List.mem_map.2 ⟨s, hs, rfl⟩))⟩⟩
    cases e
    have hpos : 0 < (ss.take len).length := List.length_pos_iff.2 hne
    have h0 := h4 0 (by omega)
    have hsp : a.spot = none := by simpa [Addr.add] using World.cell?_spot h0
    have hbl := lt_of_cell h0
    obtain ⟨b, off, sp⟩ := a
    simp at hsp
    subst hsp
    rw [Addr.add_lit] at hbl
    refine ⟨rfl, hbl, fun i y hi => ?_⟩
    have hlt : i < (ss.take len).length := (List.getElem?_eq_some_iff.1 hi).1
    have h6 := h4 i (by omega)
    rw [List.getElem?_take_of_lt (by omega)] at hi
    rw [List.getD_eq_getElem?_getD, hi, Addr.add_lit] at h6
    simpa using h6
set_option maxRecDepth 100000 in
theorem structMem : ∃ f0 f1 f2 f3 f4 f5 f6 : Field, Tryz.prog.underlying 58 = some (.struct #[f0, f1, f2, f3, f4, f5, f6]) ∧ (f0.offset = 0 ∧ f0.type = 9) ∧ (f1.offset = 1 ∧ f1.type = 9) ∧ (f2.offset = 2 ∧ f2.type = 3) ∧ (f3.offset = 3 ∧ f3.type = 3) ∧ (f4.offset = 4 ∧ f4.type = 3) ∧ (f5.offset = 5 ∧ f5.type = 3) ∧ (f6.offset = 6 ∧ f6.type = 33) :=
  ⟨_, _, _, _, _, _, _, Tryz.underlying58, ⟨rfl, rfl⟩, ⟨rfl, rfl⟩, ⟨rfl, rfl⟩, ⟨rfl, rfl⟩, ⟨rfl, rfl⟩, ⟨rfl, rfl⟩, ⟨rfl, rfl⟩⟩
/-- The bounds of a member that came in. -/
structure MemIn (m : Mem) : Prop where
  p : m.p.size ≤ reachBytes
  i : m.i.size ≤ reachBytes
  r : (Lit.int .i64 m.r).wf = true
  s : (Lit.int .i64 m.s).wf = true
  t : (Lit.int .i64 m.t).wf = true
  e : (Lit.int .i64 m.e).wf = true
  l : StrsIn m.l
set_option maxRecDepth 100000 in
theorem open_mem_raw {fuel : Nat} {cs : List Value} {x : DataW H × List MemPlace} (h : DataW.trod enc Tryz.prog w base spare held fuel 58 cs = some x) (hz : Wt 58 x.1) :
    ∃ m : Mem, cs = m.vals.toList ∧ Strs w m.a m.c m.l ∧ MemIn m := by
  obtain ⟨f0, f1, f2, f3, f4, f5, f6, hu, ⟨o0, t0⟩, ⟨o1, t1⟩, ⟨o2, t2⟩, ⟨o3, t3⟩, ⟨o4, t4⟩, ⟨o5, t5⟩, ⟨o6, t6⟩⟩ := structMem
  obtain ⟨xs, k, hk, hxy, hlen, hxl, hf⟩ := DataW.trod_struct hu h
  have hc : Tryz.prog.cellsOf 58 = 7 := by kernel_rfl
  have hcs : Tryz.prog.cellsOf 9 = 1 := by kernel_rfl
  have hci : Tryz.prog.cellsOf 3 = 1 := by kernel_rfl
  have hcl : Tryz.prog.cellsOf 33 = 1 := by kernel_rfl
  rw [hc] at hlen
  match xs, hxl, cs, hlen with
  | [y0, y1, y2, y3, y4, y5, y6], _, [v0, v1, v2, v3, v4, v5, v6], _ =>
    have g0 := hf 0 f0 rfl
    have g1 := hf 1 f1 rfl
    have g2 := hf 2 f2 rfl
    have g3 := hf 3 f3 rfl
    have g4 := hf 4 f4 rfl
    have g5 := hf 5 f5 rfl
    have g6 := hf 6 f6 rfl
    rw [o0, t0, hcs] at g0
    rw [o1, t1, hcs] at g1
    rw [o2, t2, hci] at g2
    rw [o3, t3, hci] at g3
    rw [o4, t4, hci] at g4
    rw [o5, t5, hci] at g5
    rw [o6, t6, hcl] at g6
    subst hxy
    have zz := fun (j : Nat) (f : Field) (d : DataW H) h1 h2 => wt_struct (j := j) (f := f) (d := d) hu hz h1 h2
    have z0 := zz 0 f0 y0.1 rfl rfl
    have z1 := zz 1 f1 y1.1 rfl rfl
    have z6 := zz 6 f6 y6.1 rfl rfl
    rw [t0] at z0
    rw [t1] at z1
    rw [t6] at z6
    obtain ⟨s0, e0, d0, b0⟩ := DataW.trod_string Tryz.underlying9 (show DataW.trod enc Tryz.prog w base spare held k 9 [v0] = some y0 from g0)
    obtain ⟨s1, e1, d1, b1⟩ := DataW.trod_string Tryz.underlying9 (show DataW.trod enc Tryz.prog w base spare held k 9 [v1] = some y1 from g1)
    obtain ⟨n2, e2, _, b2⟩ := DataW.trod_int Tryz.underlying3 (show DataW.trod enc Tryz.prog w base spare held k 3 [v2] = some y2 from g2)
    obtain ⟨n3, e3, _, b3⟩ := DataW.trod_int Tryz.underlying3 (show DataW.trod enc Tryz.prog w base spare held k 3 [v3] = some y3 from g3)
    obtain ⟨n4, e4, _, b4⟩ := DataW.trod_int Tryz.underlying3 (show DataW.trod enc Tryz.prog w base spare held k 3 [v4] = some y4 from g4)
    obtain ⟨n5, e5, _, b5⟩ := DataW.trod_int Tryz.underlying3 (show DataW.trod enc Tryz.prog w base spare held k 3 [v5] = some y5 from g5)
    obtain ⟨a, c, l, e6, hS, hl⟩ := open_strs_raw (show DataW.trod enc Tryz.prog w base spare held k 33 [v6] = some y6 from g6) z6
    rw [d0] at z0
    rw [d1] at z1
    cases e0; cases e1; cases e2; cases e3; cases e4; cases e5; cases e6
    exact ⟨⟨s0, s1, n2, n3, n4, n5, a, l, c⟩, rfl, hS, ⟨wt_string z0, wt_string z1, b2, b3, b4, b5, hl⟩⟩

set_option maxRecDepth 100000 in
theorem open_mems_raw {fuel : Nat} {cs : List Value} {x : DataW H × List MemPlace} (h : DataW.trod enc Tryz.prog w base spare held fuel 23 cs = some x) (hz : Wt 23 x.1) :
    ∃ a c L, cs = [.slice a (L : List Mem).length c] ∧ Mems w a c L ∧ ∀ m ∈ L, MemIn m := by
  rcases Go.Deep.open_slice Tryz.underlying23 h with ⟨rfl, _⟩ | ⟨a, len, cap, m, n, D, Pl, rfl, hb, hl, hm, hmm, rfl, hx⟩
  · exact ⟨none, 0, [], rfl, Mems.nil w, by simp⟩
  · have hc : Tryz.prog.cellsOf 58 = 7 := by kernel_rfl
    rw [hc] at hx
    have hlm : len ≤ m := by rw [hmm]; split <;> omega
    have each : ∀ i, i < len → ∃ M : Mem, (∀ j, j < 7 → w.cell? ((a.add (i * 7)).add j) = M.vals[j]?) ∧ Strs w M.a M.c M.l ∧ MemIn M := fun i hi => by
      obtain ⟨cs', h1, h2⟩ := hx i (by omega)
      obtain ⟨M, rfl, hS, hM⟩ := open_mem_raw h2 ((wt_slice Tryz.underlying23 hz).2 _ (List.mem_map.2 ⟨i, List.mem_range.2 hi, rfl⟩))
      obtain ⟨_, _, h3⟩ := World.cells?_some h1
      exact ⟨M, fun j hj => by rw [h3 j hj]; simp, hS, hM⟩
    obtain ⟨F, hF⟩ : ∃ F : Nat → Mem, ∀ i, i < len → (∀ j, j < 7 → w.cell? ((a.add (i * 7)).add j) = (F i).vals[j]?) ∧ Strs w (F i).a (F i).c (F i).l ∧ MemIn (F i) := by
      refine ⟨fun i => if hi : i < len then Classical.choose (each i hi) else Mem.zero, fun i hi => ?_⟩
      simp only [hi, dif_pos]
      exact Classical.choose_spec (each i hi)
    have hL : ((List.range len).map F).length = len := by simp
    refine ⟨some a, cap, (List.range len).map F, by rw [hL], ⟨by rw [hL]; exact hl, hm, (fun e => by cases e), fun M hM => ?_, fun ad e hne => ?_⟩, fun M hM => ?_⟩
    · obtain ⟨i, hi, rfl⟩ := List.mem_map.1 hM
      exact (hF i (List.mem_range.1 hi)).2.1
    · cases e
      have hpos : 0 < len := by rw [← hL]; exact List.length_pos_iff.2 hne
      have h0 := (hF 0 hpos).1 0 (by omega)
      have h0' : w.cell? ((a.add (0 * 7)).add 0) = some (.string (F 0).p) := by rw [h0]; rfl
      have hsp : a.spot = none := by simpa [Addr.add] using World.cell?_spot h0'
      have hbl := lt_of_cell h0'
      obtain ⟨b, off, sp⟩ := a
      simp at hsp
      subst hsp
      rw [Addr.add_lit, Addr.add_lit] at hbl
      refine ⟨rfl, hbl, fun i M hi j hj => ?_⟩
      have hil : i < len := by rw [← hL]; exact (List.getElem?_eq_some_iff.1 hi).1
      have h6 := (hF i hil).1 j hj
      rw [List.getElem?_map, List.getElem?_range hil] at hi
      obtain rfl : F i = M := by simpa using hi
      rw [Addr.add_lit, Addr.add_lit] at h6
      rw [← h6]
      rw [← Nat.add_assoc]
    · obtain ⟨i, hi, rfl⟩ := List.mem_map.1 hM
      exact (hF i (List.mem_range.1 hi)).2.2
end
end Go.Proofs.YtbblkknndaoefaaGreatDoor
namespace Go.Proofs.YtbblkknndaoefaaGreatDoor
open Go.RowKit Go.Maps
set_option linter.unusedVariables false

def sumM (L : List Mem) : Nat := (L.map fun m => m.p.size + m.i.size + m.l.length).sum
def sumK (K : List ByteArray) : Nat := (K.map fun x => x.size).sum
theorem sumM_take {L : List Mem} {k : Nat} {m : Mem} (h : L[k]? = some m) : sumM (L.take (k + 1)) = sumM (L.take k) + (m.p.size + m.i.size + m.l.length) := by
  unfold sumM; rw [List.take_add_one, h]; simp
theorem sumK_take {K : List ByteArray} {k : Nat} {x : ByteArray} (h : K[k]? = some x) : sumK (K.take (k + 1)) = sumK (K.take k) + x.size := by
  unfold sumK; rw [List.take_add_one, h]; simp
theorem sumM_le : ∀ {L : List Mem} {m : Mem}, m ∈ L → m.p.size + m.i.size + m.l.length ≤ sumM L
  | x :: t, m, h => by
    have e : sumM (x :: t) = (x.p.size + x.i.size + x.l.length) + sumM t := by simp [sumM]
    rcases List.mem_cons.1 h with rfl | h
    · omega
    · have := sumM_le h; omega
theorem sumK_le : ∀ {K : List ByteArray} {x : ByteArray}, x ∈ K → x.size ≤ sumK K
  | y :: t, x, h => by
    have e : sumK (y :: t) = y.size + sumK t := by simp [sumK]
    rcases List.mem_cons.1 h with rfl | h
    · omega
    · have := sumK_le h; omega
theorem sumM_bound : ∀ {L : List Mem}, (∀ m ∈ L, MemIn m) → sumM L ≤ L.length * 422212465065984
  | [], _ => by simp [sumM]
  | x :: t, h => by
    have e : sumM (x :: t) = (x.p.size + x.i.size + x.l.length) + sumM t := by simp [sumM]
    have ih := sumM_bound (L := t) (fun m hm => h m (by simp [hm]))
    have h1 := (h x (by simp)).p
    have h2 := (h x (by simp)).i
    have h3 := (h x (by simp)).l.n
    unfold reachBytes at h1 h2 h3
    rw [e, List.length_cons]
    omega
theorem sumK_bound : ∀ {K : List ByteArray}, (∀ x ∈ K, x.size ≤ reachBytes) → sumK K ≤ K.length * 140737488351232
  | [], _ => by simp [sumK]
  | x :: t, h => by
    have e : sumK (x :: t) = x.size + sumK t := by simp [sumK]
    have ih := sumK_bound (K := t) (fun m hm => h m (by simp [hm]))
    have h1 := h x (by simp)
    unfold reachBytes at h1
    rw [e, List.length_cons]
    omega
/-- What few says, if it says so. -/
structure FewOk (L : List Mem) (K : List ByteArray) : Prop where
  n : L.length ≤ 40
  k : K.length ≤ 40
  m : ∀ m ∈ L, m.p.size ≤ 2000 ∧ m.i.size ≤ 2000 ∧ m.l.length ≤ 2000
  x : ∀ x ∈ K, x.size ≤ 2000
theorem FewOk.of {L : List Mem} {K : List ByteArray} (h1 : L.length ≤ 40) (h2 : K.length ≤ 40) (h : sumM L + sumK K ≤ 2000) : FewOk L K :=
  ⟨h1, h2, fun m hm => by have := sumM_le hm; omega, fun x hx => by have := sumK_le hx; omega⟩

/-- What few answers. -/
def FewR (L : List Mem) (K : List ByteArray) (e : Ending) : Prop := ∃ b, e = .returned (.bool b) ∧ (b = true → FewOk L K)
set_option maxRecDepth 100000 in
set_option maxHeartbeats 4000000 in
theorem few33 (a : Option Addr) (cap : Nat) (L : List Mem) (ka : Option Addr) (kc : Nat) (K : List ByteArray) (w : World) (hl : Mems w a cap L) (hL : ∀ m ∈ L, MemIn m) (hk : Strs w ka kc K) (hK : StrsIn K) :
    Calls Tryz.prog 15 #[.slice a L.length cap, .slice ka K.length kc] w fun e w' => FewR L K e ∧ Fr No w w' := by
  have hlm := hl.lenmax
  have hkm := hk.lenmax
  by_cases h40 : L.length ≤ 40 ∧ K.length ≤ 40
  · obtain ⟨h1, h2⟩ := h40
    have HL := Lib.hid hL
    have HK := Lib.hid hK.s
    clear hL hK
    go_enter Tryz.func15, Tryz.ntmps15
    go_wp2_with fail
    go_loopw [5, 6] (fun n i wr => ∃ k : Nat, k ≤ L.length ∧ n = .int .i64 (sumM (L.take k) : Nat) ∧ i = .int .i64 (k : Int) ∧ Fr No w wr) (fun _ i _ => L.length - (intOf i).toNat)
    case atStart => exact ⟨0, by omega, by simp [sumM], rfl, Fr.refl _ _⟩
    case round =>
      obtain ⟨k, hk1, rfl, rfl, hf⟩ := hrel
      by_cases hlt : k < L.length
      · have hlt' : (k : Int) < L.length := by omega
        have hb1 := sumM_bound (L := L.take k) (fun m hm => HL.out m (List.mem_of_mem_take hm))
        rw [List.length_take] at hb1
        have hb2 : sumM (L.take k) ≤ 40 * 422212465065984 := by
          have : min k L.length ≤ 40 := by omega
          exact Nat.le_trans hb1 (Nat.mul_le_mul_right _ this)
        go_wp2_with fail
        refine region_sig No [(0, false), (1, false), (2, false), (3, false), (4, false), (5, false), (6, false), (7, false), (8, false), (9, false), (10, false), (11, false), (12, false), (13, false), (14, false), (15, false), (16, false), (17, false), (18, false), (19, false), (20, false), (21, false), (22, false)] (by kernel_rfl) (by kernel_rfl) (fun w0 hf0 => ?_)
        have hf1 := hf.step hf0 (fun _ _ h => h)
        obtain ⟨mb, mo, m, rfl, hmk, _, ⟨c0, c1, c2, c3, c4, c5, c6⟩, _⟩ := (hl.no hf1 (fun _ => id)).elem hlt
        have hin := HL.out m (List.mem_of_getElem? hmk)
        have hz1 : m.p.size ≤ 140737488351232 := hin.p
        have hz2 : m.i.size ≤ 140737488351232 := hin.i
        have hz3 : m.l.length * 16 ≤ 140737488351232 := hin.l.n
        have Hs := Lib.hid (sumM_take hmk)
        have g0 : ∀ g : Gr No w0, g.W.cell? ⟨mb, mo + k * 7, none⟩ = some (.string m.p) := fun g => g.fr.cell c0 id
        have g1 : ∀ g : Gr No w0, g.W.cell? ⟨mb, mo + k * 7 + 1, none⟩ = some (.string m.i) := fun g => g.fr.cell c1 id
        have g6 : ∀ g : Gr No w0, g.W.cell? ⟨mb, mo + k * 7 + 6, none⟩ = some (.slice m.a m.l.length m.c) := fun g => g.fr.cell c6 id
        have Hf1 := Lib.hid hf1
        clear c0 c1 c2 c3 c4 c5 c6 hmk hf0 hf hf1 hin hb1
        repeat (first | (apply sig_q; exact rfl; exact rfl; exact rfl; intro K hK; go_big_quiet_op; go_big_quiet_on) | (apply sig_skip; exact rfl; exact rfl; exact rfl; intro K hK; go_big_quiet_op; go_big_quiet_on))
        refine sig_end ?_
        clear g0 g1 g6
        go_wp2_with fail
        go_roundw
        case rel => exact ⟨k + 1, by omega, by rw [Hs.out]; go_num, by go_num, Hf1.out⟩
        case measure => simp [intOf]; omega
      · obtain rfl : k = L.length := by omega
        rw [List.take_length]
        have hb1 := sumM_bound (L := L) HL.out
        have hb2 : sumM L ≤ 40 * 422212465065984 := Nat.le_trans hb1 (Nat.mul_le_mul_right _ h1)
        have Hf := Lib.hid hf
        clear hb1 hf
        go_wp2_with fail
        go_loopw [5, 7] (fun n i wr2 => ∃ k : Nat, k ≤ K.length ∧ n = .int .i64 ((sumM L + sumK (K.take k) : Nat) : Int) ∧ i = .int .i64 (k : Int) ∧ Fr No w wr2) (fun _ i _ => K.length - (intOf i).toNat)
        case atStart => exact ⟨0, by omega, by simp [sumK], rfl, Hf.out⟩
        case round =>
          obtain ⟨k, hk1, rfl, rfl, hf⟩ := hrel
          by_cases hlt : k < K.length
          · have hlt' : (k : Int) < K.length := by omega
            have hb1 := sumK_bound (K := K.take k) (fun m hm => HK.out m (List.mem_of_mem_take hm))
            rw [List.length_take] at hb1
            have hb3 : sumK (K.take k) ≤ 40 * 140737488351232 := by
              have : min k K.length ≤ 40 := by omega
              exact Nat.le_trans hb1 (Nat.mul_le_mul_right _ this)
            obtain ⟨xb, xo, x, rfl, hxk, cx⟩ := (hk.no hf (fun _ => id)).at hlt
            have hz1 : x.size ≤ 140737488351232 := HK.out x (List.mem_of_getElem? hxk)
            have Hs := Lib.hid (sumK_take hxk)
            clear hxk hb1
            go_wp2_with fail
            go_roundw
            case rel => exact ⟨k + 1, by omega, by rw [Hs.out]; go_num, by go_num, hf⟩
            case measure => simp [intOf]; omega
          · obtain rfl : k = K.length := by omega
            rw [List.take_length]
            have h1' : (L.length : Int) ≤ 40 := by omega
            have h2' : (K.length : Int) ≤ 40 := by omega
            by_cases hs : sumM L + sumK K ≤ 2000
            · have hs' : ((sumM L + sumK K : Nat) : Int) ≤ 2000 := by omega
              have Hok : Hid (FewOk L K) := FewOk.of h1 h2 hs
              clear hs
              go_wp2_with fail
              go_ret
              exact ⟨⟨_, rfl, fun _ => Hok.out⟩, hf⟩
            · have hs' : ¬ ((sumM L + sumK K : Nat) : Int) ≤ 2000 := by omega
              clear hs
              go_wp2_with fail
              go_ret
              exact ⟨⟨_, rfl, fun h => by simp at h⟩, hf⟩
  · have Hno : Hid (¬ (L.length ≤ 40 ∧ K.length ≤ 40)) := h40
    clear h40 hL hK
    go_enter Tryz.func15, Tryz.ntmps15
    go_wp2_with fail
    go_loopw [5, 6] (fun n i wr => ∃ (k : Nat) (z : Int), k ≤ L.length ∧ n = .int .i64 z ∧ i = .int .i64 (k : Int) ∧ Fr No w wr) (fun _ i _ => L.length - (intOf i).toNat)
    case atStart => exact ⟨0, 0, by omega, rfl, rfl, Fr.refl _ _⟩
    case round =>
      obtain ⟨k, z, hk1, rfl, rfl, hf⟩ := hrel
      by_cases hlt : k < L.length
      · have hlt' : (k : Int) < L.length := by omega
        go_wp2_with fail
        refine region_sig No [(0, false), (1, false), (2, false), (3, false), (4, false), (5, false), (6, false), (7, false), (8, false), (9, false), (10, false), (11, false), (12, false), (13, false), (14, false), (15, false), (16, false), (17, false), (18, false), (19, false), (20, false), (21, false), (22, false)] (by kernel_rfl) (by kernel_rfl) (fun w0 hf0 => ?_)
        have hf1 := hf.step hf0 (fun _ _ h => h)
        obtain ⟨mb, mo, m, rfl, hmk, _, ⟨c0, c1, c2, c3, c4, c5, c6⟩, _⟩ := (hl.no hf1 (fun _ => id)).elem hlt
        have g0 : ∀ g : Gr No w0, g.W.cell? ⟨mb, mo + k * 7, none⟩ = some (.string m.p) := fun g => g.fr.cell c0 id
        have g1 : ∀ g : Gr No w0, g.W.cell? ⟨mb, mo + k * 7 + 1, none⟩ = some (.string m.i) := fun g => g.fr.cell c1 id
        have g6 : ∀ g : Gr No w0, g.W.cell? ⟨mb, mo + k * 7 + 6, none⟩ = some (.slice m.a m.l.length m.c) := fun g => g.fr.cell c6 id
        have Hf1 := Lib.hid hf1
        clear c0 c1 c2 c3 c4 c5 c6 hmk hf0 hf hf1
        repeat (first | (apply sig_q; exact rfl; exact rfl; exact rfl; intro K hK; go_big_quiet_op; go_big_quiet_on) | (apply sig_skip; exact rfl; exact rfl; exact rfl; intro K hK; go_big_quiet_op; go_big_quiet_on))
        refine sig_end ?_
        clear g0 g1 g6
        go_wp2_with fail
        go_roundw
        case rel => exact ⟨k + 1, _, by omega, rfl, by go_num, Hf1.out⟩
        case measure => simp [intOf]; omega
      · obtain rfl : k = L.length := by omega
        have Hf := Lib.hid hf
        clear hf
        go_wp2_with fail
        go_loopw [5, 7] (fun n i wr2 => ∃ (k : Nat) (z : Int), k ≤ K.length ∧ n = .int .i64 z ∧ i = .int .i64 (k : Int) ∧ Fr No w wr2) (fun _ i _ => K.length - (intOf i).toNat)
        case atStart => exact ⟨0, _, by omega, rfl, rfl, Hf.out⟩
        case round =>
          obtain ⟨k, z, hk1, rfl, rfl, hf⟩ := hrel
          by_cases hlt : k < K.length
          · have hlt' : (k : Int) < K.length := by omega
            obtain ⟨xb, xo, x, rfl, hxk, cx⟩ := (hk.no hf (fun _ => id)).at hlt
            clear hxk
            go_wp2_with fail
            go_roundw
            case rel => exact ⟨k + 1, _, by omega, rfl, by go_num, hf⟩
            case measure => simp [intOf]; omega
          · obtain rfl : k = K.length := by omega
            by_cases hz : z ≤ 2000
            · by_cases h1 : L.length ≤ 40
              · have h2' : ¬ (K.length : Int) ≤ 40 := by
                  intro h
                  exact Hno.out ⟨h1, by omega⟩
                have h1' : (L.length : Int) ≤ 40 := by omega
                clear h1
                go_wp2_with fail
                go_ret
                exact ⟨⟨_, rfl, fun h => by simp at h⟩, hf⟩
              · have h1' : ¬ (L.length : Int) ≤ 40 := by omega
                clear h1
                go_wp2_with fail
                go_ret
                exact ⟨⟨_, rfl, fun h => by simp at h⟩, hf⟩
            · go_wp2_with fail
              go_ret
              exact ⟨⟨_, rfl, fun h => by simp at h⟩, hf⟩
end Go.Proofs.YtbblkknndaoefaaGreatDoor
