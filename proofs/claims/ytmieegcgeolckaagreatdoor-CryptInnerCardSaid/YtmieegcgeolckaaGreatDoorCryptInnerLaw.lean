/- The law CryptInner returns true at every input and leaves its argument as it was. Conditions: none beyond the given statement's own. -/
import Derived.Test.YtmieegcgeolckaaGreatDoorZ7
import Derived.Test.YtmieegcgeolckaaGreatDoorZ14
import Derived.Test.YtmieegcgeolckaaGreatDoorCards
import Derived.Test.YtmieegcgeolckaaGreatDoorTie
import Derived.WalkKit
import Derived.ProofKit
import Derived.OpenShut
import Derived.ChangeOld
import Derived.Below
import Derived.LaidMore
import Derived.Lay
import Derived.SevenTiedAt
import Derived.Shelf.Vars
import Derived.Stop.LaidErr
import Derived.MakeChecks
namespace Go.Proofs.YtmieegcgeolckaaGreatDoor
open Go
set_option linter.unusedVariables false

def inPre : ByteArray := ⟨#[99, 114, 121, 112, 116, 58, 107, 40]⟩
def kIk : ByteArray := ⟨#[107]⟩
theorem id_no40 {i : ByteArray} (h : isId i = true) : ∀ b ∈ bl i, b ≠ 40 := by
  intro b hb e
  unfold isId at h
  simp only [Bool.and_eq_true] at h
  have h1 := List.all_eq_true.1 h.2 b hb
  subst e
  revert h1
  decide
theorem kind_of {X : Ct} (hv : X.valid = true) {r : List UInt8} (ht : X.text = 99 :: r) : X.kind = 3 := by
  obtain ⟨k, i, l, s, t, e, n⟩ := X
  by_cases h0 : k = 0
  · subst h0; rw [text0] at ht; cases ht
  by_cases h1 : k = 1
  · subst h1; rw [text1] at ht; simp at ht
  by_cases h2 : k = 2
  · subst h2; rw [text2] at ht; simp at ht
  by_cases h3 : k = 3
  · exact h3
  by_cases h4 : k = 4
  · subst h4; rw [text4] at ht; simp at ht
  by_cases h5 : k = 5
  · subst h5; rw [text5] at ht; simp at ht
  exfalso
  unfold Ct.valid Ct.good at hv
  simp only [Bool.and_eq_true] at hv
  have h := hv.2.1
  simp [alike, h0, h1, h2, h3, h4, h5] at h
theorem inner_parse {c : ByteArray} {X : Ct} (hX : parseC (inPre ++ c ++ ⟨#[41]⟩) = some X) : X.kind = 3 ∧ X.id = kIk ∧ ∃ d, X.inner = [d] ∧ parseC c = some d ∧ d.depth < X.depth ∧ X.inner.map Ct.txt = [c] := by
  obtain ⟨hl, hv, ht⟩ := (parse_iff _ _).1 hX
  have hb : bl (inPre ++ c ++ ⟨#[41]⟩) = [99, 114, 121, 112, 116, 58, 107, 40] ++ (bl c ++ [41]) := by
    rw [bl_append, bl_append, List.append_assoc]; rfl
  rw [hb] at ht hl
  have hk := kind_of hv (r := [114, 121, 112, 116, 58, 107, 40] ++ (bl c ++ [41])) (by rw [ht]; rfl)
  obtain ⟨k, i, l, s, t, e, n⟩ := X
  obtain rfl : k = 3 := hk
  unfold Ct.valid Ct.good at hv
  simp only [Bool.and_eq_true, decide_eq_true_eq] at hv
  obtain ⟨hd, ha, hg⟩ := hv
  simp [alike] at ha
  obtain ⟨⟨⟨hi, _⟩, _⟩, hn⟩ := ha
  obtain ⟨d, rfl⟩ : ∃ d, n = [d] := by
    rcases n with _ | ⟨d, _ | ⟨d2, r⟩⟩
    · simp at hn
    · exact ⟨d, rfl⟩
    · simp at hn
  rw [text3] at ht
  have ht2 : bl i ++ 40 :: (commas ([d].map Ct.text) ++ [41]) = 107 :: 40 :: (bl c ++ [41]) := by simpa using ht
  have h40 := id_no40 hi
  have hne : bl i ≠ [] := by
    unfold isId at hi
    simp only [Bool.and_eq_true] at hi
    intro e
    have := hi.1.1
    rw [e] at this
    simp at this
  obtain ⟨x, r, hxr⟩ : ∃ x r, bl i = x :: r := by
    rcases h : bl i with _ | ⟨x, r⟩
    · exact absurd h hne
    · exact ⟨x, r, rfl⟩
  rw [hxr, List.cons_append, List.cons.injEq] at ht2
  obtain ⟨rfl, ht3⟩ := ht2
  have hr : r = [] := by
    rcases r with _ | ⟨y, r⟩
    · rfl
    · rw [List.cons_append, List.cons.injEq] at ht3
      exact absurd ht3.1 (h40 y (by rw [hxr]; simp))
  subst hr
  have ht4 : commas ([d].map Ct.text) = bl c := by simpa using ht3
  have ht5 : d.text = bl c := by simpa [commas] using ht4
  have hid : i = kIk := ba_ext (by rw [hxr]; rfl)
  have hdep : (Ct.mk 3 i l s t e [d]).depth = d.depth + 1 := by rw [Ct.depth, if_neg (by decide)]; simp [Ct.depths]
  rw [hdep] at hd
  have hdg : d.good = true := by
    unfold Ct.goods at hg
    simp only [Bool.and_eq_true] at hg
    exact hg.1
  have hcl : (bl c).length ≤ 256 := by have h := hl; rw [List.length_append, List.length_append] at h; omega
  refine ⟨rfl, hid, d, rfl, (parse_iff _ _).2 ⟨hcl, ?_, ht5⟩, by rw [hdep]; omega, ?_⟩
  · unfold Ct.valid
    simp only [Bool.and_eq_true, decide_eq_true_eq]
    exact ⟨by omega, hdg⟩
  · show [d].map Ct.txt = [c]
    simp only [List.map_cons, List.map_nil]
    congr 1
    exact ba_ext (by rw [bl_txt, ht5])
end Go.Proofs.YtmieegcgeolckaaGreatDoor
namespace Go.Proofs.YtmieegcgeolckaaGreatDoor
open Go.RowKit Go.Maps
set_option linter.unusedVariables false

theorem contents_ascii : ∀ s ∈ contents, ∀ b ∈ s.data.toList, b.toNat < 128 := by decide
theorem one_ids {m : Mem} (h : m.l.length = 1) {ids : List ByteArray} (hids : IsIds [m] ids) : ids = [m.i] := by
  have h1 : IsIds [m] [m.i] := by
    refine ⟨by unfold AscS; simp, fun x => ?_⟩
    rw [best_some_iff]
    constructor
    · intro hx
      obtain rfl : x = m.i := by simpa using hx
      exact ⟨m, by simp, h, rfl⟩
    · rintro ⟨o, ho, _, he⟩
      obtain rfl : o = m := by simpa using ho
      rw [← kb_inj he]; simp
  exact hids.unique h1 (fun _ => rfl)
theorem one_open {m : Mem} {c : ByteArray} (h : m.l = [c]) {ids : List ByteArray} (hids : IsIds [m] ids) (r : Int) : (opened ids [m.i]).map (virOf [m] r) = [⟨⟨#[]⟩, openT ++ m.i, c, r⟩] := by
  have hl : m.l.length = 1 := by rw [h]; rfl
  rw [one_ids hl hids]
  have h1 : opened [m.i] [m.i] = [m.i] := by simp [opened, hasS]
  have h2 : best [m] (kb m.i) = some m := by unfold best; simp [bestS, hl]
  rw [h1]
  simp only [List.map_cons, List.map_nil, virOf, inner0, h2, Option.getD_some, h, List.headD_cons]

theorem contains_mid (a b c : List UInt8) : Lib.contains (a ++ b ++ c) b = true := by
  unfold Lib.contains
  rw [decide_eq_true_iff]
  rcases Lib.index_spec (a ++ b ++ c) b with ⟨_, h⟩ | ⟨i, h, _⟩
  · have h1 := h a.length (by simp)
    exfalso
    unfold Lib.occAt at h1
    rw [List.append_assoc, List.drop_left] at h1
    have h2 : b.isPrefixOf (b ++ c) = true := List.isPrefixOf_iff_prefix.2 (List.prefix_append b c)
    rw [h2] at h1; cases h1
  · omega

set_option maxRecDepth 100000 in
set_option maxHeartbeats 8000000 in
theorem inner_walk (la : Option Addr) (lc : Nat) (l : List Int) (w : World) (hl : Ints w la lc l) (hE : Env w) :
    Calls Tryz.prog 8 #[.slice la l.length lc] w fun e w' => e = .returned (.bool true) ∧ Fr No w w' := by
  have hx : Fr No w (w.alloc (.cells #[.slice la l.length lc, .int .i64 0] 26)) := (Fr.refl _ _).alloc _
  have ht := Tape.make hl 26
  have hE0 := hE.no hx
  have hs0 : (w.alloc (.cells #[.slice la l.length lc, .int .i64 0] 26)).heap.size = w.heap.size + 1 := by simp
  have hsz := hE.sz
  go_enter Tryz.func8, Tryz.ntmps8
  go_upto_region 2 with (fail)
  generalize w.alloc (.cells #[.slice la l.length lc, .int .i64 0] 26) = W0 at *
  have hs0' : w.heap.size < W0.heap.size := by omega
  clear hs0
  go_wp2_with fail
  refine (made_contents W0).mono ?_
  rintro e w1 ⟨rfl, hC1, hf1⟩
  have hs1 := hf1.size
  have ht1 := ht.fr hf1 (fun _ _ => id) id
  go_wp2_with fail
  refine (made_contents w1).mono ?_
  rintro e w2 ⟨rfl, _, hf2⟩
  have hs2 := hf2.size
  have ht2 := ht1.fr hf2 (fun _ _ => id) id
  have hC2 := hC1.no hf2 (fun _ => id)
  have hf02 := hf1.step hf2 (fun _ _ h => h)
  clear ht ht1 hC1 hf1 hf2
  go_wp2_with fail
  refine (tape_next w.heap.size w.heap.size 0 16 _ ht2 (by omega) (by omega) (by omega)).mono ?_
  rintro e w3 ⟨r, rfl, hr1, hr2, _, hf3⟩
  obtain ⟨r, rfl⟩ := Int.eq_ofNat_of_zero_le hr1
  have hC3 := hC2.fr hf3 (fun ad e _ h => by cases e; unfold Is at h; simp only at h; omega)
  have hf03 : Fr (Is w.heap.size) W0 w3 := (hf02.mono (fun _ _ h => h.elim)).step hf3 (fun _ _ h => h)
  have hE3 := hE0.fr hf03 (fun b hb h => by unfold Is at h; omega)
  have hfw3 : Fr No w w3 := (hx.mono (fun _ _ h => h)).trans hf03 (fun _ _ h => h) (fun b hb h => by unfold Is at h; omega)
  have hrl : r < contents.length := by rw [contents_len]; omega
  obtain ⟨b, off, c, hb, hc, hcc⟩ := hC3.at hrl
  cases hb
  have hcm := List.mem_of_getElem? hc
  have hcs := contents_size c hcm
  have hca := contents_ascii c hcm
  rw [Nat.zero_add] at hcc
  have hz1 : ¬ 9223372036854775807 < 8 + c.size := by omega
  have hz2 : ¬ 9223372036854775807 < 8 + c.size + 1 := by omega
  clear hC2 hf02 hf3 hC3 hf03 hx hE0 hE ht2 hc hcm hr1
  go_upto_region 4 with (fail)
  obtain ⟨s, hs⟩ : ∃ s, s = (⟨#[99, 114, 121, 112, 116, 58, 107, 40]⟩ : ByteArray) ++ c ++ ⟨#[41]⟩ := ⟨_, rfl⟩
  rw [← hs]
  have hsl : s.size = 8 + c.size + 1 := by rw [hs]; simp only [ByteArray.size_append]; rfl
  have hsa : Ascii s := fun j b hb => by
    have h1 := List.mem_of_getElem? hb
    rw [hs] at h1
    simp only [ByteArray.data_append, Array.toList_append, List.mem_append] at h1
    rcases h1 with (h | h) | h
    · exact (by decide : ∀ b ∈ (⟨#[99, 114, 121, 112, 116, 58, 107, 40]⟩ : ByteArray).data.toList, b.toNat < 128) b h
    · exact hca b h
    · exact (by decide : ∀ b ∈ (⟨#[41]⟩ : ByteArray).data.toList, b.toNat < 128) b h
  have Hs : Hid (s = inPre ++ c ++ ⟨#[41]⟩) := hs
  have hss : s.size ≤ 100000 := by omega
  clear hs hsl hz1 hz2 hcc
  have hpa := c_parse s w3 hsa hE3 hss
  go_wp2_with fail
  refine hpa.mono ?_
  rintro e w4 ⟨hres, hf4⟩
  have hs4 := hf4.size
  have hE4 := hE3.no hf4
  have hfw4 := hfw3.step hf4 (fun _ _ h => h)
  clear hpa hf4 hE3 hfw3
  rcases hres with ⟨er, hpn, hne, rfl⟩ | ⟨vs, X, hpX, rfl, hAt⟩
  · -- the text has no content
    have her : (er != 0) = true := by simp [hne]
    clear hne
    go_upto_region 5 with (fail)
    have hx5 : Fr No w4 (w4.alloc (.cells #[.int .i64 0, .string ⟨#[]⟩, .string ⟨#[]⟩, .int .i64 0, .int .i64 0, .int .i64 0, .slice none 0 0] 54)) := (Fr.refl _ _).alloc _
    have hE5 := hE4.no hx5
    have hfw5 := hfw4.step hx5 (fun _ _ h => h)
    generalize w4.alloc (.cells #[.int .i64 0, .string ⟨#[]⟩, .string ⟨#[]⟩, .int .i64 0, .int .i64 0, .int .i64 0, .slice none 0 0] 54) = W5 at *
    clear hx5 hE4 hfw4 hs4
    have hof := crypt_of ⟨#[47, 97]⟩ s 0 W5 hsa hE5 hss
    go_wp2_with fail
    refine hof.mono ?_
    rintro e w6 ⟨hr, hf6⟩
    have hE6 := hE5.no hf6
    have hfw6 := hfw5.step hf6 (fun _ _ h => h)
    clear hof hf6 hE5 hfw5
    rcases hr with ⟨_, rfl⟩ | ⟨c', a', cap', h1, _⟩
    · have hx7 : Fr No w6 (w6.alloc (.cells #[.string ⟨#[]⟩, .string ⟨#[]⟩, .int .i64 0, .int .i64 0, .int .i64 0, .int .i64 0, .slice none 0 0] 31)) := (Fr.refl _ _).alloc _
      have hkn := known33 _ (hE6.no hx7)
      have Hfw := Lib.hid (hfw6.step hx7 (fun _ _ h => h))
      clear hx7 hE6 hfw6
      go_wp2_with fail
      refine hkn.mono ?_
      rintro e wf ⟨rfl, hff⟩
      have hfin := Hfw.out.step hff (fun _ _ h => h)
      go_wp2_with fail
      go_ret
      exact ⟨rfl, hfin⟩
    · rw [hpn] at h1; cases h1
  · -- the text has one
    obtain ⟨hkX, hidX, d, hinX, hpd, hdd, htX⟩ := inner_parse (by rw [← Hs.out]; exact hpX)
    obtain ⟨hfX, _⟩ := parse_fit hpX
    obtain ⟨k1, i1, l1, s1, t1, e1, n1⟩ := X
    obtain ⟨xa, xc, rfl, hIn⟩ := hAt.inAt
    have HpX := Lib.hid hpX
    have HfX := Lib.hid hfX
    have Hdd := Lib.hid hdd
    have Hpd := Lib.hid hpd
    have HtX := Lib.hid htX
    have HinX := Lib.hid hinX
    have HkX := Lib.hid hkX
    have HidX := Lib.hid hidX
    clear hpX hfX hdd hpd htX hinX hkX hidX hIn
    go_upto_region 5 with (fail)
    have hx5 : Fr No w4 (w4.alloc (.cells #[.int .i64 k1, .string i1, .string l1, .int .i64 s1, .int .i64 t1, .int .i64 e1, .slice xa n1.length xc] 54)) := (Fr.refl _ _).alloc _
    have q5 := block_alloc w4 (.cells #[.int .i64 k1, .string i1, .string l1, .int .i64 s1, .int .i64 t1, .int .i64 e1, .slice xa n1.length xc] 54)
    have hE5 := hE4.no hx5
    have hfw5 := hfw4.step hx5 (fun _ _ h => h)
    have hAt5 := hAt.no hx5
    have hs5 : w4.heap.size + 1 ≤ (w4.alloc (.cells #[.int .i64 k1, .string i1, .string l1, .int .i64 s1, .int .i64 t1, .int .i64 e1, .slice xa n1.length xc] 54)).heap.size := by simp
    generalize w4.alloc (.cells #[.int .i64 k1, .string i1, .string l1, .int .i64 s1, .int .i64 t1, .int .i64 e1, .slice xa n1.length xc] 54) = W5 at *
    clear hx5 hE4 hfw4 hAt
    have hof := crypt_of ⟨#[47, 97]⟩ s 0 W5 hsa hE5 hss
    go_wp2_with fail
    refine hof.mono ?_
    rintro e w6 ⟨hr, hf6⟩
    obtain ⟨ma, mc, rfl, hS6, _⟩ := of_known (i := kIk) hr HpX.out HkX.out HidX.out HtX.out
    have hE6 := hE5.no hf6
    have hfw6 := hfw5.step hf6 (fun _ _ h => h)
    have hAt6 := hAt5.no hf6
    have q6 := hf6.heap q5 id
    have hs6 := hf6.size
    clear hof hr hf6 hE5 hfw5 hAt5 q5
    go_upto_region 6 with (fail)
    have hx7 : Fr No w6 (w6.alloc (.cells #[.string ⟨#[47, 97]⟩, .string kIk, .int .i64 0, .int .i64 0, .int .i64 0, .int .i64 0, .slice ma 1 mc] 31)) := (Fr.refl _ _).alloc _
    have q7m := block_alloc w6 (.cells #[.string ⟨#[47, 97]⟩, .string kIk, .int .i64 0, .int .i64 0, .int .i64 0, .int .i64 0, .slice ma 1 mc] 31)
    have hE7 := hE6.no hx7
    have hfw7 := hfw6.step hx7 (fun _ _ h => h)
    have hAt7 := hAt6.no hx7
    have q7 := hx7.heap q6 id
    have hS7 := hS6.no hx7 (fun _ => id)
    have hs7 := hx7.size
    generalize w6.alloc (.cells #[.string ⟨#[47, 97]⟩, .string kIk, .int .i64 0, .int .i64 0, .int .i64 0, .int .i64 0, .slice ma 1 mc] 31) = W7 at *
    clear hx7 hE6 hfw6 hAt6 q6 hS6
    have y0 : W7.cell? ⟨w6.heap.size, 0, none⟩ = some (.string ⟨#[47, 97]⟩) := cell_of_block q7m 0
    have y1 : W7.cell? ⟨w6.heap.size, 1, none⟩ = some (.string kIk) := cell_of_block q7m 1
    have y2 : W7.cell? ⟨w6.heap.size, 2, none⟩ = some (.int .i64 0) := cell_of_block q7m 2
    have y3 : W7.cell? ⟨w6.heap.size, 3, none⟩ = some (.int .i64 0) := cell_of_block q7m 3
    have y4 : W7.cell? ⟨w6.heap.size, 4, none⟩ = some (.int .i64 0) := cell_of_block q7m 4
    have y5 : W7.cell? ⟨w6.heap.size, 5, none⟩ = some (.int .i64 0) := cell_of_block q7m 5
    have y6 : W7.cell? ⟨w6.heap.size, 6, none⟩ = some (.slice ma 1 mc) := cell_of_block q7m 6
    clear q7m
    obtain ⟨L, hL⟩ : ∃ L, L = [(⟨⟨#[47, 97]⟩, kIk, 0, 0, 0, 0, ma, [c], mc⟩ : Mem)] := ⟨_, rfl⟩
    have hx8 : Fr No W7 ((W7.alloc (.cells #[.string ⟨#[47, 97]⟩, .string kIk, .int .i64 0, .int .i64 0, .int .i64 0, .int .i64 0, .slice ma 1 mc] 31)).alloc (.cells #[.string ⟨#[107]⟩] 9)) := ((Fr.refl _ _).alloc _).alloc _
    have q8 := block_alloc1 W7 (.cells #[.string ⟨#[47, 97]⟩, .string kIk, .int .i64 0, .int .i64 0, .int .i64 0, .int .i64 0, .slice ma 1 mc] 31) (.cells #[.string ⟨#[107]⟩] 9)
    have q9 := block_alloc2 W7 (.cells #[.string ⟨#[47, 97]⟩, .string kIk, .int .i64 0, .int .i64 0, .int .i64 0, .int .i64 0, .slice ma 1 mc] 31) (.cells #[.string ⟨#[107]⟩] 9)
    obtain ⟨W8, hW8⟩ : ∃ W8, W8 = ((W7.alloc (.cells #[.string ⟨#[47, 97]⟩, .string kIk, .int .i64 0, .int .i64 0, .int .i64 0, .int .i64 0, .slice ma 1 mc] 31)).alloc (.cells #[.string ⟨#[107]⟩] 9)) := ⟨_, rfl⟩
    rw [← hW8] at hx8 q8 q9
    have hM8 : Mems W8 (some ⟨W7.heap.size, 0, none⟩) 1 L := by
      rw [hL]
      exact Mems.of_block (L := [⟨⟨#[47, 97]⟩, kIk, 0, 0, 0, 0, ma, [c], mc⟩]) q8 (by unfold maxLen; simp) (fun m hm => by obtain rfl : m = ⟨⟨#[47, 97]⟩, kIk, 0, 0, 0, 0, ma, [c], mc⟩ := (by simpa using hm); exact hS7.no hx8 (fun _ => id))
    have hK8 : Strs W8 (some ⟨W7.heap.size + 1, 0, none⟩) 1 [kIk] := Strs.of_block (l := [kIk]) q9 (by unfold maxLen; simp)
    have hE8 := hE7.no hx8
    have hfw8 := hfw7.step hx8 (fun _ _ h => h)
    have hAt8 := hAt7.no hx8
    have q8c := hx8.heap q7 id
    have hs8 := hx8.size
    have hsmL : MemSmall L := by
      rw [hL]
      refine ⟨by simp, fun m hm => ?_, fun m hm => ?_, fun m hm => ?_⟩
      all_goals obtain rfl : m = ⟨⟨#[47, 97]⟩, kIk, 0, 0, 0, 0, ma, [c], mc⟩ := by simpa using hm
      · exact (by decide : (⟨#[47, 97]⟩ : ByteArray).size ≤ 1000000)
      · exact (by decide : kIk.size ≤ 1000000)
      · simp
    have hkz : ∀ x ∈ [kIk], x.size ≤ maxLen := fun x hx => by have : x.size ≤ 1 := (by decide : ∀ x ∈ [kIk], x.size ≤ 1) x hx; unfold maxLen; omega
    obtain ⟨m0, hm8⟩ := hE8.len
    have hop := c_open (some ⟨W7.heap.size, 0, none⟩) 1 L (some ⟨W7.heap.size + 1, 0, none⟩) 1 [kIk] 1 m0 W8 hM8 hsmL hK8 (by simp) hkz hm8 (by omega)
    rw [show L.length = 1 by rw [hL]; rfl] at hop
    clear hx8 q8 q9 hM8 hK8 hE7 hfw7 hAt7 q7 hS7 hkz hsmL hm8
    go_wp2_with fail
    rw [← hW8]
    clear hW8
    refine hop.mono ?_
    rintro e w9 ⟨⟨va, vc, V, ids, rfl, hV, _, hids, hVe, _⟩, hf9⟩
    rw [hL] at hids hVe
    have hVe2 := hVe.trans (one_open (m := ⟨⟨#[47, 97]⟩, kIk, 0, 0, 0, 0, ma, [c], mc⟩) (c := c) rfl hids 1)
    subst hVe2
    have hE9 := hE8.no hf9
    have hfw9 := hfw8.step hf9 (fun _ _ h => h)
    have hAt9 := hAt8.no hf9
    have q9c := hf9.heap q8c id
    have hs9 := hf9.size
    clear hop hf9 hE8 hfw8 hAt8 q8c hids hVe hL y0 y1 y2 y3 y4 y5 y6
    obtain ⟨vb, vo, v0, rfl, hv0, ⟨_, _, v2, _⟩, _⟩ := hV.elem (k := 0) (by simp)
    obtain rfl : v0 = ⟨⟨#[]⟩, openT ++ kIk, c, 1⟩ := by simpa using hv0.symm
    simp only [Nat.zero_mul, Nat.add_zero] at v2
    clear hv0
    have hcA : Ascii c := fun j b hb => hca b (List.mem_of_getElem? hb)
    have hpc := c_parse c w9 hcA hE9 (by omega)
    go_wp2_with fail
    refine hpc.mono ?_
    rintro e w10 ⟨hres, hf10⟩
    rcases hres with ⟨er, hpn, _, _⟩ | ⟨vs, D, hpD, rfl, hAtD⟩
    · rw [Hpd.out] at hpn; cases hpn
    · obtain rfl : d = D := by rw [Hpd.out] at hpD; exact Option.some.inj hpD
      clear hpD hpc
      have hfD := (parse_fit Hpd.out).1
      have HfD := Lib.hid hfD
      clear hfD
      have hE10 := hE9.no hf10
      have hfw10 := hfw9.step hf10 (fun _ _ h => h)
      have hAt10 := hAt9.no hf10
      have q10 := hf10.heap q9c id
      have hV10 := hV.no hf10 (fun _ => id)
      have v10 := hf10.cell v2 id
      have hs10 := hf10.size
      obtain ⟨k2, i2, l2, s2, t2, e2, n2⟩ := d
      obtain ⟨ya, yc, rfl, _⟩ := hAtD.inAt
      clear hf10 hE9 hfw9 hAt9 q9c hV v2
      go_upto_region 12 with (fail)
      have hx11 : Fr No w10 (w10.alloc (.cells #[.int .i64 k2, .string i2, .string l2, .int .i64 s2, .int .i64 t2, .int .i64 e2, .slice ya n2.length yc] 54)) := (Fr.refl _ _).alloc _
      have q11d := block_alloc w10 (.cells #[.int .i64 k2, .string i2, .string l2, .int .i64 s2, .int .i64 t2, .int .i64 e2, .slice ya n2.length yc] 54)
      have hE11 := hE10.no hx11
      have hfw11 := hfw10.step hx11 (fun _ _ h => h)
      have hAt11 := hAt10.no hx11
      have hAtD11 := hAtD.no hx11
      have q11 := hx11.heap q10 id
      have v11 := hx11.cell v10 id
      generalize w10.alloc (.cells #[.int .i64 k2, .string i2, .string l2, .int .i64 s2, .int .i64 t2, .int .i64 e2, .slice ya n2.length yc] 54) = W11 at *
      clear hx11 hE10 hfw10 hAt10 q10 v10 hAtD hV10
      refine region_sig No [(0, false), (1, false), (2, false), (3, false), (4, false), (5, false), (6, false), (7, false), (8, false), (9, false), (10, false), (11, false), (13, false), (12, true), (14, true), (15, false), (16, false), (17, false), (18, false), (19, false), (20, false), (21, false), (22, false), (23, true), (24, false), (25, false), (26, true), (27, false), (28, false)] (by kernel_rfl) (by kernel_rfl) (fun w12 hf12 => ?_)
      have gV : ∀ g : Gr No w12, g.W.cell? ⟨vb, vo + 2, none⟩ = some (.string c) := fun g => g.fr.cell (hf12.cell v11 id) id
      have gD0 : ∀ g : Gr No w12, g.W.cell? ⟨w10.heap.size, 0, none⟩ = some (.int .i64 k2) := fun g => g.fr.cell (hf12.cell (cell_of_block q11d 0) id) id
      have gD1 : ∀ g : Gr No w12, g.W.cell? ⟨w10.heap.size, 1, none⟩ = some (.string i2) := fun g => g.fr.cell (hf12.cell (cell_of_block q11d 1) id) id
      have gD2 : ∀ g : Gr No w12, g.W.cell? ⟨w10.heap.size, 2, none⟩ = some (.string l2) := fun g => g.fr.cell (hf12.cell (cell_of_block q11d 2) id) id
      have gD3 : ∀ g : Gr No w12, g.W.cell? ⟨w10.heap.size, 3, none⟩ = some (.int .i64 s2) := fun g => g.fr.cell (hf12.cell (cell_of_block q11d 3) id) id
      have gD4 : ∀ g : Gr No w12, g.W.cell? ⟨w10.heap.size, 4, none⟩ = some (.int .i64 t2) := fun g => g.fr.cell (hf12.cell (cell_of_block q11d 4) id) id
      have gD5 : ∀ g : Gr No w12, g.W.cell? ⟨w10.heap.size, 5, none⟩ = some (.int .i64 e2) := fun g => g.fr.cell (hf12.cell (cell_of_block q11d 5) id) id
      have gD6 : ∀ g : Gr No w12, g.W.cell? ⟨w10.heap.size, 6, none⟩ = some (.slice ya n2.length yc) := fun g => g.fr.cell (hf12.cell (cell_of_block q11d 6) id) id
      have gX0 : ∀ g : Gr No w12, g.W.cell? ⟨w4.heap.size, 0, none⟩ = some (.int .i64 k1) := fun g => g.fr.cell (hf12.cell (cell_of_block q11 0) id) id
      have gX1 : ∀ g : Gr No w12, g.W.cell? ⟨w4.heap.size, 1, none⟩ = some (.string i1) := fun g => g.fr.cell (hf12.cell (cell_of_block q11 1) id) id
      have gX2 : ∀ g : Gr No w12, g.W.cell? ⟨w4.heap.size, 2, none⟩ = some (.string l1) := fun g => g.fr.cell (hf12.cell (cell_of_block q11 2) id) id
      have gX3 : ∀ g : Gr No w12, g.W.cell? ⟨w4.heap.size, 3, none⟩ = some (.int .i64 s1) := fun g => g.fr.cell (hf12.cell (cell_of_block q11 3) id) id
      have gX4 : ∀ g : Gr No w12, g.W.cell? ⟨w4.heap.size, 4, none⟩ = some (.int .i64 t1) := fun g => g.fr.cell (hf12.cell (cell_of_block q11 4) id) id
      have gX5 : ∀ g : Gr No w12, g.W.cell? ⟨w4.heap.size, 5, none⟩ = some (.int .i64 e1) := fun g => g.fr.cell (hf12.cell (cell_of_block q11 5) id) id
      have gX6 : ∀ g : Gr No w12, g.W.cell? ⟨w4.heap.size, 6, none⟩ = some (.slice xa n1.length xc) := fun g => g.fr.cell (hf12.cell (cell_of_block q11 6) id) id
      have hE12 := hE11.no hf12
      have HAt12 := Lib.hid (hAt11.no hf12)
      have HAtD12 := Lib.hid (hAtD11.no hf12)
      have Hfw12 := Lib.hid (hfw11.step hf12 (fun _ _ h => h))
      have Hv12 := Lib.hid (hf12.cell v11 id)
      clear hf12 q11d q11 v11 hE11 hfw11 hAt11 hAtD11
      repeat (first | (apply sig_q; exact rfl; exact rfl; exact rfl; intro K hK; go_big_quiet_op; go_big_quiet_on) | (apply sig_skip; exact rfl; exact rfl; exact rfl; intro K hK; go_big_quiet_op; go_big_quiet_on))
      clear gV gD0 gD1 gD2 gD3 gD4 gD5 gD6 gX0 gX1 gX2 gX3 gX4 gX5 gX6
      apply sig_m
      exact rfl
      go_wp2_with fail
      refine (c_depth HAtD12.out HfD.out.count).mono ?_
      rintro e wa ⟨rfl, hfa⟩
      obtain ⟨dd, hdd⟩ : ∃ dd, dd = (Ct.mk k2 i2 l2 s2 t2 e2 n2).depth := ⟨_, rfl⟩
      rw [← hdd]
      have HDd := Lib.hid hdd
      clear hdd
      go_wp2_with fail
      refine OnlyN.mk ⟨hfa, ?_⟩
      have HAta := Lib.hid (HAt12.out.no hfa)
      have Hfwa := Lib.hid (Hfw12.out.step hfa (fun _ _ h => h))
      have hEa := hE12.no hfa
      have Hva := Lib.hid (hfa.cell Hv12.out id)
      clear hfa hE12
      apply sig_m
      exact rfl
      go_wp2_with fail
      refine (c_depth HAta.out HfX.out.count).mono ?_
      rintro e wb ⟨rfl, hfb⟩
      obtain ⟨dx, hdx⟩ : ∃ dx, dx = (Ct.mk k1 i1 l1 s1 t1 e1 n1).depth := ⟨_, rfl⟩
      rw [← hdx]
      have hlss : (dd : Int) < dx := by have := Hdd.out; rw [← HDd.out, ← hdx] at this; omega
      clear hdx
      go_wp2_with fail
      refine OnlyN.mk ⟨hfb, ?_⟩
      have Hfwb := Lib.hid (Hfwa.out.step hfb (fun _ _ h => h))
      have hEb := hEa.no hfb
      have gV : ∀ g : Gr No wb, g.W.cell? ⟨vb, vo + 2, none⟩ = some (.string c) := fun g => g.fr.cell (hfb.cell Hva.out id) id
      clear hfb hEa
      repeat (first | (apply sig_q; exact rfl; exact rfl; exact rfl; intro K hK; go_big_quiet_op; go_big_quiet_on) | (apply sig_skip; exact rfl; exact rfl; exact rfl; intro K hK; go_big_quiet_op; go_big_quiet_on))
      clear gV hlss
      obtain ⟨mb, hmb⟩ := hEb.len
      have hct := Any.strings_Contains Tryz.lays144 s c mb wb (by omega) hmb
      have hcb : Lib.contains s.data.toList c.data.toList = true := by rw [Hs.out]; simp only [ByteArray.data_append, Array.toList_append]; exact contains_mid _ _ _
      rw [hcb] at hct
      apply sig_m
      exact rfl
      go_wp2_with fail
      refine hct.mono ?_
      rintro e wc ⟨rfl, rfl⟩
      clear hct hcb hmb
      go_wp2_with fail
      refine OnlyN.mk ⟨Fr.refl _ _, ?_⟩
      repeat (first | (apply sig_q; exact rfl; exact rfl; exact rfl; intro K hK; go_big_quiet_op; go_big_quiet_on) | (apply sig_skip; exact rfl; exact rfl; exact rfl; intro K hK; go_big_quiet_op; go_big_quiet_on))
      apply sig_m
      exact rfl
      have hkn := known33 _ hEb
      go_wp2_with fail
      refine hkn.mono ?_
      rintro e wd ⟨rfl, hfd⟩
      have Hfin := Lib.hid (Hfwb.out.step hfd (fun _ _ h => h))
      go_wp2_with fail
      refine OnlyN.mk ⟨hfd, ?_⟩
      clear hfd hkn
      repeat (first | (apply sig_q; exact rfl; exact rfl; exact rfl; intro K hK; go_big_quiet_op; go_big_quiet_on) | (apply sig_skip; exact rfl; exact rfl; exact rfl; intro K hK; go_big_quiet_op; go_big_quiet_on))
      refine sig_end ?_
      go_wp2_with fail
      go_ret
      exact ⟨rfl, Hfin.out⟩
end Go.Proofs.YtmieegcgeolckaaGreatDoor
namespace Go.Proofs.YtmieegcgeolckaaGreatDoor.cryptInner
open Go.ChangeShapes Go.WideShapes Go.ChangeAt Go.RowKit
set_option linter.unusedVariables false

theorem own : ownKnob Tryz.prog.godebug = none := by kernel_rfl
theorem laidOut : laidOutB Tryz.prog = true := by kernel_rfl

set_option maxRecDepth 100000 in
theorem lifted (os : Os) (started : os.Started) (H : Type) (enc : TypeId × Value → H) :
    ReturnsInHanded {} Tryz.checked os 8 .any (fun w args => (Rows.cryptInnerSpec.pre enc Tryz.prog Tryz.f8 Rows.cryptInnerRow.domain false w args ∧ laidMetH Tryz.prog Rows.cryptInnerRow.laid w) ∧ sizedMet enc Tryz.prog Tryz.f8 (OpenSpec.ofChange Rows.cryptInnerSpec) false w args)
      (Rows.cryptInnerSpec.post enc Tryz.prog Tryz.f8 false true false false) := by
  refine returns_laid_shaped (C := Tryz.checked) (X := fun w _ => laidMetH Tryz.prog Rows.cryptInnerRow.laid w) (fun _ _ _ hh h => h.of_heap hh) own started (by kernel_rfl) Tryz.func8
    (ChangeSpec.witness_shaped (enc := enc) (C := Tryz.checked) (os := os) (X := fun w _ => laidMetH Tryz.prog Rows.cryptInnerRow.laid w) false (World.laidAll Tryz.prog os Rows.cryptInnerRow.laid) #[.slice none 0 0] 8 (World.laidAll_os _ _ _)
      (World.shaped_of_ZipB (by kernel_rfl) (by kernel_rfl)) (by kernel_rfl) (by kernel_rfl) (by kernel_rfl)
      (by rw [MakeChecks.laidMetH_plain _ _ _ (by kernel_rfl)]; exact laidMet_laidAll _ (by kernel_rfl) (by kernel_rfl))) ?_
  intro W base args ds gs before hval0 hW hL hsh
  have hval : ∀ (j : Nat) t v, Tryz.f8.params[j]? = some t → args[j]? = some v → Value.okWide Tryz.prog W .any base t v := hval0
  have hW' := hW
  obtain ⟨p, q, hA0, hV, rfl, hfz, hnd⟩ := hW
  have hA : DataW.TrodAll enc Tryz.prog W 0 (fun _ => true) true Tryz.f8.params.toList args.toList ds p := hA0
  rw [Tryz.params8] at hA hval
  obtain ⟨v0, vs0, d0, ds0, p0, q0, hargs, rfl, rfl, h0, r0⟩ := trodAll_cons hA
  obtain ⟨rfl, rfl, rfl⟩ := trodAll_nil r0
  obtain rfl : args = #[v0] := by cases args; simp_all
  obtain ⟨rfl, rfl⟩ := trodVars_none hV
  obtain ⟨a0, len0, cap0, rfl⟩ := okWide_slice Tryz.underlying22 (hval 0 22 v0 rfl rfl)
  have k0 := h0
  have lt0 : ∀ x ∈ p0, x.block < W.heap.size := by obtain ⟨m, hm⟩ := k0; exact DataW.trod_lt m _ _ _ hm
  obtain ⟨l0, rfl, hl0⟩ : ∃ l : List Int, l.length = len0 ∧ Ints W a0 cap0 l := by
    obtain ⟨fuel, hf⟩ := h0
    rcases open_ints Tryz.underlying22 Tryz.underlying3 (by kernel_rfl) hf with ⟨hcs, _⟩ | ⟨x, l, c, zs, hcs, _, hl, hm, hz, _, hcell, hwz⟩
    · simp [Value.cells] at hcs
      obtain ⟨rfl, rfl, rfl⟩ := hcs
      exact Ints.of_isRow (zs := []) (.inl ⟨rfl, rfl, rfl, rfl⟩)
    · simp [Value.cells] at hcs
      obtain ⟨rfl, rfl, rfl⟩ := hcs
      exact Ints.of_isRow (zs := zs) (.inr ⟨_, rfl, hl, hm, by simpa using hz, hcell, hwz⟩)
  rw [MakeChecks.laidMetH_plain _ _ _ (by kernel_rfl)] at hL
  have hE := env_of hsh hL
  clear hA0 hval0
  refine (inner_walk a0 cap0 l0 W hl0 hE).mono fun e W' ⟨he, hfr⟩ => ?_
  have bel : Below W.heap.size W W' := hfr.below (Nat.le_refl _) (fun b hb e => e)
  subst he
  exact ⟨_, rfl, _, _, _, [], _, [], hW', trodAll_mk1 (shut_bool Tryz.underlying4 _), (trodAll_cons_mk (Below.trod laidOut (by kernel_rfl) (of_decide_eq_true (by kernel_rfl)) k0 bel lt0) trodAll_mk0), rfl, bel.frame _, fun h => by cases h⟩

theorem isNamed : Tryz.pinned.checked.prog.funcNamed Rows.cryptInnerRow.func = some 8 := by kernel_rfl
theorem and2 {a b : Bool} (h : a = true) (k : b = true) : (a && b) = true := by rw [h, k]; rfl
theorem c0 : (Rows.cryptInnerRow.wf (OpenSpec.ofChange Rows.cryptInnerSpec)) = true := by kernel_rfl
theorem c1 : (laidOutB Tryz.pinned.checked.prog) = true := by kernel_rfl
theorem c2 : (mapsRowed Tryz.pinned.checked.prog) = true := by kernel_rfl
theorem c3 : (Tryz.f8.params.all (Tryz.pinned.checked.prog.readableRec ·)) = true := by kernel_rfl
theorem c4 : (namedTie Tryz.pinned.checked.prog Rows.cryptInnerRow.named Rows.cryptInnerSpec.vars) = true := by kernel_rfl
theorem c5 : ((Rows.cryptInnerRow.stops == [])) = true := by kernel_rfl
theorem c6 : ((Tryz.pinned.checked.prog.stops == [])) = true := by kernel_rfl
theorem c7 : ((Rows.cryptInnerRow.knobs == [])) = true := by kernel_rfl
theorem c8 : ((Tryz.pinned.checked.prog.stopKnobs == [])) = true := by kernel_rfl
theorem c9 : ((Rows.cryptInnerRow.inPlace == Tryz.pinned.checked.prog.inPlace 8)) = true := by kernel_rfl
theorem c10 : ((Rows.cryptInnerRow.unfollowed == Tryz.pinned.checked.prog.unfollowed 8)) = true := by kernel_rfl
theorem c11 : ((Rows.cryptInnerRow.recurses == Tryz.pinned.checked.prog.recurses 8)) = true := by kernel_rfl
theorem c12 : ((Rows.cryptInnerRow.named == Tryz.pinned.checked.prog.varsNamed 8)) = true := by kernel_rfl
theorem c13 : ((Rows.cryptInnerRow.maps == (Tryz.f8.params.toList ++ Rows.cryptInnerSpec.plain.varTypes Tryz.pinned.checked.prog).any (Tryz.pinned.checked.prog.mapsRec ·))) = true := by kernel_rfl
theorem c14 : ((Rows.cryptInnerRow.ifaces == (Tryz.f8.params.toList ++ Rows.cryptInnerSpec.plain.varTypes Tryz.pinned.checked.prog).any (Tryz.pinned.checked.prog.ifacesRec ·))) = true := by kernel_rfl
theorem c15 : ((Rows.cryptInnerRow.mapsOut == Tryz.pinned.checked.prog.mapsAmong Tryz.f8.resultTypes.toList)) = true := by kernel_rfl
theorem c16 : ((Rows.cryptInnerRow.loops == (Tryz.f8.params.toList ++ Rows.cryptInnerSpec.plain.varTypes Tryz.pinned.checked.prog).any (Tryz.pinned.checked.prog.loopsFrom ·))) = true := by kernel_rfl
theorem c17 : ((Rows.cryptInnerRow.wideKeys == (Tryz.f8.params.toList ++ Rows.cryptInnerSpec.plain.varTypes Tryz.pinned.checked.prog ++ Tryz.f8.resultTypes.toList).any (Tryz.pinned.checked.prog.wideKeysFrom ·))) = true := by kernel_rfl
theorem c18 : (Rows.cryptInnerSpec.vars.all (Tryz.pinned.checked.prog.varReadable ·)) = true := by kernel_rfl
theorem c19 : (Tryz.f8.resultTypes.all (fun t => Tryz.pinned.checked.prog.readableRec t && decide (t < Tryz.pinned.checked.prog.types.size))) = true := by kernel_rfl
theorem c20 : ((Rows.cryptInnerRow.ifacesOut == Tryz.f8.resultTypes.toList.any (Tryz.pinned.checked.prog.ifacesRec ·))) = true := by kernel_rfl
theorem c21 : ((Rows.cryptInnerRow.loopsOut == Tryz.f8.resultTypes.toList.any (Tryz.pinned.checked.prog.loopsFrom ·))) = true := by kernel_rfl
theorem c22 : ((Rows.cryptInnerRow.plainKeys == Tryz.pinned.checked.prog.plainKeys)) = true := by kernel_rfl
theorem c23 : (Rows.cryptInnerRow.shortTexts.isNone) = true := by kernel_rfl
theorem c24 : (Tryz.pinned.checked.prog.stopsHeard) = true := by kernel_rfl
theorem c25 : (Tryz.pinned.checked.prog.mayEnter) = true := by kernel_rfl
theorem c26 : ((Rows.cryptInnerRow.lifted == Tryz.pinned.checked.prog.liftsFinal)) = true := by kernel_rfl
theorem c27 : ((Tryz.pinned.checked.prog.make == some Rows.cryptInnerRow.make)) = true := by kernel_rfl
theorem c28 : ((Rows.cryptInnerRow.kinds == (if Rows.cryptInnerRow.domain.isEmpty then [] else Tryz.f8.params.toList.map fun t => match Tryz.pinned.checked.prog.underlying t with | some (.int k) => some k | _ => none))) = true := by kernel_rfl
theorem c29 : ((Rows.cryptInnerRow.pinned == Rows.cryptInnerRow.pinnedBy)) = true := by kernel_rfl
theorem c30 : ((Rows.cryptInnerRow.veiled == (Tryz.f8.params.toList ++ Rows.cryptInnerSpec.plain.varTypes Tryz.pinned.checked.prog ++ Tryz.f8.resultTypes.toList).any (Tryz.pinned.checked.prog.veiledRec ·))) = true := by kernel_rfl
theorem c31 : (Rows.cryptInnerRow.veiledFits Tryz.pinned.checked.prog Tryz.f8.params.toList (Tryz.f8.params.toList ++ Rows.cryptInnerSpec.plain.varTypes Tryz.pinned.checked.prog ++ Tryz.f8.resultTypes.toList)) = true := by kernel_rfl
set_option maxRecDepth 100000 in
theorem closed : joinedFacts Tryz.pinned.checked.prog 8 Tryz.f8 Rows.cryptInnerSpec Rows.cryptInnerRow = true := by
  unfold joinedFacts
  exact (and2 (and2 (and2 (and2 (and2 (and2 (and2 (and2 (and2 (and2 (and2 (and2 (and2 (and2 (and2 (and2 (and2 (and2 (and2 (and2 (and2 (and2 (and2 (and2 (and2 (and2 (and2 (and2 (and2 (and2 (and2 c0 c1) c2) c3) c4) c5) c6) c7) c8) c9) c10) c11) c12) c13) c14) c15) c16) c17) c18) c19) c20) c21) c22) c23) c24) c25) c26) c27) c28) c29) c30) c31)
theorem inst : Tryz.f8.isInstance Tryz.pinned.checked.prog Rows.cryptInnerRow.origin Rows.cryptInnerRow.targs := of_decide_eq_true (by kernel_rfl)
theorem wrap : Tryz.f8.isWrapper Tryz.pinned.checked.prog Rows.cryptInnerRow.wrapper Rows.cryptInnerRow.mainSum := by
  unfold Func.isWrapper; first | (rw [if_pos (by decide +kernel)]; kernel_rfl) | (rw [if_neg (by decide +kernel)]; exact ⟨rfl, rfl⟩)
theorem over : Rows.cryptInnerRow.holds Tryz.pinned (OpenSpec.ofChange Rows.cryptInnerSpec) :=
  OpenClaim.holds_of_wide 8 Tryz.f8 rfl rfl rfl rfl rfl rfl rfl ⟨rfl, rfl, rfl, rfl, rfl⟩ rfl rfl rfl rfl rfl isNamed Tryz.func8 closed inst wrap
    (fun os started H enc _ => lifted os started H enc)

theorem t1 : Rows.cryptInnerRow.wfByText (OpenSpec.ofChange Rows.cryptInnerSpec) = true := by kernel_rfl
theorem t2 : Tryz.pinned.checked.prog.mainIs = some ((true, "177d71cd04eb8f01a4c58fd606c8e7c617fc26990225ed53480681c1f264cbbf").1, (true, "177d71cd04eb8f01a4c58fd606c8e7c617fc26990225ed53480681c1f264cbbf").2.toList) := by kernel_rfl
theorem t3 : true = Tryz.pinned.checked.prog.looks [] := by kernel_rfl
theorem t4 : false = Rows.cryptInnerRow.goesBy Tryz.pinned.checked.prog := by kernel_rfl
theorem t5 : Tryz.prog.funcNamed "coldplug/coldpluglaw33.CryptInner" = some 8 := by kernel_rfl
theorem t6 : ([22].all fun u => !Tryz.prog.wantsStandIn u) = true := by kernel_rfl
theorem proved : Rows.CryptInnerCardSaid :=
  Claim7.holds_tied_plain_at .later [] [.data, .data, .data, .data, .sentinel, .sentinel, .pinned, .pinned] true (true, "177d71cd04eb8f01a4c58fd606c8e7c617fc26990225ed53480681c1f264cbbf") true over (fun _ h => by cases h) t1 (fun _ h => by cases h) cryptInner_row_tie rfl ⟨rfl, rfl⟩ t2 rfl
    (fun f fn hf hfn => by
      obtain rfl : f = 8 := Option.some.inj (t5.symm.trans hf) |>.symm
      obtain rfl : fn = Tryz.f8 := (Option.some.inj (Tryz.func8.symm.trans hfn)).symm
      exact ⟨t3, fun j t ht => by
        rw [Tryz.params8] at ht
        have hm : t ∈ [22] := by simpa using Array.mem_of_getElem? ht
        have hall : ([22].all fun u => !Tryz.prog.wantsStandIn u) = true := t6
        exact (show Tryz.prog.wantsStandIn t = false by simpa using List.all_eq_true.1 hall t hm)⟩)
    t4
#print axioms proved
end Go.Proofs.YtmieegcgeolckaaGreatDoor.cryptInner
