/- Asks. The example of the chapter of layers. Plain. known: the example of the chapter of layers. What the laid variables give to a law of the contents' chapters. The row's frame for a row with listed variables, the world's shape and the row's size bound. Plain. Slices of texts and of members that came in, opened, with the bounds of their sizes. -/
import Derived.Test.YtcibciippghooaaGreatDoorZL21
import Derived.Test.YtcibciippghooaaGreatDoorZL20
import Derived.Test.YtcibciippghooaaGreatDoorZL2
import Derived.Test.YtcibciippghooaaGreatDoorZL17
import Derived.Test.YtcibciippghooaaGreatDoorZL8
import Derived.Test.YtcibciippghooaaGreatDoorRows
import Derived.Shelf.Vars
import Derived.Stop.LaidErr
import Derived.MakeChecks
import Derived.Lib.LaidTab
import Derived.OpenShut
import Derived.LaidMore
import Derived.Lay
import Derived.HandedShaped
import Derived.Handed
import Derived.Deep.Slices
import Derived.SliceStrings
import Derived.ChangeArms
import Derived.SizedLaws
namespace Go.Proofs.YtcibciippghooaaGreatDoor
open Go.RowKit Go.Maps
set_option linter.unusedVariables false

/-- What Asks answers. -/
def AskRes (w : World) (L : List Mem) (K : List ByteArray) (e : Ending) (w' : World) : Prop :=
  ∃ (a' : Option Addr) (c' : Nat) (V : List ByteArray) (ids : List ByteArray), e = .returned (.slice a' V.length c') ∧ Strs w' a' c' V ∧ (∀ ad, a' = some ad → w.heap.size ≤ ad.block) ∧ IsIds L ids ∧ V = asked ids K ∧ ids.length ≤ L.length

set_option maxRecDepth 100000 in
set_option maxHeartbeats 8000000 in
theorem c_asks (a : Option Addr) (cap : Nat) (L : List Mem) (ka : Option Addr) (kc : Nat) (K : List ByteArray) (m0 : Int) (w : World) (hl : Mems w a cap L) (hb : MemSmall L) (hk : Strs w ka kc K) (hkl : K.length ≤ 1000000) (hks : ∀ x ∈ K, x.size ≤ maxLen)
    (hm0 : w.cell? ⟨3, 0, none⟩ = some (.int .i64 m0)) (hw0 : 3 < w.heap.size) :
    Calls Tryz.prog 22 #[.slice a L.length cap, .slice ka K.length kc] w fun e w' => AskRes w L K e w' ∧ Fr No w w' := by
  obtain ⟨i0, hi0, hz0, hz1, hz2⟩ := info_parts infoS
  have hlm := hb.len
  have Hb := Lib.hid hb
  clear hb
  go_enter Tryz.func22, Tryz.ntmps22
  go_wp2_with fail
  refine (key_set ka kc K w hk hkl hks).mono ?_
  rintro e w1 ⟨⟨mb, rfl, hK1, hmb⟩, hf1⟩
  have hl1 := hl.no hf1 (fun _ => id)
  have hm1 := hf1.cell hm0 id
  have hs1 := hf1.size
  have Hf1 := Lib.hid hf1
  have hmb1 : mb < w1.heap.size := VMap.lt hK1
  clear hk hks hl hm0 hf1
  go_wp2_with fail
  refine (c_owners a cap L m0 w1 hl1 Hb.out hm1 (by omega)).mono ?_
  rintro e w2 ⟨⟨oa, oc, O, ids, rfl, hO, hOf, hOm, hids, ho, hil⟩, hf2⟩
  have hol := own_len ho
  have hs2 := hf2.size
  have hK2 := hK1.fr hf2 id
  have Hf2 := Lib.hid (Hf1.out.step hf2 (fun _ _ h => h))
  have Hids := Lib.hid hids
  have Ho := Lib.hid ho
  have HOm := Lib.hid hOm
  have hom := hO.lenmax
  clear hl1 hm1 hf2 hK1 hids ho hOm hOf
  go_wp2_with fail
  go_loopw [6, 16] (fun v i wr => ∃ (j : Nat) (V : List ByteArray) (av : Option Addr) (cv : Nat), j ≤ O.length ∧ V.length ≤ j ∧ v = .slice av V.length cv ∧ i = .int .i64 (j : Int) ∧ wr.ownsRow w2.heap.size 9 1 (.slice av V.length cv) V.length (V.map Value.string) ∧ Hid (V = asked (ids.take j) K) ∧ Fr (From w2.heap.size) w2 wr) (fun _ i _ => O.length - (intOf i).toNat)
  case atStart => exact ⟨0, [], none, 0, by omega, by simp, rfl, rfl, World.ownsRow_nil _ _ _ _, by unfold Hid; simp [asked], Fr.refl _ _⟩
  case round =>
    obtain ⟨j, V, av, cv, hj, hVj, rfl, rfl, hown, HV, hf⟩ := hrel
    have hsr := hf.size
    by_cases hlt : j < O.length
    · have hlt' : (j : Int) < O.length := by omega
      obtain ⟨b, off, m, rfl, hxj, hst, hat, hbl⟩ := (hO.keep hf (fun b hb h => by unfold From at h; omega)).elem hlt
      obtain ⟨o, hid, hbo, hmk, hml, hm1, hoL⟩ := own_at Hids.out Ho.out hxj
      have him : m.i.size ≤ 1000000 := by have h1 := Hb.out.i o hoL; have h2 := congrArg Mem.i hmk; have h3 : m.i = o.i := h2; rw [h3]; exact h1
      have hix : m.i.size ≤ maxLen := by unfold maxLen; omega
      have Htj : Hid (ids.take (j + 1) = ids.take j ++ [m.i]) := by unfold Hid; rw [List.take_add_one, hid]; rfl
      have hK3 := hK2.fr hf (by unfold From; omega)
      clear hxj hid hbo hmk hml hoL hst hm1
      obtain ⟨mp, mi, mr, ms, mt, me, ma, ml, mc⟩ := m
      obtain ⟨c0, c1, c2, c3, c4, c5, c6⟩ := hat
      simp only at c0 c1 c2 c3 c4 c5 c6 him hix
      simp only at Htj
      have hx1 : Fr No wr (wr.alloc (.cells #[.string mp, .string mi, .int .i64 mr, .int .i64 ms, .int .i64 mt, .int .i64 me, .slice ma ml.length mc] 31)) := (Fr.refl _ _).alloc _
      have hKx := hK3.fr hx1 id
      unfold KSet at hKx
      have hv : ((fun x => if hasS K (bk x) = true then some (Value.agg #[]) else none) (kb mi)).getD (.agg #[]) = .agg #[] := by
        simp only [bk_kb]; cases hasS K mi <;> rfl
      rcases hh' : (!hasS K mi) with _ | _
      · have hh : hasS K mi = true := by simpa using hh'
        clear hh'
        have hbo : ((fun x => if hasS K (bk x) = true then some (Value.agg #[]) else none) (kb mi)).isSome = true := by simp only [bk_kb, hh]; rfl
        have hx2 : Fr No wr ((wr.alloc (.cells #[.string mp, .string mi, .int .i64 mr, .int .i64 ms, .int .i64 mt, .int .i64 me, .slice ma ml.length mc] 31)).alloc (.cells #[] 72)) := hx1.alloc _
        have hown2 := ownsRow_at hown hx2 (fun _ _ h => h)
        have HV2 : Hid (V = asked (ids.take (j + 1)) K) := by unfold Hid; rw [Htj.out, asked_snoc, hh]; simpa using HV.out
        have HF := Lib.hid (And.intro hown2 (hf.step hx2 (fun _ _ h => h.elim)))
        clear hown2 hown hx2 hx1 hf hh HV
        go_wp2_with (at_lookup; refine wp_vmap_ok rfl _ _ 70 72 (.agg #[]) (zeroE _) rfl Tryz.underlying70 mb _ _ mi hix rfl hKx rfl (.agg #[]) hv true hbo ?_)
        go_roundw
        case rel => exact ⟨j + 1, V, av, cv, by omega, by omega, rfl, by go_num, HF.out.1, HV2, HF.out.2⟩
        case measure => simp [intOf]; omega
      · have hh : hasS K mi = false := by simpa using hh'
        clear hh'
        have hbo : ((fun x => if hasS K (bk x) = true then some (Value.agg #[]) else none) (kb mi)).isSome = false := by simp only [bk_kb, hh]; rfl
        have hx2 : Fr No wr ((wr.alloc (.cells #[.string mp, .string mi, .int .i64 mr, .int .i64 ms, .int .i64 mt, .int .i64 me, .slice ma ml.length mc] 31)).alloc (.cells #[] 72)) := hx1.alloc _
        have q1 := block_alloc1 wr (.cells #[.string mp, .string mi, .int .i64 mr, .int .i64 ms, .int .i64 mt, .int .i64 me, .slice ma ml.length mc] 31) (.cells #[] 72)
        have hown2 := ownsRow_at hown hx2 (fun _ _ h => h)
        have HV2 : Hid (asked (ids.take (j + 1)) K = V ++ [mi]) := by unfold Hid; rw [Htj.out, asked_snoc, hh, ← HV.out]; rfl
        go_upto_region 8 with (at_lookup; refine wp_vmap_ok rfl _ _ 70 72 (.agg #[]) (zeroE _) rfl Tryz.underlying70 mb _ _ mi hix rfl hKx rfl (.agg #[]) hv false hbo ?_)
        have hsx := hx2.size
        have hfx := hf.step hx2 (fun _ _ h => h.elim)
        clear hx2 hx1 hown hf hKx hv hbo c0 c1 c2 c3 c4 c5 c6
        generalize (wr.alloc (.cells #[.string mp, .string mi, .int .i64 mr, .int .i64 ms, .int .i64 mt, .int .i64 me, .slice ma ml.length mc] 31)).alloc (.cells #[] 72) = W5 at *
        have y1 : W5.cell? ⟨wr.heap.size, 1, none⟩ = some (.string mi) := cell_of_block q1 1
        have Hfx := Lib.hid hfx
        have Hown3 := Lib.hid hown2
        have HV0 := Lib.hid HV
        have hs0 := hsx
        clear hown2 hfx q1 HV
        go_wp2_with (at_builtin; refine wpList_append_own _ rfl _ _ 27 rfl w2.heap.size 9 i0 (.string ByteArray.empty) 1 16 Tryz.underlying27 hi0 hz0 hz1 hz2 rfl (by decide) _ _ _ rfl (Hown3.out.alloc _) ⟨W5.heap.size, 0, none⟩ 1 1 [.string mi] rfl rfl (cell_one_new _ _ _) (strs_one [mi]) (by unfold maxLen; omega) (by omega) (by first | omega | (simp; done) | (simp; omega)) ?_; intro v' w6 hown6 hgrow6 _; obtain ⟨av', cv', rfl⟩ := ownsRow_slice hown6)
        have hgf : Fr (fun b => (Value.slice av V.length cv).ownBlock = some b) (W5.alloc (.cells #[.string mi] 9)) w6 := Fr.of_grown hgrow6
        have hal : Fr No W5 (W5.alloc (.cells #[.string mi] 9)) := (Fr.refl _ _).alloc _
        have HF := Lib.hid (And.intro hown6 ((Hfx.out.step hal (fun _ _ h => h.elim)).step hgf (fun b _ h => ownsRow_blk Hown3.out h)))
        clear hown6 hgf hal hgrow6
        go_roundw
        case rel => exact ⟨j + 1, V ++ [mi], av', cv', by omega, by simp; omega, by simp, by go_num, by rw [List.length_append, List.map_append]; exact HF.out.1, Lib.hid HV2.out.symm, HF.out.2⟩
        case measure => simp [intOf]; omega
    · obtain rfl : j = O.length := by omega
      obtain ⟨a', c', hv, hR, hfresh⟩ := Strs.of_own hown
      cases hv
      have hV := HV.out
      rw [hol, List.take_length] at hV
      have H := Lib.hid (And.intro hR (And.intro hfresh (And.intro hV ((Hf2.out.step hf (fun b hb h => by have := Hf2.out.size; unfold From at h; omega))))))
      clear hown HV hf hR hfresh hV
      go_wp2_with fail
      go_ret
      exact ⟨⟨_, _, V, ids, rfl, H.out.1, fun ad e => by have := H.out.2.1 ad e; omega, Hids.out, H.out.2.2.1, hil⟩, H.out.2.2.2⟩
end Go.Proofs.YtcibciippghooaaGreatDoor
namespace Go.Proofs.YtcibciippghooaaGreatDoor
open Go.RowKit
set_option linter.unusedVariables false

def kT1 : ByteArray := ⟨#[99, 114, 121, 112, 116, 58, 99, 40, 102, 115, 58, 120, 58, 41]⟩
def kT2 : ByteArray := ⟨#[99, 114, 121, 112, 116, 58, 99, 40, 102, 115, 58, 121, 58, 41]⟩
def kT3 : ByteArray := ⟨#[99, 114, 121, 112, 116, 58, 101, 40, 41]⟩
def kPa : ByteArray := ⟨#[47, 98]⟩
def kPb : ByteArray := ⟨#[47, 97]⟩
def kPd : ByteArray := ⟨#[47, 100]⟩
def kIc : ByteArray := ⟨#[99]⟩
def kIe : ByteArray := ⟨#[101]⟩
def kIx : ByteArray := ⟨#[120]⟩
def kFx : ByteArray := ⟨#[102, 115, 58, 120, 58]⟩
def kFy : ByteArray := ⟨#[102, 115, 58, 121, 58]⟩
def kOc : ByteArray := ⟨#[111, 112, 101, 110, 45, 99]⟩
def kC1 : Ct := .mk 3 kIc ⟨#[]⟩ 0 0 0 [.mk 1 kIx ⟨#[]⟩ 0 0 0 []]
def kC2 : Ct := .mk 3 kIc ⟨#[]⟩ 0 0 0 [.mk 1 ⟨#[121]⟩ ⟨#[]⟩ 0 0 0 []]
def kC3 : Ct := .mk 3 kIe ⟨#[]⟩ 0 0 0 [.mk 0 ⟨#[]⟩ ⟨#[]⟩ 0 0 0 []]
theorem kP1 : parseC kT1 = some kC1 := (parse_iff _ _).2 ⟨by decide, by decide, by rw [kC1, text3]; simp [text1, commas, kT1, kIc, kIx]; rfl⟩
theorem kP2 : parseC kT2 = some kC2 := (parse_iff _ _).2 ⟨by decide, by decide, by rw [kC2, text3]; simp [text1, commas, kT2, kIc]; rfl⟩
theorem kP3 : parseC kT3 = some kC3 := (parse_iff _ _).2 ⟨by decide, by decide, by rw [kC3, text3]; simp [text0, commas, kT3, kIe]; rfl⟩
theorem kX1 : kC1.inner.map Ct.txt = [kFx] := by simp [kC1, Ct.inner, txt1, kIx, kFx]; rfl
theorem kX2 : kC2.inner.map Ct.txt = [kFy] := by simp [kC2, Ct.inner, txt1, kFy]; rfl
theorem kX3 : kC3.inner.map Ct.txt = [⟨#[]⟩] := by simp [kC3, Ct.inner]; rfl

/-- The three layers of the example. -/
def kL (a1 a2 a3 : Option Addr) (c1 c2 c3 : Nat) : List Mem := [⟨kPa, kIc, 0, 0, 0, 0, a1, [kFx], c1⟩, ⟨kPb, kIc, 1, 0, 0, 0, a2, [kFy], c2⟩, ⟨kPd, kIe, 0, 0, 0, 0, a3, [⟨#[]⟩], c3⟩]
section
variable (a1 a2 a3 : Option Addr) (c1 c2 c3 : Nat)
theorem k_best_c : best (kL a1 a2 a3 c1 c2 c3) (kb kIc) = some ⟨kPa, kIc, 0, 0, 0, 0, a1, [kFx], c1⟩ := by
  have h2 : ahead ⟨kPb, kIc, 1, 0, 0, 0, a2, [kFy], c2⟩ ⟨kPa, kIc, 0, 0, 0, 0, a1, [kFx], c1⟩ = false := by
    unfold ahead aheadB orI cmpI
    simp
  have e : (kb kIc == kb kIe) = false := by decide
  unfold best kL
  simp only [List.foldl_cons, List.foldl_nil]
  simp [bestS, h2, e]
theorem k_best_e : best (kL a1 a2 a3 c1 c2 c3) (kb kIe) = some ⟨kPd, kIe, 0, 0, 0, 0, a3, [⟨#[]⟩], c3⟩ := by
  have e : (kb kIe == kb kIc) = false := by decide
  unfold best kL
  simp only [List.foldl_cons, List.foldl_nil]
  simp [bestS, e]
theorem k_ids : IsIds (kL a1 a2 a3 c1 c2 c3) [kIc, kIe] := by
  refine ⟨by unfold AscS; decide, fun x => ?_⟩
  rw [best_some_iff]
  constructor
  · intro h
    simp only [List.mem_cons, List.not_mem_nil, or_false] at h
    rcases h with rfl | rfl
    · exact ⟨⟨kPa, kIc, 0, 0, 0, 0, a1, [kFx], c1⟩, by simp [kL], rfl, rfl⟩
    · exact ⟨⟨kPd, kIe, 0, 0, 0, 0, a3, [⟨#[]⟩], c3⟩, by simp [kL], rfl, rfl⟩
  · rintro ⟨m, hm, _, h⟩
    rw [← kb_inj h]
    simp only [kL, List.mem_cons, List.not_mem_nil, or_false] at hm
    rcases hm with rfl | rfl | rfl <;> simp
theorem k_ids_is {ids : List ByteArray} (h : IsIds (kL a1 a2 a3 c1 c2 c3) ids) : ids = [kIc, kIe] := h.unique (k_ids a1 a2 a3 c1 c2 c3) (fun _ => rfl)
theorem k_opened : (opened [kIc, kIe] [kIc, kIx]).map (virOf (kL a1 a2 a3 c1 c2 c3) 2) = [⟨⟨#[]⟩, kOc, kFx, 2⟩] := by
  have h1 : opened [kIc, kIe] [kIc, kIx] = [kIc] := by simp [opened, hasS, ByteArray.toList_eq, kIc, kIe, kIx]
  rw [h1]
  simp only [List.map_cons, List.map_nil, virOf, inner0, k_best_c]
  rfl
theorem k_asked : asked [kIc, kIe] [kIc, kIx] = [kIe] := by simp [asked, hasS, ByteArray.toList_eq, kIc, kIe, kIx]
end
end Go.Proofs.YtcibciippghooaaGreatDoor
namespace Go.Proofs.YtcibciippghooaaGreatDoor
open Go.RowKit Go.Maps
set_option linter.unusedVariables false

theorem of_known {w w' : World} {p s i t : ByteArray} {rd : Int} {e : Ending} {c : Ct} (h : OfRes w p s rd e w') (hp : parseC s = some c) (hk : c.kind = 3) (hi : c.id = i) (ht : c.inner.map Ct.txt = [t]) :
    ∃ a cap, e = .returned (.tuple #[.agg #[.string p, .string i, .int .i64 rd, .int .i64 0, .int .i64 0, .int .i64 0, .slice a 1 cap], .bool true]) ∧ Strs w' a cap [t] ∧ ∀ ad, a = some ad → w.heap.size ≤ ad.block := by
  rcases h with ⟨h1, _⟩ | ⟨c', a, cap, h1, _, h3, h4, h5⟩
  · exact absurd hk (h1 c hp)
  · rw [hp] at h1; cases h1
    have hl : c.inner.length = 1 := by have := congrArg List.length ht; simpa using this
    rw [ht] at h4
    rw [hi, hl] at h3
    exact ⟨a, cap, h3, h4, h5⟩
theorem kA1 : Ascii kT1 := fun j b h => (by decide : ∀ b ∈ kT1.data.toList, b.toNat < 128) b (List.mem_of_getElem? h)
theorem kA2 : Ascii kT2 := fun j b h => (by decide : ∀ b ∈ kT2.data.toList, b.toNat < 128) b (List.mem_of_getElem? h)
theorem kA3 : Ascii kT3 := fun j b h => (by decide : ∀ b ∈ kT3.data.toList, b.toNat < 128) b (List.mem_of_getElem? h)
theorem k_small (a1 a2 a3 : Option Addr) (c1 c2 c3 : Nat) : MemSmall (kL a1 a2 a3 c1 c2 c3) := by
  have h1 : kPa.size ≤ 1000000 ∧ kPb.size ≤ 1000000 ∧ kPd.size ≤ 1000000 ∧ kIc.size ≤ 1000000 ∧ kIe.size ≤ 1000000 := by decide
  refine ⟨by simp [kL], fun m hm => ?_, fun m hm => ?_, fun m hm => ?_⟩
  all_goals
    simp only [kL, List.mem_cons, List.not_mem_nil, or_false] at hm
    rcases hm with rfl | rfl | rfl
  all_goals first | exact h1.1 | exact h1.2.1 | exact h1.2.2.1 | exact h1.2.2.2.1 | exact h1.2.2.2.2 | simp

set_option maxRecDepth 100000 in
set_option maxHeartbeats 8000000 in
theorem known33 (w : World) (hE : Env w) : Calls Tryz.prog 6 #[] w fun e w' => e = .returned (.bool true) ∧ Fr No w w' := by
  have hof1 := crypt_of kPa kT1 0 w hE (by decide)
  go_enter Tryz.func6, Tryz.ntmps6
  go_wp2_with fail
  refine hof1.mono ?_
  rintro e w1 ⟨hr, hf1⟩
  obtain ⟨a1, c1, rfl, hS1, hF1⟩ := of_known (i := kIc) hr kP1 rfl rfl kX1
  clear hof1 hr
  have hE1 := hE.no hf1
  go_upto_region 2 with (fail)
  have hx1 : Fr No w1 (w1.alloc (.cells #[.string kPa, .string kIc, .int .i64 0, .int .i64 0, .int .i64 0, .int .i64 0, .slice a1 1 c1] 31)) := (Fr.refl _ _).alloc _
  have q1 := block_alloc w1 (.cells #[.string kPa, .string kIc, .int .i64 0, .int .i64 0, .int .i64 0, .int .i64 0, .slice a1 1 c1] 31)
  have hE2 := hE1.no hx1
  have hS1x := hS1.no hx1 (fun _ => id)
  have hfw := hf1.step hx1 (fun _ _ h => h)
  generalize w1.alloc (.cells #[.string kPa, .string kIc, .int .i64 0, .int .i64 0, .int .i64 0, .int .i64 0, .slice a1 1 c1] 31) = W1 at *
  clear hS1 hE1 hx1 hf1 hF1
  have hof2 := crypt_of kPb kT2 1 W1 hE2 (by decide)
  go_wp2_with fail
  refine hof2.mono ?_
  rintro e w2 ⟨hr, hf2⟩
  obtain ⟨a2, c2, rfl, hS2, hF2⟩ := of_known (i := kIc) hr kP2 rfl rfl kX2
  clear hof2 hr
  have hE3 := hE2.no hf2
  go_upto_region 3 with (fail)
  have hx2 : Fr No w2 (w2.alloc (.cells #[.string kPb, .string kIc, .int .i64 1, .int .i64 0, .int .i64 0, .int .i64 0, .slice a2 1 c2] 31)) := (Fr.refl _ _).alloc _
  have q2 := block_alloc w2 (.cells #[.string kPb, .string kIc, .int .i64 1, .int .i64 0, .int .i64 0, .int .i64 0, .slice a2 1 c2] 31)
  have hE4 := hE3.no hx2
  have hS2x := hS2.no hx2 (fun _ => id)
  have hf12 := hf2.step hx2 (fun _ _ h => h)
  have q1' := hf12.heap q1 id
  have hS1y := hS1x.no hf12 (fun _ => id)
  have hfw2 := hfw.step hf12 (fun _ _ h => h)
  generalize w2.alloc (.cells #[.string kPb, .string kIc, .int .i64 1, .int .i64 0, .int .i64 0, .int .i64 0, .slice a2 1 c2] 31) = W2 at *
  clear hS2 hE3 hx2 hf2 hF2 hE2 q1 hS1x hf12 hfw
  have hof3 := crypt_of kPd kT3 0 W2 hE4 (by decide)
  go_wp2_with fail
  refine hof3.mono ?_
  rintro e w3 ⟨hr, hf3⟩
  obtain ⟨a3, c3, rfl, hS3, hF3⟩ := of_known (i := kIe) hr kP3 rfl rfl kX3
  clear hof3 hr
  have hE5 := hE4.no hf3
  go_upto_region 4 with (fail)
  have hx3 : Fr No w3 (w3.alloc (.cells #[.string kPd, .string kIe, .int .i64 0, .int .i64 0, .int .i64 0, .int .i64 0, .slice a3 1 c3] 31)) := (Fr.refl _ _).alloc _
  have q3 := block_alloc w3 (.cells #[.string kPd, .string kIe, .int .i64 0, .int .i64 0, .int .i64 0, .int .i64 0, .slice a3 1 c3] 31)
  have hE6 := hE5.no hx3
  have hS3x := hS3.no hx3 (fun _ => id)
  have hf23 := hf3.step hx3 (fun _ _ h => h)
  have q1'' := hf23.heap q1' id
  have q2' := hf23.heap q2 id
  have hS1z := hS1y.no hf23 (fun _ => id)
  have hS2z := hS2x.no hf23 (fun _ => id)
  have hfw3 := hfw2.step hf23 (fun _ _ h => h)
  generalize w3.alloc (.cells #[.string kPd, .string kIe, .int .i64 0, .int .i64 0, .int .i64 0, .int .i64 0, .slice a3 1 c3] 31) = W3 at *
  clear hS3 hE5 hx3 hf3 hF3 hE4 q1' q2 hS1y hS2x hf23 hfw2
  have y10 : W3.cell? ⟨w1.heap.size, 0, none⟩ = some (.string kPa) := cell_of_block q1'' 0
  have y11 : W3.cell? ⟨w1.heap.size, 1, none⟩ = some (.string kIc) := cell_of_block q1'' 1
  have y12 : W3.cell? ⟨w1.heap.size, 2, none⟩ = some (.int .i64 0) := cell_of_block q1'' 2
  have y13 : W3.cell? ⟨w1.heap.size, 3, none⟩ = some (.int .i64 0) := cell_of_block q1'' 3
  have y14 : W3.cell? ⟨w1.heap.size, 4, none⟩ = some (.int .i64 0) := cell_of_block q1'' 4
  have y15 : W3.cell? ⟨w1.heap.size, 5, none⟩ = some (.int .i64 0) := cell_of_block q1'' 5
  have y16 : W3.cell? ⟨w1.heap.size, 6, none⟩ = some (.slice a1 1 c1) := cell_of_block q1'' 6
  have y20 : W3.cell? ⟨w2.heap.size, 0, none⟩ = some (.string kPb) := cell_of_block q2' 0
  have y21 : W3.cell? ⟨w2.heap.size, 1, none⟩ = some (.string kIc) := cell_of_block q2' 1
  have y22 : W3.cell? ⟨w2.heap.size, 2, none⟩ = some (.int .i64 1) := cell_of_block q2' 2
  have y23 : W3.cell? ⟨w2.heap.size, 3, none⟩ = some (.int .i64 0) := cell_of_block q2' 3
  have y24 : W3.cell? ⟨w2.heap.size, 4, none⟩ = some (.int .i64 0) := cell_of_block q2' 4
  have y25 : W3.cell? ⟨w2.heap.size, 5, none⟩ = some (.int .i64 0) := cell_of_block q2' 5
  have y26 : W3.cell? ⟨w2.heap.size, 6, none⟩ = some (.slice a2 1 c2) := cell_of_block q2' 6
  have y30 : W3.cell? ⟨w3.heap.size, 0, none⟩ = some (.string kPd) := cell_of_block q3 0
  have y31 : W3.cell? ⟨w3.heap.size, 1, none⟩ = some (.string kIe) := cell_of_block q3 1
  have y32 : W3.cell? ⟨w3.heap.size, 2, none⟩ = some (.int .i64 0) := cell_of_block q3 2
  have y33 : W3.cell? ⟨w3.heap.size, 3, none⟩ = some (.int .i64 0) := cell_of_block q3 3
  have y34 : W3.cell? ⟨w3.heap.size, 4, none⟩ = some (.int .i64 0) := cell_of_block q3 4
  have y35 : W3.cell? ⟨w3.heap.size, 5, none⟩ = some (.int .i64 0) := cell_of_block q3 5
  have y36 : W3.cell? ⟨w3.heap.size, 6, none⟩ = some (.slice a3 1 c3) := cell_of_block q3 6
  clear q1'' q2' q3
  go_upto_region 5 with (fail)
  have hx4 : Fr No W3 (W3.alloc (.cells (mflat (kL a1 a2 a3 c1 c2 c3)).toArray 31)) := (Fr.refl _ _).alloc _
  have hM : Mems (W3.alloc (.cells (mflat (kL a1 a2 a3 c1 c2 c3)).toArray 31)) (some ⟨W3.heap.size, 0, none⟩) 3 (kL a1 a2 a3 c1 c2 c3) := Mems.of_block (block_alloc _ _) (by unfold maxLen kL; simp) (fun m hm => by
    simp only [kL, List.mem_cons, List.not_mem_nil, or_false] at hm
    rcases hm with rfl | rfl | rfl
    · exact hS1z.no hx4 (fun _ => id)
    · exact hS2z.no hx4 (fun _ => id)
    · exact hS3x.no hx4 (fun _ => id))
  have hE7 := hE6.no hx4
  have hfw4 := hfw3.step hx4 (fun _ _ h => h)
  change Code.wp _ _ _ _ (W3.alloc (.cells (mflat (kL a1 a2 a3 c1 c2 c3)).toArray 31))
  generalize W3.alloc (.cells (mflat (kL a1 a2 a3 c1 c2 c3)).toArray 31) = W4 at *
  clear hx4 hfw3 hE6 hS1z hS2z hS3x
  clear y10 y11 y12 y13 y14 y15 y16 y20 y21 y22 y23 y24 y25 y26 y30 y31 y32 y33 y34 y35 y36
  obtain ⟨m0, hm0⟩ := hE7.len
  have hsz := hE7.sz
  have hsz4 := hfw4.size
  have hx5 : Fr No W4 (W4.alloc (.cells #[.string ⟨#[99]⟩, .string ⟨#[120]⟩] 9)) := (Fr.refl _ _).alloc _
  have hK5 : Strs (W4.alloc (.cells #[.string ⟨#[99]⟩, .string ⟨#[120]⟩] 9)) (some ⟨W4.heap.size, 0, none⟩) 2 [kIc, kIx] := Strs.of_block (l := [kIc, kIx]) (block_alloc _ _) (by unfold maxLen; simp)
  have hkz : ∀ x ∈ [kIc, kIx], x.size ≤ maxLen := fun x hx => by have : x.size ≤ 1 := (by decide : ∀ x ∈ [kIc, kIx], x.size ≤ 1) x hx; unfold maxLen; omega
  have hop := c_open (some ⟨W3.heap.size, 0, none⟩) 3 (kL a1 a2 a3 c1 c2 c3) (some ⟨W4.heap.size, 0, none⟩) 2 [kIc, kIx] 2 m0 _ (hM.no hx5 (fun _ => id)) (k_small _ _ _ _ _ _) hK5 (by simp) hkz (hx5.cell hm0 id) (by have := hx5.size; omega)
  go_wp2_with fail
  refine hop.mono ?_
  rintro e w5 ⟨⟨va, vc, V, ids, rfl, hV, hVf, hids, hVe, _⟩, hf5⟩
  rw [k_ids_is _ _ _ _ _ _ hids, k_opened] at hVe
  subst hVe
  clear hop hids hK5
  have hf45 := hx5.step hf5 (fun _ _ h => h)
  have hM5 := hM.no hf45 (fun _ => id)
  have hm5 := hf45.cell hm0 id
  have hfw5 := hfw4.step hf45 (fun _ _ h => h)
  have hsz5 := hf45.size
  clear hx5 hf5 hf45 hM hm0 hfw4 hE7
  have how := c_owners (some ⟨W3.heap.size, 0, none⟩) 3 (kL a1 a2 a3 c1 c2 c3) m0 w5 hM5 (k_small _ _ _ _ _ _) hm5 (by omega)
  go_wp2_with fail
  refine how.mono ?_
  rintro e w6 ⟨⟨oa, oc, O, ids, rfl, hO, _, _, hids, hOe, _⟩, hf6⟩
  have hO2 : O.length = 2 := by rw [own_len hOe, k_ids_is _ _ _ _ _ _ hids]; rfl
  rw [hO2]
  have hV6 := hV.no hf6 (fun _ => id)
  obtain ⟨vb, vo, v0, rfl, hv0, hat, _⟩ := hV6.elem (k := 0) (by simp)
  have hM6 := hM5.no hf6 (fun _ => id)
  have hm6 := hf6.cell hm5 id
  have hfw6 := hfw5.step hf6 (fun _ _ h => h)
  have hsz6 := hf6.size
  obtain rfl : v0 = ⟨⟨#[]⟩, kOc, kFx, 2⟩ := by simpa using hv0.symm
  obtain ⟨v1, v2, v3, v4⟩ := hat
  simp only [Nat.zero_mul, Nat.add_zero] at v1 v2 v3 v4
  have hx7 : Fr No w6 (w6.alloc (.cells #[.string ⟨#[99]⟩, .string ⟨#[120]⟩] 9)) := (Fr.refl _ _).alloc _
  have hK7 : Strs (w6.alloc (.cells #[.string ⟨#[99]⟩, .string ⟨#[120]⟩] 9)) (some ⟨w6.heap.size, 0, none⟩) 2 [kIc, kIx] := Strs.of_block (l := [kIc, kIx]) (block_alloc _ _) (by unfold maxLen; simp)
  have hak := c_asks (some ⟨W3.heap.size, 0, none⟩) 3 (kL a1 a2 a3 c1 c2 c3) (some ⟨w6.heap.size, 0, none⟩) 2 [kIc, kIx] m0 _ (hM6.no hx7 (fun _ => id)) (k_small _ _ _ _ _ _) hK7 (by simp) hkz (hx7.cell hm6 id) (by have := hx7.size; omega)
  clear how hO hids hOe hO2 hV6 hV hv0 hM6 hM5 hm5 hf6 hfw5 hVf
  have ho1 : kOc.toList = [111, 112, 101, 110, 45, 99] := by rw [ByteArray.toList_eq]; rfl
  have ho2 : kFx.toList = [102, 115, 58, 120, 58] := by rw [ByteArray.toList_eq]; rfl
  go_wp2_with fail
  refine hak.mono ?_
  rintro e w8 ⟨⟨xa, xc, X, ids, rfl, hX, _, hids, hXe, _⟩, hf8⟩
  rw [k_ids_is _ _ _ _ _ _ hids, k_asked] at hXe
  subst hXe
  have hf68 := hx7.step hf8 (fun _ _ h => h)
  have hfw8 := hfw6.step hf68 (fun _ _ h => h)
  have hx9 : Fr No w8 (w8.alloc (.cells #[.string ⟨#[101]⟩] 9)) := (Fr.refl _ _).alloc _
  have hE9 : Strs (w8.alloc (.cells #[.string ⟨#[101]⟩] 9)) (some ⟨w8.heap.size, 0, none⟩) 1 [kIe] := Strs.of_block (l := [kIe]) (block_alloc _ _) (by unfold maxLen; simp)
  have hst := same_texts xa (some ⟨w8.heap.size, 0, none⟩) xc 1 [kIe] [kIe] _ (hX.no hx9 (fun _ => id)) hE9
  rw [show sameT [kIe] [kIe] = true by unfold sameT; simp] at hst
  have hfw9 := hfw8.step hx9 (fun _ _ h => h)
  clear hak hx7 hK7 hids hX hf8 hf68 hfw8 hx9 hE9 v1 v2 v3 v4
  go_wp2_with fail
  refine hst.mono ?_
  rintro e w9 ⟨rfl, hf9⟩
  have hfin := hfw9.step hf9 (fun _ _ h => h)
  clear hst hf9 hfw9
  go_wp2_with fail
  go_ret
  exact ⟨rfl, hfin⟩
end Go.Proofs.YtcibciippghooaaGreatDoor
namespace Go.Proofs.YtcibciippghooaaGreatDoor
open Go.ChangeShapes Go.WideShapes Go.RowKit
set_option linter.unusedVariables false

theorem gES : Tryz.prog.globalNamed "strconv.ErrSyntax" = some 4 := by kernel_rfl
theorem gESType : (Tryz.prog.globals[4]?).map (·.type) = some 151 := by kernel_rfl
theorem gER : Tryz.prog.globalNamed "strconv.ErrRange" = some 5 := by kernel_rfl
theorem gERType : (Tryz.prog.globals[5]?).map (·.type) = some 151 := by kernel_rfl
theorem cellsE : Tryz.prog.cellsOf 244 = 1 := by kernel_rfl
theorem cellsS : Tryz.prog.cellsOf 9 = 1 := by kernel_rfl
theorem starE : "*" ++ "errors.errorString" = "*errors.errorString" := by decide
theorem rowE (u : TypeId) (h : Tryz.prog.typeName? 3 u = some "*errors.errorString") : u = 242 :=
  typeName_ptr_named (nm := "errors.errorString") (by rw [starE]; kernel_rfl) (by kernel_rfl) (by decide) u (by rw [starE]; exact h)
theorem gPow : Tryz.prog.globalNamed "internal/strconv.uint64pow10" = some 0 := by kernel_rfl
theorem gPowType : (Tryz.prog.globals[0]?).map (·.type) = some 161 := by kernel_rfl
theorem gAcc : Tryz.prog.globalNamed "unicode.CaseRanges" = some 8 := by kernel_rfl
theorem cellsU : Tryz.prog.cellsOf 123 = 1 := by kernel_rfl
theorem cellsP : Tryz.prog.cellsOf 161 = 20 := by kernel_rfl
theorem laid_lt {P : Program} {n : String} {d : DataW Unit} {r : List (String × DataW Unit)} {W : World} {g : Nat} (h : laidMet P ((n, d) :: r) W) (hg : P.globalNamed n = some g) : g < W.heap.size := by
  obtain ⟨ps, ⟨g0, t0, cs0, f0, p0, q0, hg0, ht0, hv0, _⟩, _⟩ := h
  unfold World.var? at hv0
  rw [hg] at hv0
  simp only [Option.bind_some] at hv0
  cases hh : W.heap[g]? with
  | none => simp [hh] at hv0
  | some o => exact (Array.getElem?_eq_some_iff.1 hh).1

theorem env_of {W : World} (hsh : W.ShapedOpen Tryz.prog) (hL : laidMet Tryz.prog Rows.cryptLayersRow.laid W) : Env W := by
  obtain ⟨m, hm⟩ := cell_of_shapedOpen_int (P := Tryz.prog) (g := 3) (t := 3) (zero := #[.int .i64 0]) hsh (of_decide_eq_true (by kernel_rfl)) (by kernel_rfl) rfl (by kernel_rfl) (by kernel_rfl) Tryz.underlying3
  have hLr := hL.tail.tail.tail.tail
  have hA := laid_lt hL.tail.tail.tail.tail.tail.tail gAcc
  obtain ⟨ar, sr, hvr, -, -, -⟩ := laid_sentinel hLr gER gERType Tryz.underlying151 rowE Tryz.underlying242 Tryz.underlying244 rfl rfl Tryz.underlying9 cellsE cellsS
  obtain ⟨asx, ssx, hvs, -, -, -⟩ := laid_sentinel hLr.tail gES gESType Tryz.underlying151 rowE Tryz.underlying242 Tryz.underlying244 rfl rfl Tryz.underlying9 cellsE cellsS
  have c5 : W.cell? ⟨4, 0, none⟩ = some (.iface 242 (.pointer (some asx))) := by have h0 := World.var?_cell gES hvs 0; simpa using h0
  have c6 : W.cell? ⟨5, 0, none⟩ = some (.iface 242 (.pointer (some ar))) := by have h0 := World.var?_cell gER hvr 0; simpa using h0
  exact ⟨⟨m, hm⟩, ⟨⟨_, c5, .inr ⟨_, _, rfl⟩⟩, ⟨_, c6, .inr ⟨_, _, rfl⟩⟩⟩, Lib.tabIs_of_head gPow gPowType Tryz.underlying161 Tryz.underlying123 cellsU cellsP hL.tail.tail, hA⟩
end Go.Proofs.YtcibciippghooaaGreatDoor
namespace Go.Proofs.YtcibciippghooaaGreatDoor
open Go
variable {H : Type} {enc : TypeId × Value → H}

/-- As the library's wrap; the contract is told the laid variables, the world's shape and the size bound of the arguments. -/
theorem returns_laid_sized {a : Assume} {C : Checked} {os : Os} {f : FuncId} {fn : Func} {s : ChangeSpec} {conds : List PathCond} {apart fresh handsOn again : Bool} {X : World → Array Value → Prop}
    (hX : ∀ (w w' : World) (args : Array Value), w.heap = w'.heap → X w args → X w' args)
    (own : ownKnob C.prog.godebug = none) (started : os.Started) (noInit : C.prog.inits.idxOf? f = none) (hfn : C.prog.funcs[f]? = some fn)
    (witness : ∃ (w : World) (tape : Go.Tape) (i : Input), w.os = os ∧ (w.forCall tape i).Shaped C.prog ∧ i.vars = [] ∧ Input.okWide C.prog (w.forCall tape i) .any w.heap.size f i ∧
      ((s.pre enc C.prog fn conds apart (w.forCall tape i).memory i.args ∧ X (w.forCall tape i).memory i.args) ∧ sizedMet enc C.prog fn (OpenSpec.ofChange s) apart (w.forCall tape i).memory i.args) ∧ a.holds C.prog (lone (Frame.enter C.prog f i.args .normal) [] (w.forCall tape i)))
    (contract : ∀ (W : World) (base : Nat) (args : Array Value) (ds2 gs2 : List (DataW H)) (before2 : List MemPlace),
      (∀ (j : Nat) t v, fn.params[j]? = some t → args[j]? = some v → Value.okWide C.prog W .any base t v) →
      DataW.Whole enc C.prog fn.params.toList s.vars apart W args.toList ds2 gs2 before2 →
      (DataW.weightsEach C.prog (fn.params.toList ++ (OpenSpec.ofChange s).bare.plain.varTypes C.prog) (ds2 ++ gs2)).all (· ≤ reachBytes) = true →
      X W args → W.ShapedOpen C.prog →
      Calls C.prog f args W fun e W' => ∃ v, e = .returned v ∧ s.post enc C.prog fn apart fresh handsOn again W args v W') :
    ReturnsInHanded a C os f .any (fun w args => (s.pre enc C.prog fn conds apart w args ∧ X w args) ∧ sizedMet enc C.prog fn (OpenSpec.ofChange s) apart w args) (s.post enc C.prog fn apart fresh handsOn again) := by
  refine returnsInHanded_of_calls own started noInit witness ?_
  intro w tape i _ hsh _ hok hpre hholds
  obtain ⟨_, _, _, fn', hfn', _, _, _, _, hval⟩ := hok
  have e : fn' = fn := Option.some.inj (hfn'.symm.trans hfn)
  subst e
  obtain ⟨⟨⟨ds, gs, before, hw, hc⟩, hx⟩, _, ds2, gs2, before2, hw2, hz⟩ := hpre
  have hw2' := DataW.Whole.of_heap (w' := w.forCall tape i) (by rfl) hw2
  refine (contract (w.forCall tape i) w.heap.size i.args ds2 gs2 before2 hval hw2' hz (hX _ _ _ (by rfl) hx) hsh).mono fun e W' ⟨v, he, hp⟩ => ?_
  subst he
  exact ChangeSpec.post_blind hp
end Go.Proofs.YtcibciippghooaaGreatDoor
namespace Go.Proofs.YtcibciippghooaaGreatDoor
open Go.RowKit Go.Maps Go.ChangeShapes
set_option linter.unusedVariables false

/-- What a row's size bound says of one argument. -/
def Wt {H : Type} (t : TypeId) (d : DataW H) : Prop := ∀ n ∈ d.weights Tryz.prog t, n ≤ reachBytes
theorem wt_all {H : Type} (e : TypeId) : ∀ (l : List (DataW H)) (d : DataW H), d ∈ l → ∀ n ∈ d.weights Tryz.prog e, n ∈ DataW.weightsAll Tryz.prog e l
  | x :: t, d, h, n, hn => by
    simp only [DataW.weightsAll, List.mem_append]
    rcases List.mem_cons.1 h with rfl | h
    · exact .inl hn
    · exact .inr (wt_all e t d h n hn)
  | [], d, h, _, _ => by cases h
theorem wt_string {H : Type} {t : TypeId} {s : ByteArray} (h : Wt t (.lit (.string s.data.toList) : DataW H)) : s.size ≤ reachBytes := by
  have h1 := h s.data.toList.length (by simp [DataW.weights])
  rwa [Array.length_toList] at h1
theorem wt_slice {H : Type} {t e : TypeId} {el sp : List (DataW H)} (hu : Tryz.prog.underlying t = some (.slice e)) (h : Wt t (.slice el sp)) :
    (el.length + sp.length) * Tryz.prog.bytesOf e ≤ reachBytes ∧ ∀ d ∈ el, Wt e d := by
  refine ⟨h _ (by simp [DataW.weights, hu]), fun d hd n hn => h n ?_⟩
  simp only [DataW.weights, hu, List.mem_cons, List.mem_append]
  exact .inr (.inl (wt_all e el d hd n hn))
theorem wt_struct {H : Type} {t : TypeId} {fs : Array Field} {parts : List (DataW H)} (hu : Tryz.prog.underlying t = some (.struct fs)) (h : Wt t (.agg parts)) {j : Nat} {f : Field} {d : DataW H} (hf : fs[j]? = some f) (hd : parts[j]? = some d) : Wt f.type d := fun n hn => h n (by
  simp only [DataW.weights, hu]
  exact DataW.weights_mem_each (j := j) (by rw [List.getElem?_map, Array.getElem?_toList, hf]; rfl) hd n hn)
theorem wt_each {H : Type} {ts : List TypeId} {ds : List (DataW H)} (h : (DataW.weightsEach Tryz.prog ts ds).all (· ≤ reachBytes) = true) {j : Nat} {t : TypeId} {d : DataW H} (ht : ts[j]? = some t) (hd : ds[j]? = some d) : Wt t d := fun n hn => by
  have := List.all_eq_true.1 h n (DataW.weights_mem_each ht hd n hn)
  simpa using this

section
variable {H : Type} {enc : TypeId × Value → H} {w : World} {base : Nat} {spare : Nat → Bool} {held : Bool}
theorem lt_of_cell {w : World} {p : Addr} {v : Value} (h : w.cell? p = some v) : p.block < w.heap.size := by
  unfold World.cell? at h
  cases hh : w.heap[p.block]? with
  | none => simp [hh] at h
  | some o => exact (Array.getElem?_eq_some_iff.1 hh).1
/-- The bounds of texts that came in. -/
structure StrsIn (l : List ByteArray) : Prop where
  n : l.length * 16 ≤ reachBytes
  s : ∀ x ∈ l, x.size ≤ reachBytes
set_option maxRecDepth 100000 in
theorem open_strs_raw {fuel : Nat} {cs : List Value} {x : DataW H × List MemPlace} (h : DataW.trod enc Tryz.prog w base spare held fuel 27 cs = some x) (hz : Wt 27 x.1) :
    ∃ a c l, cs = [.slice a (l : List ByteArray).length c] ∧ Strs w a c l ∧ StrsIn l := by
  rcases open_strings Tryz.underlying27 Tryz.underlying9 (by kernel_rfl) h with ⟨rfl, _⟩ | ⟨a, len, cap, ss, rfl, hb, h1, h2, h3, rfl, h4, h5⟩
  · exact ⟨none, 0, [], rfl, Strs.nil w, ⟨by simp, by simp⟩⟩
  · have hle : len ≤ ss.length := by rw [h3]; split <;> omega
    have hl : (ss.take len).length = len := by rw [List.length_take]; omega
    obtain ⟨z1, z2⟩ := wt_slice Tryz.underlying27 hz
    have hbs : Tryz.prog.bytesOf 9 = 16 := by kernel_rfl
    rw [hbs] at z1
    have z3 : (strs (H := H) (ss.take len)).length = (ss.take len).length := by simp [strs]
    refine ⟨some a, cap, ss.take len, by rw [hl], ⟨by omega, h2, (fun e => by cases e), fun ad e hne => ?_⟩, ⟨by rw [z3] at z1; omega, fun s hs => wt_string (z2 _ (List.mem_map.2 ⟨s, hs, rfl⟩))⟩⟩
    cases e
    have hpos : 0 < (ss.take len).length := List.length_pos_iff.2 hne
    have h0 := h4 0 (by omega)
    have hsp : a.spot = none := by simpa [Addr.add] using World.cell?_spot h0
    have hbl := lt_of_cell h0
    obtain ⟨b, off, sp⟩ := a
    simp at hsp
    subst hsp
    rw [Addr.add_lit] at hbl
    refine ⟨rfl, hbl, fun i y hi => ?_⟩
    have hlt : i < (ss.take len).length := (List.getElem?_eq_some_iff.1 hi).1
    have h6 := h4 i (by omega)
    rw [List.getElem?_take_of_lt (by omega)] at hi
    rw [List.getD_eq_getElem?_getD, hi, Addr.add_lit] at h6
    simpa using h6
set_option maxRecDepth 100000 in
theorem structMem : ∃ f0 f1 f2 f3 f4 f5 f6 : Field, Tryz.prog.underlying 31 = some (.struct #[f0, f1, f2, f3, f4, f5, f6]) ∧ (f0.offset = 0 ∧ f0.type = 9) ∧ (f1.offset = 1 ∧ f1.type = 9) ∧ (f2.offset = 2 ∧ f2.type = 3) ∧ (f3.offset = 3 ∧ f3.type = 3) ∧ (f4.offset = 4 ∧ f4.type = 3) ∧ (f5.offset = 5 ∧ f5.type = 3) ∧ (f6.offset = 6 ∧ f6.type = 27) :=
  ⟨_, _, _, _, _, _, _, Tryz.underlying31, ⟨rfl, rfl⟩, ⟨rfl, rfl⟩, ⟨rfl, rfl⟩, ⟨rfl, rfl⟩, ⟨rfl, rfl⟩, ⟨rfl, rfl⟩, ⟨rfl, rfl⟩⟩
/-- The bounds of a member that came in. -/
structure MemIn (m : Mem) : Prop where
  p : m.p.size ≤ reachBytes
  i : m.i.size ≤ reachBytes
  r : (Lit.int .i64 m.r).wf = true
  s : (Lit.int .i64 m.s).wf = true
  t : (Lit.int .i64 m.t).wf = true
  e : (Lit.int .i64 m.e).wf = true
  l : StrsIn m.l
set_option maxRecDepth 100000 in
theorem open_mem_raw {fuel : Nat} {cs : List Value} {x : DataW H × List MemPlace} (h : DataW.trod enc Tryz.prog w base spare held fuel 31 cs = some x) (hz : Wt 31 x.1) :
    ∃ m : Mem, cs = m.vals.toList ∧ Strs w m.a m.c m.l ∧ MemIn m := by
  obtain ⟨f0, f1, f2, f3, f4, f5, f6, hu, ⟨o0, t0⟩, ⟨o1, t1⟩, ⟨o2, t2⟩, ⟨o3, t3⟩, ⟨o4, t4⟩, ⟨o5, t5⟩, ⟨o6, t6⟩⟩ := structMem
  obtain ⟨xs, k, hk, hxy, hlen, hxl, hf⟩ := DataW.trod_struct hu h
  have hc : Tryz.prog.cellsOf 31 = 7 := by kernel_rfl
  have hcs : Tryz.prog.cellsOf 9 = 1 := by kernel_rfl
  have hci : Tryz.prog.cellsOf 3 = 1 := by kernel_rfl
  have hcl : Tryz.prog.cellsOf 27 = 1 := by kernel_rfl
  rw [hc] at hlen
  match xs, hxl, cs, hlen with
  | [y0, y1, y2, y3, y4, y5, y6], _, [v0, v1, v2, v3, v4, v5, v6], _ =>
    have g0 := hf 0 f0 rfl
    have g1 := hf 1 f1 rfl
    have g2 := hf 2 f2 rfl
    have g3 := hf 3 f3 rfl
    have g4 := hf 4 f4 rfl
    have g5 := hf 5 f5 rfl
    have g6 := hf 6 f6 rfl
    rw [o0, t0, hcs] at g0
    rw [o1, t1, hcs] at g1
    rw [o2, t2, hci] at g2
    rw [o3, t3, hci] at g3
    rw [o4, t4, hci] at g4
    rw [o5, t5, hci] at g5
    rw [o6, t6, hcl] at g6
    subst hxy
    have zz := fun (j : Nat) (f : Field) (d : DataW H) h1 h2 => wt_struct (j := j) (f := f) (d := d) hu hz h1 h2
    have z0 := zz 0 f0 y0.1 rfl rfl
    have z1 := zz 1 f1 y1.1 rfl rfl
    have z6 := zz 6 f6 y6.1 rfl rfl
    rw [t0] at z0
    rw [t1] at z1
    rw [t6] at z6
    obtain ⟨s0, e0, d0, b0⟩ := DataW.trod_string Tryz.underlying9 (show DataW.trod enc Tryz.prog w base spare held k 9 [v0] = some y0 from g0)
    obtain ⟨s1, e1, d1, b1⟩ := DataW.trod_string Tryz.underlying9 (show DataW.trod enc Tryz.prog w base spare held k 9 [v1] = some y1 from g1)
    obtain ⟨n2, e2, _, b2⟩ := DataW.trod_int Tryz.underlying3 (show DataW.trod enc Tryz.prog w base spare held k 3 [v2] = some y2 from g2)
    obtain ⟨n3, e3, _, b3⟩ := DataW.trod_int Tryz.underlying3 (show DataW.trod enc Tryz.prog w base spare held k 3 [v3] = some y3 from g3)
    obtain ⟨n4, e4, _, b4⟩ := DataW.trod_int Tryz.underlying3 (show DataW.trod enc Tryz.prog w base spare held k 3 [v4] = some y4 from g4)
    obtain ⟨n5, e5, _, b5⟩ := DataW.trod_int Tryz.underlying3 (show DataW.trod enc Tryz.prog w base spare held k 3 [v5] = some y5 from g5)
    obtain ⟨a, c, l, e6, hS, hl⟩ := open_strs_raw (show DataW.trod enc Tryz.prog w base spare held k 27 [v6] = some y6 from g6) z6
    rw [d0] at z0
    rw [d1] at z1
    cases e0; cases e1; cases e2; cases e3; cases e4; cases e5; cases e6
    exact ⟨⟨s0, s1, n2, n3, n4, n5, a, l, c⟩, rfl, hS, ⟨wt_string z0, wt_string z1, b2, b3, b4, b5, hl⟩⟩

set_option maxRecDepth 100000 in
theorem open_mems_raw {fuel : Nat} {cs : List Value} {x : DataW H × List MemPlace} (h : DataW.trod enc Tryz.prog w base spare held fuel 37 cs = some x) (hz : Wt 37 x.1) :
    ∃ a c L, cs = [.slice a (L : List Mem).length c] ∧ Mems w a c L ∧ ∀ m ∈ L, MemIn m := by
  rcases Go.Deep.open_slice Tryz.underlying37 h with ⟨rfl, _⟩ | ⟨a, len, cap, m, n, D, Pl, rfl, hb, hl, hm, hmm, rfl, hx⟩
  · exact ⟨none, 0, [], rfl, Mems.nil w, by simp⟩
  · have hc : Tryz.prog.cellsOf 31 = 7 := by kernel_rfl
    rw [hc] at hx
    have hlm : len ≤ m := by rw [hmm]; split <;> omega
    have each : ∀ i, i < len → ∃ M : Mem, (∀ j, j < 7 → w.cell? ((a.add (i * 7)).add j) = M.vals[j]?) ∧ Strs w M.a M.c M.l ∧ MemIn M := fun i hi => by
      obtain ⟨cs', h1, h2⟩ := hx i (by omega)
      obtain ⟨M, rfl, hS, hM⟩ := open_mem_raw h2 ((wt_slice Tryz.underlying37 hz).2 _ (List.mem_map.2 ⟨i, List.mem_range.2 hi, rfl⟩))
      obtain ⟨_, _, h3⟩ := World.cells?_some h1
      exact ⟨M, fun j hj => by rw [h3 j hj]; simp, hS, hM⟩
    obtain ⟨F, hF⟩ : ∃ F : Nat → Mem, ∀ i, i < len → (∀ j, j < 7 → w.cell? ((a.add (i * 7)).add j) = (F i).vals[j]?) ∧ Strs w (F i).a (F i).c (F i).l ∧ MemIn (F i) := by
      refine ⟨fun i => if hi : i < len then Classical.choose (each i hi) else Mem.zero, fun i hi => ?_⟩
      simp only [hi, dif_pos]
      exact Classical.choose_spec (each i hi)
    have hL : ((List.range len).map F).length = len := by simp
    refine ⟨some a, cap, (List.range len).map F, by rw [hL], ⟨by rw [hL]; exact hl, hm, (fun e => by cases e), fun M hM => ?_, fun ad e hne => ?_⟩, fun M hM => ?_⟩
    · obtain ⟨i, hi, rfl⟩ := List.mem_map.1 hM
      exact (hF i (List.mem_range.1 hi)).2.1
    · cases e
      have hpos : 0 < len := by rw [← hL]; exact List.length_pos_iff.2 hne
      have h0 := (hF 0 hpos).1 0 (by omega)
      have h0' : w.cell? ((a.add (0 * 7)).add 0) = some (.string (F 0).p) := by rw [h0]; rfl
      have hsp : a.spot = none := by simpa [Addr.add] using World.cell?_spot h0'
      have hbl := lt_of_cell h0'
      obtain ⟨b, off, sp⟩ := a
      simp at hsp
      subst hsp
      rw [Addr.add_lit, Addr.add_lit] at hbl
      refine ⟨rfl, hbl, fun i M hi j hj => ?_⟩
      have hil : i < len := by rw [← hL]; exact (List.getElem?_eq_some_iff.1 hi).1
      have h6 := (hF i hil).1 j hj
      rw [List.getElem?_map, List.getElem?_range hil] at hi
      obtain rfl : F i = M := by simpa using hi
      rw [Addr.add_lit, Addr.add_lit] at h6
      rw [← h6]
      rw [← Nat.add_assoc]
    · obtain ⟨i, hi, rfl⟩ := List.mem_map.1 hM
      exact (hF i (List.mem_range.1 hi)).2.2
end
end Go.Proofs.YtcibciippghooaaGreatDoor
