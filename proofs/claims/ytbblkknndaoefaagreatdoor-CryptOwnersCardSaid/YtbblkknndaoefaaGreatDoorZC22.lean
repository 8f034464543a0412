/- Slices of members as sources of an append; lists turned round. The law CryptOwners: the walk. coldplugref33.Open, Asks. The law CryptOpens: the walk. What the laid variables give to a law of the contents' chapters. The row's frame for a row with listed variables, the world's shape and the row's size bound. Plain. -/
import Derived.Test.YtbblkknndaoefaaGreatDoorZC7
import Derived.Test.YtbblkknndaoefaaGreatDoorZC9
import Derived.Test.YtbblkknndaoefaaGreatDoorZC10
import Derived.Test.YtbblkknndaoefaaGreatDoorZC20
import Derived.Test.YtbblkknndaoefaaGreatDoorZC21
import Derived.Test.YtbblkknndaoefaaGreatDoorZC11
import Derived.Test.YtbblkknndaoefaaGreatDoorZC13
import Derived.Test.YtbblkknndaoefaaGreatDoorRows
import Derived.Shelf.Vars
import Derived.Stop.LaidErr
import Derived.MakeChecks
import Derived.Lib.LaidTab
import Derived.OpenShut
import Derived.LaidMore
import Derived.Lay
import Derived.HandedShaped
import Derived.Handed
namespace Go.Proofs.YtbblkknndaoefaaGreatDoor
open Go.RowKit Go.Maps
set_option linter.unusedVariables false

theorem mflat_get : ∀ (L : List Mem) (j : Nat) (u : Value), (mflat L)[j]? = some u → ∃ m, L[j / 7]? = some m ∧ m.vals[j % 7]? = some u
  | [], j, u, h => by simp [mflat] at h
  | x :: t, j, u, h => by
    have e : mflat (x :: t) = x.vals.toList ++ mflat t := by simp [mflat]
    have hl : x.vals.toList.length = 7 := by simp [Mem.vals]
    rw [e] at h
    by_cases hj : j < 7
    · rw [List.getElem?_append_left (by omega)] at h
      refine ⟨x, by rw [show j / 7 = 0 by omega]; rfl, ?_⟩
      rw [show j % 7 = j by omega, ← Array.getElem?_toList]; exact h
    · rw [List.getElem?_append_right (by omega), hl] at h
      obtain ⟨m, h1, h2⟩ := mflat_get t (j - 7) u h
      refine ⟨m, ?_, ?_⟩
      · rw [show j / 7 = (j - 7) / 7 + 1 by omega]; simpa using h1
      · rw [show j % 7 = (j - 7) % 7 by omega]; exact h2
theorem mflat_append (L M : List Mem) : mflat (L ++ M) = mflat L ++ mflat M := by simp [mflat]
theorem mflat_one (L : List Mem) : ∀ u ∈ mflat L, u.oneCell' = true := by
  intro u hu
  obtain ⟨m, _, h⟩ := List.mem_flatMap.1 hu
  exact mvals_one m u h
/-- The cells of a slice of members, from the n-th on. -/
theorem Mems.src {w : World} {a : Option Addr} {cap : Nat} {L : List Mem} (h : Mems w a cap L) (n : Nat) : ∀ ad, a = some ad → ∀ j u, (mflat (L.drop n))[j]? = some u → w.cell? ⟨ad.block, ad.off + n * 7 + j, none⟩ = some u := by
  intro ad e j u hu
  obtain ⟨m, h1, h2⟩ := mflat_get _ _ _ hu
  rw [List.getElem?_drop] at h1
  obtain ⟨_, _, h3⟩ := h.cell ad e (by intro e; subst e; simp at h1)
  have h4 := h3 (n + j / 7) m h1 (j % 7) (by omega)
  rw [← h2, ← h4]
  congr 2
  omega
theorem Mems.srcT {w : World} {a : Option Addr} {cap : Nat} {L : List Mem} (h : Mems w a cap L) (n : Nat) : ∀ ad, a = some ad → ∀ j u, (mflat (L.take n))[j]? = some u → w.cell? ⟨ad.block, ad.off + j, none⟩ = some u := by
  intro ad e j u hu
  obtain ⟨m, h1, h2⟩ := mflat_get _ _ _ hu
  have h1' : L[j / 7]? = some m := by
    rw [List.getElem?_take] at h1
    split at h1
    · exact h1
    · cases h1
  obtain ⟨_, _, h3⟩ := h.cell ad e (by intro e; subst e; simp at h1')
  have h4 := h3 (j / 7) m h1' (j % 7) (by omega)
  rw [← h2, ← h4]
  congr 2
  omega

theorem Mems.from_if {w : World} {a : Option Addr} {cap : Nat} {L : List Mem} (h : Mems w a cap L) (n : Nat) (hn : n ≤ L.length) :
    (∀ ad, (if cap = n then a else Option.map (fun x => x.add (n * 7)) a) = some ad → ∀ j u, (mflat (L.drop n))[j]? = some u → w.cell? (ad.add j) = some u) ∧
    ((if cap = n then a else Option.map (fun x => x.add (n * 7)) a) = none → L.length - n = 0 ∧ cap - n = 0) := by
  have hl := h.len
  constructor
  · intro ad e j u hu
    have hne : L ≠ [] := by intro e; subst e; simp [mflat] at hu
    split at e
    · rename_i hc
      have : L.drop n = [] := List.drop_eq_nil_of_le (by omega)
      rw [this] at hu
      simp [mflat] at hu
    · obtain ⟨ad', e', rfl⟩ := Option.map_eq_some_iff.1 e
      have hsp := (h.cell ad' e' hne).1
      have h1 := h.src n ad' e' j u hu
      obtain ⟨b, o, sp⟩ := ad'
      simp only at hsp h1
      subst hsp
      rw [Addr.add_lit, Addr.add_lit]
      exact h1
  · intro e
    split at e
    · rename_i hc
      obtain ⟨h1, h2⟩ := h.isNil e
      rw [h1]; simp; omega
    · obtain ⟨h1, h2⟩ := h.isNil (Option.map_eq_none_iff.1 e)
      rw [h1]; simp; omega
theorem Mems.upto {w : World} {a : Option Addr} {cap : Nat} {L : List Mem} (h : Mems w a cap L) (n : Nat) (hn : n ≤ L.length) :
    (∀ ad, a = some ad → ∀ j u, (mflat (L.take n))[j]? = some u → w.cell? (ad.add j) = some u) ∧ (a = none → n = 0 ∧ cap = 0) := by
  constructor
  · intro ad e j u hu
    have hne : L ≠ [] := by intro e; subst e; simp [mflat] at hu
    have hsp := (h.cell ad e hne).1
    have h1 := h.srcT n ad e j u hu
    obtain ⟨b, o, sp⟩ := ad
    simp only at hsp h1
    subst hsp
    rw [Addr.add_lit]
    exact h1
  · intro e
    obtain ⟨h1, h2⟩ := h.isNil e
    rw [h1] at hn
    exact ⟨by simpa using hn, h2⟩

/-- Different paths. -/
def Diff (L : List Mem) : Prop := L.Pairwise (fun m o => m.p ≠ o.p)
theorem diff_turn {L : List Mem} (h : Diff L) (n : Nat) : Diff (L.drop n ++ L.take n) := by
  have hp : (L.take n ++ L.drop n).Perm (L.drop n ++ L.take n) := List.perm_append_comm
  rw [List.take_append_drop] at hp
  exact hp.pairwise h (fun h => Ne.symm h)
theorem turn_mem (L : List Mem) (n : Nat) (m : Mem) : m ∈ L ↔ m ∈ L.drop n ++ L.take n := by
  have hp : (L.take n ++ L.drop n).Perm (L.drop n ++ L.take n) := List.perm_append_comm
  rw [List.take_append_drop] at hp
  exact hp.mem_iff
theorem diff_of {L : List Mem} (h : ∀ (i j : Nat) (m o : Mem), j < i → L[i]? = some m → L[j]? = some o → m.p ≠ o.p) : Diff L := by
  unfold Diff
  rw [List.pairwise_iff_getElem]
  intro i j hi hj hij
  exact Ne.symm (h j i _ _ hij (List.getElem?_eq_getElem hj) (List.getElem?_eq_getElem hi))
end Go.Proofs.YtbblkknndaoefaaGreatDoor
namespace Go.Proofs.YtbblkknndaoefaaGreatDoor
open Go.RowKit Go.Maps
set_option linter.unusedVariables false

theorem app_small {L R : List Mem} {K : List ByteArray} (hL : ∀ m ∈ L, LayOk m) (hl : L.length ≤ 8) (hR : FewOk R K) : MemSmall (L ++ R) := by
  have h1 := lay_small hL hl
  have h2 := hR.n
  refine ⟨by rw [List.length_append]; omega, ?_, ?_, ?_⟩ <;> intro m hm <;> rcases List.mem_append.1 hm with h | h
  · exact h1.p m h
  · have := (hR.m m h).1; omega
  · exact h1.i m h
  · have := (hR.m m h).2.1; omega
  · exact h1.l m h
  · have := (hR.m m h).2.2; omega

set_option maxRecDepth 100000 in
set_option maxHeartbeats 8000000 in
theorem cowners_walk (la : Option Addr) (lc : Nat) (l : List Int) (ra : Option Addr) (rc : Nat) (R : List Mem) (w : World) (hl : Ints w la lc l) (hR : Mems w ra rc R) (hin : ∀ m ∈ R, MemIn m) (hE : Env w) :
    Calls Tryz.prog 3 #[.slice la l.length lc, .slice ra R.length rc] w fun e w' => e = .returned (.bool true) ∧ Fr No w w' := by
  obtain ⟨i0, hi0, hz0, hz1, hz2⟩ := info_parts infoM
  have hfew := few33 ra rc R none 0 [] w hR hin (Strs.nil w) ⟨by simp, by simp⟩
  have hrm := hR.lenmax
  go_enter Tryz.func3, Tryz.ntmps3
  go_wp2_with fail
  refine hfew.mono ?_
  rintro e w1 ⟨⟨b, rfl, hb⟩, hf1⟩
  have hE1 := hE.no hf1
  clear hfew
  cases b with
  | false =>
    go_wp2_with fail
    refine (known33 w1 hE1).mono ?_
    rintro e wf ⟨rfl, hff⟩
    have hfin := hf1.step hff (fun _ _ h => h)
    go_wp2_with fail
    go_ret
    exact ⟨rfl, hfin⟩
  | true =>
    have hok := hb rfl
    have hl1 := hl.no hf1 (fun _ => id)
    have hR1 := hR.no hf1 (fun _ => id)
    have hx : Fr No w1 (w1.alloc (.cells #[.slice la l.length lc, .int .i64 0] 29)) := (Fr.refl _ _).alloc _
    have ht := Tape.make hl1 29
    have hE0 := hE1.no hx
    have hR0 := hR1.no hx (fun _ => id)
    have hs0 : (w1.alloc (.cells #[.slice la l.length lc, .int .i64 0] 29)).heap.size = w1.heap.size + 1 := by simp
    have hsz := hE1.sz
    obtain ⟨W0, hW0⟩ : ∃ W0, W0 = w1.alloc (.cells #[.slice la l.length lc, .int .i64 0] 29) := ⟨_, rfl⟩
    rw [← hW0] at hx ht hE0 hs0 hR0
    have hs0' : w1.heap.size + 1 ≤ W0.heap.size := by omega
    have hlay := made_layers2 w1.heap.size w1.heap.size 0 W0 ht (by omega)
    have Hx := Lib.hid (hf1.step hx (fun _ _ h => h))
    have hxk := hx
    have hs1 := hf1.size
    have HW0 := Lib.hid hW0.symm
    have Hok := Lib.hid hok
    have hrl := hok.n
    clear hs0 hx hE hE1 hf1 hl1 hl hR ht hok hb hin hW0 hR0
    go_wp2_with fail
    rw [HW0.out]
    clear HW0
    refine hlay.mono ?_
    rintro e w2 ⟨⟨L, a1, c1, k1, rfl, hL, hLf, hLm, hLo, hLl, hk1, ht1, hown⟩, hf2⟩
    have hE2 := hE0.fr hf2 (fun b hb h => by unfold Is at h; omega)
    have hfx2 : Fr (From w1.heap.size) w1 w2 := (hxk.mono (fun _ _ h => h.elim)).step hf2 (fun b _ h => by unfold Is at h; unfold From; omega)
    have hR2 := hR1.keep hfx2 (fun b hb h => by unfold From at h; omega)
    have hfw2 : Fr No w w2 := Hx.out.trans hf2 (fun _ _ h => h) (fun b hb h => by unfold Is at h; omega)
    have hup := hR2.upto R.length (Nat.le_refl _)
    rw [List.take_length] at hup
    have hs2 := hf2.size
    clear hlay hL hLf hk1 ht1 hf2 hE0 hxk
    have Hown := Lib.hid hown
    go_wp2_with (at_builtin; refine wpList_append_src rfl _ _ 23 rfl W0.heap.size 58 i0 (.agg #[.string ByteArray.empty, .string ByteArray.empty, .int .i64 0, .int .i64 0, .int .i64 0, .int .i64 0, .slice none 0 0]) 7 88 Tryz.underlying23 hi0 hz0 hz1 hz2 rfl (by decide) _ _ _ rfl hown _ R.length _ (mflat R) rfl hup.2 (by rw [mflat_len]) hup.1 (mflat_one _) (by unfold maxLen; omega) (by omega) (by first | omega | (simp; done) | (simp; omega)) ?_; intro v3 w3 own3 gr3; obtain ⟨av, cv, rfl⟩ := ownsRow_slice own3)
    have hg3 : Fr (From W0.heap.size) w2 w3 := (Fr.of_grown gr3).mono (fun b _ h => ownsRow_blk Hown.out h)
    have hR3 := hR1.keep (hfx2.step hg3 (fun b _ h => by unfold From at *; omega)) (fun b hb h => by unfold From at h; omega)
    have hL3 : MFresh w3 W0.heap.size L := MFresh.own hLm Hown.out (Fr.of_grown gr3)
    obtain ⟨Q, hQ⟩ : ∃ Q, Q = L ++ R := ⟨_, rfl⟩
    have hQl : L.length + R.length = Q.length := by rw [hQ, List.length_append]
    have hsmQ : MemSmall Q := by rw [hQ]; exact app_small hLo hLl Hok.out
    have hSQ : ∀ m ∈ Q, Strs w3 m.a m.c m.l := fun m hm => by
      rw [hQ] at hm
      rcases List.mem_append.1 hm with h | h
      · exact (hL3 m h).1
      · exact hR3.ok m h
    have hownQ : w3.ownsRow W0.heap.size 58 7 (.slice av Q.length cv) Q.length (mflat Q) := by rw [← hQl, hQ, mflat_append]; exact own3
    obtain ⟨a6, c6, e6, hM3, _⟩ := Mems.of_own hownQ hSQ
    cases e6
    have hfw3 : Fr No w w3 := hfw2.trans hg3 (fun _ _ h => h) (fun b hb h => by unfold From at h; omega)
    have hE3 := hE2.fr hg3 (fun b hb h => by unfold From at h; omega)
    obtain ⟨m0, hm3⟩ := hE3.len
    have hs3 := hg3.size
    clear hg3 hR3 hL3 hSQ hownQ own3 gr3 hup hfx2 hR2 hR1 hfw2 hE2 hLm hown Hown hQ
    rw [hQl]
    clear hQl
    have how := c_owners av cv Q m0 w3 hM3 hsmQ hm3 (by omega)
    go_wp2_with fail
    refine how.mono ?_
    rintro e w4 ⟨⟨oa, oc, O, ids, rfl, hO, _, _, hids, hOe, hil⟩, hf4⟩
    have HOe := Lib.hid hOe
    have Hids := Lib.hid hids
    have hM4 := hM3.no hf4 (fun _ => id)
    have hm4 := hf4.cell hm3 id
    have hE4 := hE3.no hf4
    have hs4 := hf4.size
    have hfw4 := hfw3.step hf4 (fun _ _ h => h)
    clear how hf4 hOe hids hM3 hm3 hE3 hfw3
    have hrw := ref_owners av cv Q m0 w4 hM4 hsmQ hm4 (by omega)
    go_wp2_with fail
    refine hrw.mono ?_
    rintro e w5 ⟨⟨pa, pc, P, rfl, hP, hPe⟩, hf5⟩
    have hOP : O.map Mem.k = P.map Mem.k := by
      rw [HOe.out, hPe, ownF_k, Hids.out.unique (ids33 Q) (fun _ => rfl)]
    have hO5 := hO.no hf5 (fun _ => id)
    have hE5 := hE4.no hf5
    have hfw5 := hfw4.step hf5 (fun _ _ h => h)
    have hsm := same_members_eq oa pa oc pc O P w5 hO5 hP hOP
    clear hrw hf5 hPe hM4 hm4 hE4 hfw4 hO hOP hO5 hP
    go_wp2_with fail
    refine hsm.mono ?_
    rintro e w6 ⟨rfl, hf6⟩
    have hfw6 := hfw5.step hf6 (fun _ _ h => h)
    have hkn := known33 w6 (hE5.no hf6)
    clear hsm hf6
    go_wp2_with fail
    refine hkn.mono ?_
    rintro e wf ⟨rfl, hff⟩
    have hfin := hfw6.step hff (fun _ _ h => h)
    go_wp2_with fail
    go_ret
    exact ⟨rfl, hfin⟩
end Go.Proofs.YtbblkknndaoefaaGreatDoor
namespace Go.Proofs.YtbblkknndaoefaaGreatDoor
open Go.RowKit Go.Maps
set_option linter.unusedVariables false

theorem ownF_len (L : List Mem) (ids : List ByteArray) : (ownF L ids).length = ids.length := by simp [ownF]
theorem ownF_at {L : List Mem} {ids : List ByteArray} {j : Nat} {m : Mem} (hids : IsIds L ids) (h : (ownF L ids)[j]? = some m) : ids[j]? = some m.i ∧ m.l.length = 1 ∧ m ∈ L ∧ inner0 L m.i = m.l.headD ⟨#[]⟩ := by
  unfold ownF at h
  rw [List.getElem?_map] at h
  rcases hx : ids[j]? with _ | x
  · rw [hx] at h; cases h
  · rw [hx] at h
    obtain ⟨o, ho⟩ := Option.isSome_iff_exists.1 ((hids.mem x).1 (List.mem_of_getElem? hx))
    obtain ⟨h1, h2, h3⟩ := best_mem L _ o ho
    rw [Option.map_some, ho] at h
    obtain rfl : o = m := Option.some.inj h
    have h4 := kb_inj h3
    subst h4
    exact ⟨rfl, h2, h1, by unfold inner0; rw [ho]; rfl⟩

set_option maxRecDepth 100000 in
set_option maxHeartbeats 4000000 in
theorem ref_open (a : Option Addr) (cap : Nat) (L : List Mem) (ka : Option Addr) (kc : Nat) (K : List ByteArray) (r : Int) (m0 : Int) (w : World) (hl : Mems w a cap L) (hb : MemSmall L) (hk : Strs w ka kc K)
    (hm0 : w.cell? ⟨1, 0, none⟩ = some (.int .i64 m0)) (hw0 : 1 < w.heap.size) :
    Calls Tryz.prog 24 #[.slice a L.length cap, .slice ka K.length kc, .int .i64 r] w fun e w' => OpenRes w L K r e w' ∧ Fr No w w' := by
  obtain ⟨i0, hi0, hz0, hz1, hz2⟩ := info_parts infoV
  have hlm := hb.len
  have hids := ids33 L
  have hil : (idsW (goodL L)).length ≤ L.length := Nat.le_trans (idsW_ok _).2.2 (goodL_len L)
  have how := ref_owners a cap L m0 w hl hb hm0 hw0
  have Hb := Lib.hid hb
  clear hb
  go_enter Tryz.func24, Tryz.ntmps24
  go_wp2_with fail
  refine how.mono ?_
  rintro e w1 ⟨⟨oa, oc, O, rfl, hO, hOe⟩, hf1⟩
  have hk1 := hk.no hf1 (fun _ => id)
  have hol : O.length = (idsW (goodL L)).length := by rw [hOe, ownF_len]
  obtain ⟨ids, hide⟩ : ∃ ids, ids = idsW (goodL L) := ⟨_, rfl⟩
  rw [← hide] at hids hil hOe hol
  have hol1 : O.length ≤ ids.length := by omega
  have hol2 : ids.length ≤ O.length := by omega
  have HOe := Lib.hid hOe
  have Hids := Lib.hid hids
  have Hf1 := Lib.hid hf1
  have hom := hO.lenmax
  clear how hf1 hide hids hOe hol hl hk hm0
  go_wp2_with fail
  go_loopw [7, 9] (fun v i wr => ∃ (j : Nat) (V : List Vir) (av : Option Addr) (cv : Nat), j ≤ O.length ∧ V.length ≤ j ∧ v = .slice av V.length cv ∧ i = .int .i64 (j : Int) ∧ wr.ownsRow w1.heap.size 64 4 (.slice av V.length cv) V.length (vflat V) ∧ Hid (V = (opened (ids.take j) K).map (virOf L r)) ∧ Fr (From w1.heap.size) w1 wr) (fun _ i _ => O.length - (intOf i).toNat)
  case atStart => exact ⟨0, [], none, 0, by omega, by simp, rfl, rfl, World.ownsRow_nil _ _ _ _, by unfold Hid; rfl, Fr.refl _ _⟩
  case round =>
    obtain ⟨j, V, av, cv, hj, hVj, rfl, rfl, hown, HV, hf⟩ := hrel
    have hsr := hf.size
    by_cases hlt : j < O.length
    · have hlt' : (j : Int) < O.length := by omega
      have hOr := hO.keep hf (fun b hb h => by unfold From at h; omega)
      obtain ⟨ob, oo, m, rfl, hmj, hst, ⟨c0, c1, c2, c3, c4, c5, c6⟩, hobl⟩ := hOr.elem hlt
      obtain ⟨h1, h2, h3, h4⟩ := ownF_at Hids.out (by rw [← HOe.out]; exact hmj)
      have hmi := Hb.out.i m h3
      have Htk : Hid (ids.take (j + 1) = ids.take j ++ [m.i]) := by unfold Hid; rw [List.take_add_one, h1]; rfl
      have hin := ref_in32 ka kc K m.i wr (hk1.keep hf (fun b hb h => by unfold From at h; omega))
      have Hf := Lib.hid hf
      have H4 := Lib.hid h4
      obtain ⟨sb, so, c, e6, hc0, hcs⟩ := hst.at (k := 0) (by omega)
      have hOl : Hid (ob < w1.heap.size) := (hO.cell _ rfl (by intro e; rw [e] at hlt; simp at hlt)).2.1
      have hsl : Hid (sb < w1.heap.size) := by
        have h5 := (hO.ok m (List.mem_of_getElem? hmj)).cell _ e6 (by intro e; rw [e] at h2; simp at h2)
        exact h5.2.1
      have hne : (m.l.length : Int) = 1 := by omega
      have Hc : Hid (m.l.headD ⟨#[]⟩ = c) := by unfold Hid; rcases hml : m.l with _ | ⟨x, t⟩ <;> rw [hml] at hc0 <;> simp at hc0 ⊢; exact hc0
      clear h1 h3 h4 hmj hc0 hf
      obtain ⟨mp, mi, mr, ms, mt, me, ma, ml, mc⟩ := m
      simp only at c0 c1 c2 c3 c4 c5 c6 hmi h2 e6 hcs hne Hc H4 hin Htk
      subst e6
      have Hown := Lib.hid hown
      have HOr := Lib.hid hOr
      clear hown hOr
      go_wp2_with fail
      refine hin.mono ?_
      rintro e w2 ⟨rfl, hf2⟩
      have Hown2 := Lib.hid (ownsRow_at Hown.out hf2 (fun _ _ h => h))
      have Hf2 := Lib.hid (Hf.out.step hf2 (fun _ _ h => h.elim))
      have hsf2 := Hf2.out.size
      have y1 := hf2.cell c1 id
      have y6 := hf2.cell c6 id
      have ys := hf2.cell hcs id
      clear c0 c1 c2 c3 c4 c5 c6 hcs hin hf2 hst
      rcases hkk : hasS K mi with _ | _
      · have HV' : Hid (V = (opened (ids.take (j + 1)) K).map (virOf L r)) := by
          unfold Hid; rw [Htk.out, opened_snoc, hkk, HV.out]; simp
        clear hkk
        go_wp2_with fail
        go_roundw
        case rel => exact ⟨j + 1, V, av, cv, by omega, by omega, rfl, by go_num, Hown2.out, HV', Hf2.out⟩
        case measure => simp [intOf]; omega
      · have HV' : Hid (V ++ [⟨⟨#[]⟩, openT ++ mi, c, r⟩] = (opened (ids.take (j + 1)) K).map (virOf L r)) := by
          unfold Hid; rw [Htk.out, opened_snoc, hkk, HV.out]
          simp only [if_true, List.map_append, List.map_cons, List.map_nil, virOf, H4.out, Hc.out]
        clear hkk
        have hzz : ¬ 9223372036854775807 < 5 + mi.size := by omega
        go_wp2_with fail
        have hblo := hOl.out
        have hslo := hsl.out
        have nO : ¬ (Value.slice av V.length cv).ownBlock = some ob := fun h => by have := ownsRow_blk Hown2.out h; unfold From at this; omega
        have nS : ¬ (Value.slice av V.length cv).ownBlock = some sb := fun h => by have := ownsRow_blk Hown2.out h; unfold From at this; omega
        refine region_sig (fun b => (Value.slice av V.length cv).ownBlock = some b) [(0, false), (1, false), (2, false), (3, false), (4, false), (5, false), (6, false), (7, false), (8, false), (9, false), (10, false), (11, false), (12, false), (13, false), (14, false), (15, false), (16, true), (17, true), (18, false)] (by kernel_rfl) (by kernel_rfl) (fun w0 hf0 => ?_)
        have g1 : ∀ g : Gr (fun b => (Value.slice av V.length cv).ownBlock = some b) w0, g.W.cell? ⟨ob, oo + j * 7 + 1, none⟩ = some (.string mi) := fun g => g.fr.cell (hf0.cell y1 id) nO
        have g6 : ∀ g : Gr (fun b => (Value.slice av V.length cv).ownBlock = some b) w0, g.W.cell? ⟨ob, oo + j * 7 + 6, none⟩ = some (.slice (some ⟨sb, so, none⟩) ml.length mc) := fun g => g.fr.cell (hf0.cell y6 id) nO
        have gc : ∀ g : Gr (fun b => (Value.slice av V.length cv).ownBlock = some b) w0, g.W.cell? ⟨sb, so, none⟩ = some (.string c) := fun g => g.fr.cell (hf0.cell ys id) nS
        have hown3 := ownsRow_at Hown2.out hf0 (fun _ _ h => h)
        have hs0 := hf0.size
        have Hfx := Lib.hid (Hf2.out.step hf0 (fun _ _ h => h.elim))
        have Hown3 := Lib.hid hown3
        clear hf0 nO nS hown3 y1 y6 ys
        repeat (first | (apply sig_q; exact rfl; exact rfl; exact rfl; intro K hK; go_big_quiet_op; go_big_quiet_on) | (apply sig_skip; exact rfl; exact rfl; exact rfl; intro K hK; go_big_quiet_op; go_big_quiet_on))
        clear g1 g6 gc
        apply sig_m
        exact rfl
        go_wp2_with fail
        refine OnlyN.mk ⟨(Fr.refl _ _).alloc _, ?_⟩
        apply sig_m
        exact rfl
        go_wp2_with (at_builtin; refine wpList_append_own _ rfl _ _ 36 rfl w1.heap.size 64 i0 (.agg #[.string ByteArray.empty, .string ByteArray.empty, .string ByteArray.empty, .int .i64 0]) 4 56 Tryz.underlying36 hi0 hz0 hz1 hz2 rfl (by decide) _ _ _ rfl (Hown3.out.alloc _) ⟨w0.heap.size, 0, none⟩ 1 1 (Vir.vals ⟨⟨#[]⟩, openT ++ mi, c, r⟩).toList rfl rfl (cells_new _ (Vir.vals ⟨⟨#[]⟩, openT ++ mi, c, r⟩) _ rfl) (vvals_one _) (by unfold maxLen; omega) (by omega) (by first | omega | (simp; done) | (simp; omega)) ?_; intro v' w9 hown9 hgrow9 _; obtain ⟨av', cv', rfl⟩ := ownsRow_slice hown9)
        have hgf : Fr (fun b => (Value.slice av V.length cv).ownBlock = some b) (w0.alloc (.cells (Vir.vals ⟨⟨#[]⟩, openT ++ mi, c, r⟩) 64)) w9 := Fr.of_grown hgrow9
        have hal : Fr No w0 (w0.alloc (.cells (Vir.vals ⟨⟨#[]⟩, openT ++ mi, c, r⟩) 64)) := (Fr.refl _ _).alloc _
        refine OnlyN.mk ⟨hgf, ?_⟩
        have HF := Lib.hid (And.intro hown9 ((Hfx.out.step hal (fun _ _ h => h.elim)).step hgf (fun b _ h => ownsRow_blk Hown3.out h)))
        clear hown9 hgf hal hgrow9
        repeat (first | (apply sig_q; exact rfl; exact rfl; exact rfl; intro K hK; go_big_quiet_op; go_big_quiet_on) | (apply sig_skip; exact rfl; exact rfl; exact rfl; intro K hK; go_big_quiet_op; go_big_quiet_on))
        refine sig_end ?_
        go_wp2_with fail
        go_roundw
        case rel => exact ⟨j + 1, V ++ [⟨⟨#[]⟩, openT ++ mi, c, r⟩], av', cv', by omega, by simp; omega, by simp, by go_num, by rw [List.length_append, vflat_snoc]; exact HF.out.1, HV', HF.out.2⟩
        case measure => simp [intOf]; omega
    · obtain rfl : j = O.length := by omega
      obtain ⟨a', c', hv, hR, hfresh⟩ := Virs.of_own hown
      cases hv
      have hV := HV.out
      rw [List.take_of_length_le hol2] at hV
      have hs1 := Hf1.out.size
      have H := Lib.hid (And.intro hR (And.intro hfresh (And.intro hV ((Hf1.out.step hf (fun b hb h => by have := Hf1.out.size; unfold From at h; omega))))))
      clear hown HV hf hR hfresh hV
      go_wp2_with fail
      go_ret
      exact ⟨⟨_, _, V, ids, rfl, H.out.1, fun ad e => by have := H.out.2.1 ad e; omega, Hids.out, H.out.2.2.1, hil⟩, H.out.2.2.2⟩

set_option maxRecDepth 100000 in
set_option maxHeartbeats 4000000 in
theorem ref_asks (a : Option Addr) (cap : Nat) (L : List Mem) (ka : Option Addr) (kc : Nat) (K : List ByteArray) (m0 : Int) (w : World) (hl : Mems w a cap L) (hb : MemSmall L) (hk : Strs w ka kc K)
    (hm0 : w.cell? ⟨1, 0, none⟩ = some (.int .i64 m0)) (hw0 : 1 < w.heap.size) :
    Calls Tryz.prog 27 #[.slice a L.length cap, .slice ka K.length kc] w fun e w' => AskRes w L K e w' ∧ Fr No w w' := by
  obtain ⟨i0, hi0, hz0, hz1, hz2⟩ := info_parts infoS
  have hlm := hb.len
  have hids := ids33 L
  have hil : (idsW (goodL L)).length ≤ L.length := Nat.le_trans (idsW_ok _).2.2 (goodL_len L)
  have how := ref_owners a cap L m0 w hl hb hm0 hw0
  have Hb := Lib.hid hb
  clear hb
  go_enter Tryz.func27, Tryz.ntmps27
  go_wp2_with fail
  refine how.mono ?_
  rintro e w1 ⟨⟨oa, oc, O, rfl, hO, hOe⟩, hf1⟩
  have hk1 := hk.no hf1 (fun _ => id)
  have hol : O.length = (idsW (goodL L)).length := by rw [hOe, ownF_len]
  obtain ⟨ids, hide⟩ : ∃ ids, ids = idsW (goodL L) := ⟨_, rfl⟩
  rw [← hide] at hids hil hOe hol
  have hol1 : O.length ≤ ids.length := by omega
  have hol2 : ids.length ≤ O.length := by omega
  have HOe := Lib.hid hOe
  have Hids := Lib.hid hids
  have Hf1 := Lib.hid hf1
  have hom := hO.lenmax
  clear how hf1 hide hids hOe hol hl hk hm0
  go_wp2_with fail
  go_loopw [5, 7] (fun v i wr => ∃ (j : Nat) (V : List ByteArray) (av : Option Addr) (cv : Nat), j ≤ O.length ∧ V.length ≤ j ∧ v = .slice av V.length cv ∧ i = .int .i64 (j : Int) ∧ wr.ownsRow w1.heap.size 9 1 (.slice av V.length cv) V.length (V.map Value.string) ∧ Hid (V = asked (ids.take j) K) ∧ Fr (From w1.heap.size) w1 wr) (fun _ i _ => O.length - (intOf i).toNat)
  case atStart => exact ⟨0, [], none, 0, by omega, by simp, rfl, rfl, World.ownsRow_nil _ _ _ _, by unfold Hid; rfl, Fr.refl _ _⟩
  case round =>
    obtain ⟨j, V, av, cv, hj, hVj, rfl, rfl, hown, HV, hf⟩ := hrel
    have hsr := hf.size
    by_cases hlt : j < O.length
    · have hlt' : (j : Int) < O.length := by omega
      have hOr := hO.keep hf (fun b hb h => by unfold From at h; omega)
      obtain ⟨ob, oo, m, rfl, hmj, hst, ⟨c0, c1, c2, c3, c4, c5, c6⟩, hobl⟩ := hOr.elem hlt
      obtain ⟨h1, h2, h3, h4⟩ := ownF_at Hids.out (by rw [← HOe.out]; exact hmj)
      have Htk : Hid (ids.take (j + 1) = ids.take j ++ [m.i]) := by unfold Hid; rw [List.take_add_one, h1]; rfl
      have hin := ref_in32 ka kc K m.i wr (hk1.keep hf (fun b hb h => by unfold From at h; omega))
      have Hf := Lib.hid hf
      clear h1 h2 h3 h4 hmj hf hst
      obtain ⟨mp, mi, mr, ms, mt, me, ma, ml, mc⟩ := m
      simp only at c0 c1 c2 c3 c4 c5 c6 hin Htk
      have Hown := Lib.hid hown
      clear hown hOr
      go_wp2_with fail
      refine hin.mono ?_
      rintro e w2 ⟨rfl, hf2⟩
      have Hown2 := Lib.hid (ownsRow_at Hown.out hf2 (fun _ _ h => h))
      have Hf2 := Lib.hid (Hf.out.step hf2 (fun _ _ h => h.elim))
      have hsf2 := Hf2.out.size
      have y1 := hf2.cell c1 id
      clear c0 c1 c2 c3 c4 c5 c6 hin hf2
      rcases hkk : hasS K mi with _ | _
      · have HV' : Hid (V ++ [mi] = asked (ids.take (j + 1)) K) := by
          unfold Hid; rw [Htk.out, asked_snoc, hkk, HV.out]; rfl
        clear hkk
        have hal : Fr No w2 (w2.alloc (.cells #[.string mi] 9)) := (Fr.refl _ _).alloc _
        go_wp2_with (at_builtin; refine wpList_append_own _ rfl _ _ 33 rfl w1.heap.size 9 i0 (.string ByteArray.empty) 1 16 Tryz.underlying33 hi0 hz0 hz1 hz2 rfl (by decide) _ _ _ rfl (Hown2.out.alloc _) ⟨w2.heap.size, 0, none⟩ 1 1 [.string mi] rfl rfl (cell_one_new _ _ _) (strs_one [mi]) (by unfold maxLen; omega) (by omega) (by first | omega | (simp; done) | (simp; omega)) ?_; intro v' w9 hown9 hgrow9 _; obtain ⟨av', cv', rfl⟩ := ownsRow_slice hown9)
        have hgf : Fr (fun b => (Value.slice av V.length cv).ownBlock = some b) (w2.alloc (.cells #[.string mi] 9)) w9 := Fr.of_grown hgrow9
        have HF := Lib.hid (And.intro hown9 ((Hf2.out.step hal (fun _ _ h => h.elim)).step hgf (fun b _ h => ownsRow_blk Hown2.out h)))
        clear hown9 hgf hal hgrow9
        go_roundw
        case rel => exact ⟨j + 1, V ++ [mi], av', cv', by omega, by simp; omega, by simp, by go_num, by rw [List.length_append, List.map_append]; exact HF.out.1, HV', HF.out.2⟩
        case measure => simp [intOf]; omega
      · have HV' : Hid (V = asked (ids.take (j + 1)) K) := by
          unfold Hid; rw [Htk.out, asked_snoc, hkk, HV.out]; simp
        clear hkk
        go_wp2_with fail
        go_roundw
        case rel => exact ⟨j + 1, V, av, cv, by omega, by omega, rfl, by go_num, Hown2.out, HV', Hf2.out⟩
        case measure => simp [intOf]; omega
    · obtain rfl : j = O.length := by omega
      obtain ⟨a', c', hv, hR, hfresh⟩ := Strs.of_own hown
      cases hv
      have hV := HV.out
      rw [List.take_of_length_le hol2] at hV
      have hs1 := Hf1.out.size
      have H := Lib.hid (And.intro hR (And.intro hfresh (And.intro hV ((Hf1.out.step hf (fun b hb h => by have := Hf1.out.size; unfold From at h; omega))))))
      clear hown HV hf hR hfresh hV
      go_wp2_with fail
      go_ret
      exact ⟨⟨_, _, V, ids, rfl, H.out.1, fun ad e => by have := H.out.2.1 ad e; omega, Hids.out, H.out.2.2.1, hil⟩, H.out.2.2.2⟩
end Go.Proofs.YtbblkknndaoefaaGreatDoor
namespace Go.Proofs.YtbblkknndaoefaaGreatDoor
open Go.RowKit Go.Maps
set_option linter.unusedVariables false

theorem Strs.all {w : World} {a : Option Addr} {cap : Nat} {l : List ByteArray} (h : Strs w a cap l) :
    (∀ ad, a = some ad → ∀ j u, (l.map Value.string)[j]? = some u → w.cell? (ad.add j) = some u) ∧ (a = none → l.length = 0 ∧ cap = 0) := by
  constructor
  · intro ad e j u hu
    rw [List.getElem?_map] at hu
    rcases hx : l[j]? with _ | x
    · rw [hx] at hu; cases hu
    · rw [hx] at hu
      obtain rfl : Value.string x = u := Option.some.inj hu
      obtain ⟨hsp, _, h3⟩ := h.cell ad e (by intro e; subst e; simp at hx)
      obtain ⟨b, o, sp⟩ := ad
      simp only at hsp h3
      subst hsp
      rw [Addr.add_lit]
      exact h3 j x hx
  · intro e
    obtain ⟨h1, h2⟩ := h.isNil e
    rw [h1]
    exact ⟨rfl, h2⟩

set_option maxRecDepth 100000 in
set_option maxHeartbeats 8000000 in
theorem copens_walk (la : Option Addr) (lc : Nat) (l : List Int) (ra : Option Addr) (rc : Nat) (R : List Mem) (ka : Option Addr) (kc : Nat) (M : List ByteArray) (rd : Int) (w : World) (hl : Ints w la lc l) (hR : Mems w ra rc R) (hin : ∀ m ∈ R, MemIn m) (hM : Strs w ka kc M) (hMin : StrsIn M) (hrd : (Lit.int .i64 rd).wf = true) (hE : Env w) :
    Calls Tryz.prog 4 #[.slice la l.length lc, .slice ra R.length rc, .slice ka M.length kc, .int .i64 rd] w fun e w' => e = .returned (.bool true) ∧ Fr No w w' := by
  obtain ⟨i0, hi0, hz0, hz1, hz2⟩ := info_parts infoM
  obtain ⟨j0, hj0, hy0, hy1, hy2⟩ := info_parts infoS
  have hfew := few33 ra rc R ka kc M w hR hin hM hMin
  have hrm := hR.lenmax
  have hmm := hM.lenmax
  go_enter Tryz.func4, Tryz.ntmps4
  go_wp2_with fail
  refine hfew.mono ?_
  rintro e w1 ⟨⟨b, rfl, hb⟩, hf1⟩
  have hE1 := hE.no hf1
  clear hfew
  cases b with
  | false =>
    go_wp2_with fail
    refine (known33 w1 hE1).mono ?_
    rintro e wf ⟨rfl, hff⟩
    have hfin := hf1.step hff (fun _ _ h => h)
    go_wp2_with fail
    go_ret
    exact ⟨rfl, hfin⟩
  | true =>
    have hok := hb rfl
    have hl1 := hl.no hf1 (fun _ => id)
    have hR1 := hR.no hf1 (fun _ => id)
    have hM1 := hM.no hf1 (fun _ => id)
    have hx : Fr No w1 (w1.alloc (.cells #[.slice la l.length lc, .int .i64 0] 29)) := (Fr.refl _ _).alloc _
    have ht := Tape.make hl1 29
    have hE0 := hE1.no hx
    have hs0 : (w1.alloc (.cells #[.slice la l.length lc, .int .i64 0] 29)).heap.size = w1.heap.size + 1 := by simp
    have hsz := hE1.sz
    obtain ⟨W0, hW0⟩ : ∃ W0, W0 = w1.alloc (.cells #[.slice la l.length lc, .int .i64 0] 29) := ⟨_, rfl⟩
    rw [← hW0] at hx ht hE0 hs0
    have hs0' : w1.heap.size + 1 ≤ W0.heap.size := by omega
    have hlay := made_layers2 w1.heap.size w1.heap.size 0 W0 ht (by omega)
    have Hx := Lib.hid (hf1.step hx (fun _ _ h => h))
    have hxk := hx
    have hs1 := hf1.size
    have HW0 := Lib.hid hW0.symm
    have Hok := Lib.hid hok
    have hrl := hok.n
    have hkl := hok.k
    clear hs0 hx hE hE1 hf1 hl1 hl hR hM ht hok hb hin hMin hW0
    go_wp2_with fail
    rw [HW0.out]
    clear HW0
    refine hlay.mono ?_
    rintro e w2 ⟨⟨L, a1, c1, k1, rfl, hL, hLf, hLm, hLo, hLl, hk1, ht1, hown⟩, hf2⟩
    have hE2 := hE0.fr hf2 (fun b hb h => by unfold Is at h; omega)
    have hfx2 : Fr (From w1.heap.size) w1 w2 := (hxk.mono (fun _ _ h => h.elim)).step hf2 (fun b _ h => by unfold Is at h; unfold From; omega)
    have hR2 := hR1.keep hfx2 (fun b hb h => by unfold From at h; omega)
    have hfw2 : Fr No w w2 := Hx.out.trans hf2 (fun _ _ h => h) (fun b hb h => by unfold Is at h; omega)
    have hup := hR2.upto R.length (Nat.le_refl _)
    rw [List.take_length] at hup
    have hs2 := hf2.size
    clear hlay hL hLf hf2 hE0 hxk
    have Hown := Lib.hid hown
    go_wp2_with (at_builtin; refine wpList_append_src rfl _ _ 23 rfl W0.heap.size 58 i0 (.agg #[.string ByteArray.empty, .string ByteArray.empty, .int .i64 0, .int .i64 0, .int .i64 0, .int .i64 0, .slice none 0 0]) 7 88 Tryz.underlying23 hi0 hz0 hz1 hz2 rfl (by decide) _ _ _ rfl hown _ R.length _ (mflat R) rfl hup.2 (by rw [mflat_len]) hup.1 (mflat_one _) (by unfold maxLen; omega) (by omega) (by first | omega | (simp; done) | (simp; omega)) ?_; intro v3 w3 own3 gr3; obtain ⟨av, cv, rfl⟩ := ownsRow_slice own3)
    have hg3 : Fr (From W0.heap.size) w2 w3 := (Fr.of_grown gr3).mono (fun b _ h => ownsRow_blk Hown.out h)
    have hfx3 : Fr (From w1.heap.size) w1 w3 := hfx2.step hg3 (fun b _ h => by unfold From at *; omega)
    have hR3 := hR1.keep hfx3 (fun b hb h => by unfold From at h; omega)
    have hL3 : MFresh w3 W0.heap.size L := MFresh.own hLm Hown.out (Fr.of_grown gr3)
    have ht3 := ht1.fr hg3 (fun b hb h => by unfold From at h; omega) (fun h => by unfold From at h; omega)
    obtain ⟨Q, hQ⟩ : ∃ Q, Q = L ++ R := ⟨_, rfl⟩
    have hQl : L.length + R.length = Q.length := by rw [hQ, List.length_append]
    have hsmQ : MemSmall Q := by rw [hQ]; exact app_small hLo hLl Hok.out
    have hownQ : w3.ownsRow W0.heap.size 58 7 (.slice av Q.length cv) Q.length (mflat Q) := by rw [← hQl, hQ, mflat_append]; exact own3
    have hfw3 : Fr No w w3 := hfw2.trans hg3 (fun _ _ h => h) (fun b hb h => by unfold From at h; omega)
    have hE3 := hE2.fr hg3 (fun b hb h => by unfold From at h; omega)
    have hs3 := hg3.size
    have hmk := made_keys2 w1.heap.size w1.heap.size k1 w3 ht3 (by omega)
    have HL3 := Lib.hid hL3
    have HR1 := Lib.hid hR1
    have HownQ := Lib.hid hownQ
    have HQ := Lib.hid hQ
    have Hfx3 := Lib.hid hfx3
    clear hg3 hR3 hL3 hownQ own3 gr3 hup hfx2 hR2 hR1 hfw2 hE2 hLm hown Hown hQ ht1 ht3 hfx3
    go_wp2_with fail
    refine hmk.mono ?_
    rintro e w4 ⟨⟨K, a2, c2, k2, rfl, hK, hKf, hKs, hKl, hk2, ht4, hownK⟩, hf4⟩
    have hfx4 : Fr (From w1.heap.size) w1 w4 := Hfx3.out.step hf4 (fun b _ h => by unfold Is at h; unfold From; omega)
    have hM4 := hM1.keep hfx4 (fun b hb h => by unfold From at h; omega)
    have hE4 := hE3.fr hf4 (fun b hb h => by unfold Is at h; omega)
    have hfw4 : Fr No w w4 := hfw3.trans hf4 (fun _ _ h => h) (fun b hb h => by unfold Is at h; omega)
    have hsa := hM4.all
    have hs4 := hf4.size
    have HownK := Lib.hid hownK
    have Hf4 := Lib.hid hf4
    have Hfx4 := Lib.hid hfx4
    clear hmk hK hKf hf4 ht4 hE3 hfw3 hfx4
    go_wp2_with (at_builtin; refine wpList_append_src rfl _ _ 33 rfl w3.heap.size 9 j0 (.string ByteArray.empty) 1 16 Tryz.underlying33 hj0 hy0 hy1 hy2 rfl (by decide) _ _ _ rfl hownK _ M.length _ (M.map Value.string) rfl hsa.2 (by simp) hsa.1 (strs_one _) (by unfold maxLen; omega) (by omega) (by first | omega | (simp; done) | (simp; omega)) ?_; intro v5 w5 own5 gr5; obtain ⟨bv, dv, rfl⟩ := ownsRow_slice own5)
    have hg5 : Fr (From w3.heap.size) w4 w5 := (Fr.of_grown gr5).mono (fun b _ h => ownsRow_blk HownK.out h)
    have hfx5 : Fr (From w1.heap.size) w1 w5 := Hfx4.out.step hg5 (fun b _ h => by unfold From at *; omega)
    have hf35 : Fr (fun b => b = w1.heap.size ∨ w3.heap.size ≤ b) w3 w5 := (Hf4.out.mono (fun b _ h => .inl h)).step hg5 (fun b _ h => .inr h)
    have hR5 := HR1.out.keep hfx5 (fun b hb h => by unfold From at h; omega)
    have hSQ : ∀ m ∈ Q, Strs w5 m.a m.c m.l := fun m hm => by
      rw [HQ.out] at hm
      rcases List.mem_append.1 hm with h | h
      · obtain ⟨h1, h2, h3⟩ := HL3.out m h
        refine h1.fr hf35 (fun ad e _ h => ?_)
        have h4 := h3 ad e
        obtain ⟨cs, hc⟩ := h2 ad e
        have h5 := lt_of_block hc
        omega
      · exact hR5.ok m h
    have hown5 := ownsRow_at HownQ.out hf35 (fun b h e => by
      have h1 := ownsRow_blk HownQ.out h
      have h2 := ownsRow_lt HownQ.out h
      unfold From at h1
      omega)
    obtain ⟨a6, c6, e6, hQ5, _⟩ := Mems.of_own hown5 hSQ
    cases e6
    obtain ⟨T, hT⟩ : ∃ T, T = K ++ M := ⟨_, rfl⟩
    have hTl : K.length + M.length = T.length := by rw [hT, List.length_append]
    have hownT : w5.ownsRow w3.heap.size 9 1 (.slice bv T.length dv) T.length (T.map Value.string) := by rw [← hTl, hT, List.map_append]; exact own5
    obtain ⟨a7, c7, e7, hT5, _⟩ := Strs.of_own hownT
    cases e7
    have hTz : ∀ x ∈ T, x.size ≤ maxLen := fun x hx => by
      rw [hT] at hx
      rcases List.mem_append.1 hx with h | h
      · have := hKs x h; unfold maxLen; omega
      · have := Hok.out.x x h; unfold maxLen; omega
    have hTn : T.length ≤ 1000000 := by omega
    have hfw5 : Fr No w w5 := hfw4.trans hg5 (fun _ _ h => h) (fun b hb h => by unfold From at h; omega)
    have hE5 := hE4.fr hg5 (fun b hb h => by unfold From at h; omega)
    have hs5 := hg5.size
    obtain ⟨m0, hm5⟩ := hE5.len
    clear hg5 hfx5 hf35 hR5 hSQ hown5 hownT own5 gr5 hsa hownK HownK hM4 hfw4 hE4 Hfx4 Hf4 hT hM1 HR1 HL3 HownQ Hfx3
    rw [hTl]
    clear hTl
    clear hQl
    have hop := c_open av cv Q bv dv T rd m0 w5 hQ5 hsmQ hT5 hTn hTz hm5 (by omega)
    go_wp2_with fail
    refine hop.mono ?_
    rintro e w6 ⟨⟨oa, oc, U, ids, rfl, hU, _, hids, hUe, _⟩, hf6⟩
    have HUe := Lib.hid hUe
    have Hids := Lib.hid hids
    have hQ6 := hQ5.no hf6 (fun _ => id)
    have hT6 := hT5.no hf6 (fun _ => id)
    have hm6 := hf6.cell hm5 id
    have hE6 := hE5.no hf6
    have hs6 := hf6.size
    have hfw6 := hfw5.step hf6 (fun _ _ h => h)
    clear hop hf6 hUe hids hQ5 hT5 hm5 hE5 hfw5
    have hrp := ref_open av cv Q bv dv T rd m0 w6 hQ6 hsmQ hT6 hm6 (by omega)
    go_wp2_with fail
    refine hrp.mono ?_
    rintro e w7 ⟨⟨va, vc, V, ids', rfl, hV, _, hids', hVe, _⟩, hf7⟩
    have hUV : U = V := by rw [HUe.out, hVe, Hids.out.unique hids' (fun _ => rfl)]
    subst hUV
    have hU7 := hU.no hf7 (fun _ => id)
    have hQ7 := hQ6.no hf7 (fun _ => id)
    have hT7 := hT6.no hf7 (fun _ => id)
    have hm7 := hf7.cell hm6 id
    have hE7 := hE6.no hf7
    have hs7 := hf7.size
    have hfw7 := hfw6.step hf7 (fun _ _ h => h)
    have hsv := same_virtuals_eq oa va oc vc U w7 hU7 hV
    clear hrp hf7 hVe hids' hQ6 hT6 hm6 hE6 hfw6 hU hU7 hV HUe
    go_wp2_with fail
    refine hsv.mono ?_
    rintro e w8 ⟨rfl, hf8⟩
    have hQ8 := hQ7.no hf8 (fun _ => id)
    have hT8 := hT7.no hf8 (fun _ => id)
    have hm8 := hf8.cell hm7 id
    have hE8 := hE7.no hf8
    have hs8 := hf8.size
    have hfw8 := hfw7.step hf8 (fun _ _ h => h)
    have hak := c_asks av cv Q bv dv T m0 w8 hQ8 hsmQ hT8 hTn hTz hm8 (by omega)
    clear hsv hf8 hQ7 hT7 hm7 hE7 hfw7
    go_wp2_with fail
    refine hak.mono ?_
    rintro e w9 ⟨⟨xa, xc, X, ids2, rfl, hX, _, hids2, hXe, _⟩, hf9⟩
    have HXe := Lib.hid hXe
    have Hids2 := Lib.hid hids2
    have hQ9 := hQ8.no hf9 (fun _ => id)
    have hT9 := hT8.no hf9 (fun _ => id)
    have hm9 := hf9.cell hm8 id
    have hE9 := hE8.no hf9
    have hs9 := hf9.size
    have hfw9 := hfw8.step hf9 (fun _ _ h => h)
    have hra := ref_asks av cv Q bv dv T m0 w9 hQ9 hsmQ hT9 hm9 (by omega)
    clear hak hf9 hXe hids2 hQ8 hT8 hm8 hE8 hfw8
    go_wp2_with fail
    refine hra.mono ?_
    rintro e w10 ⟨⟨ya, yc, Y, ids3, rfl, hY, _, hids3, hYe, _⟩, hf10⟩
    have hXY : X = Y := by rw [HXe.out, hYe, Hids2.out.unique hids3 (fun _ => rfl)]
    subst hXY
    have hX10 := hX.no hf10 (fun _ => id)
    have hE10 := hE9.no hf10
    have hfw10 := hfw9.step hf10 (fun _ _ h => h)
    have hst := same_texts xa ya xc yc X X w10 hX10 hY
    rw [sameT_self] at hst
    clear hra hf10 hYe hids3 hQ9 hT9 hm9 hE9 hfw9 hX hX10 hY HXe
    go_wp2_with fail
    refine hst.mono ?_
    rintro e w11 ⟨rfl, hf11⟩
    have hfw11 := hfw10.step hf11 (fun _ _ h => h)
    have hkn := known33 w11 (hE10.no hf11)
    clear hst hf11
    go_wp2_with fail
    refine hkn.mono ?_
    rintro e wf ⟨rfl, hff⟩
    have hfin := hfw11.step hff (fun _ _ h => h)
    go_wp2_with fail
    go_ret
    exact ⟨rfl, hfin⟩
end Go.Proofs.YtbblkknndaoefaaGreatDoor
namespace Go.Proofs.YtbblkknndaoefaaGreatDoor
open Go.ChangeShapes Go.WideShapes Go.RowKit
set_option linter.unusedVariables false

theorem gES : Tryz.prog.globalNamed "strconv.ErrSyntax" = some 3 := by kernel_rfl
theorem gESType : (Tryz.prog.globals[3]?).map (·.type) = some 167 := by kernel_rfl
theorem gER : Tryz.prog.globalNamed "strconv.ErrRange" = some 4 := by kernel_rfl
theorem gERType : (Tryz.prog.globals[4]?).map (·.type) = some 167 := by kernel_rfl
theorem cellsE : Tryz.prog.cellsOf 267 = 1 := by kernel_rfl
theorem cellsS : Tryz.prog.cellsOf 9 = 1 := by kernel_rfl
theorem starE : "*" ++ "errors.errorString" = "*errors.errorString" := by decide
theorem rowE (u : TypeId) (h : Tryz.prog.typeName? 3 u = some "*errors.errorString") : u = 265 :=
  typeName_ptr_named (nm := "errors.errorString") (by rw [starE]; kernel_rfl) (by kernel_rfl) (by decide) u (by rw [starE]; exact h)
theorem gPow : Tryz.prog.globalNamed "internal/strconv.uint64pow10" = some 0 := by kernel_rfl
theorem gPowType : (Tryz.prog.globals[0]?).map (·.type) = some 212 := by kernel_rfl
theorem gAcc : Tryz.prog.globalNamed "unicode/utf8.acceptRanges" = some 8 := by kernel_rfl
theorem cellsU : Tryz.prog.cellsOf 176 = 1 := by kernel_rfl
theorem cellsP : Tryz.prog.cellsOf 212 = 20 := by kernel_rfl
theorem laid_lt {P : Program} {n : String} {d : DataW Unit} {r : List (String × DataW Unit)} {W : World} {g : Nat} (h : laidMet P ((n, d) :: r) W) (hg : P.globalNamed n = some g) : g < W.heap.size := by
  obtain ⟨ps, ⟨g0, t0, cs0, f0, p0, q0, hg0, ht0, hv0, _⟩, _⟩ := h
  unfold World.var? at hv0
  rw [hg] at hv0
  simp only [Option.bind_some] at hv0
  cases hh : W.heap[g]? with
  | none => simp [hh] at hv0
  | some o => exact (Array.getElem?_eq_some_iff.1 hh).1

theorem env_of {W : World} (hsh : W.ShapedOpen Tryz.prog) (hL : laidMet Tryz.prog Rows.cryptOwnersRow.laid W) : Env W := by
  obtain ⟨m, hm⟩ := cell_of_shapedOpen_int (P := Tryz.prog) (g := 1) (t := 3) (zero := #[.int .i64 0]) hsh (of_decide_eq_true (by kernel_rfl)) (by kernel_rfl) rfl (by kernel_rfl) (by kernel_rfl) Tryz.underlying3
  have hLr := hL.tail.tail.tail.tail
  have hA := laid_lt hL.tail.tail.tail gAcc
  obtain ⟨ar, sr, hvr, -, -, -⟩ := laid_sentinel hLr gER gERType Tryz.underlying167 rowE Tryz.underlying265 Tryz.underlying267 rfl rfl Tryz.underlying9 cellsE cellsS
  obtain ⟨asx, ssx, hvs, -, -, -⟩ := laid_sentinel hLr.tail gES gESType Tryz.underlying167 rowE Tryz.underlying265 Tryz.underlying267 rfl rfl Tryz.underlying9 cellsE cellsS
  have c5 : W.cell? ⟨3, 0, none⟩ = some (.iface 265 (.pointer (some asx))) := by have h0 := World.var?_cell gES hvs 0; simpa using h0
  have c6 : W.cell? ⟨4, 0, none⟩ = some (.iface 265 (.pointer (some ar))) := by have h0 := World.var?_cell gER hvr 0; simpa using h0
  exact ⟨⟨m, hm⟩, ⟨⟨_, c5, .inr ⟨_, _, rfl⟩⟩, ⟨_, c6, .inr ⟨_, _, rfl⟩⟩⟩, Lib.tabIs_of_head gPow gPowType Tryz.underlying212 Tryz.underlying176 cellsU cellsP hL.tail.tail, hA⟩
end Go.Proofs.YtbblkknndaoefaaGreatDoor
namespace Go.Proofs.YtbblkknndaoefaaGreatDoor
open Go
variable {H : Type} {enc : TypeId × Value → H}

/-- As the library's wrap; the contract is told the laid variables, the world's shape and the size bound of the arguments. -/
theorem returns_laid_sized {a : Assume} {C : Checked} {os : Os} {f : FuncId} {fn : Func} {s : ChangeSpec} {conds : List PathCond} {apart fresh handsOn again : Bool} {X : World → Array Value → Prop}
    (hX : ∀ (w w' : World) (args : Array Value), w.heap = w'.heap → X w args → X w' args)
    (own : ownKnob C.prog.godebug = none) (started : os.Started) (noInit : C.prog.inits.idxOf? f = none) (hfn : C.prog.funcs[f]? = some fn)
    (witness : ∃ (w : World) (tape : Go.Tape) (i : Input), w.os = os ∧ (w.forCall tape i).Shaped C.prog ∧ i.vars = [] ∧ Input.okWide C.prog (w.forCall tape i) .any w.heap.size f i ∧
      ((s.pre enc C.prog fn conds apart (w.forCall tape i).memory i.args ∧ X (w.forCall tape i).memory i.args) ∧ sizedMet enc C.prog fn (OpenSpec.ofChange s) apart (w.forCall tape i).memory i.args) ∧ a.holds C.prog (lone (Frame.enter C.prog f i.args .normal) [] (w.forCall tape i)))
    (contract : ∀ (W : World) (base : Nat) (args : Array Value) (ds2 gs2 : List (DataW H)) (before2 : List MemPlace),
      (∀ (j : Nat) t v, fn.params[j]? = some t → args[j]? = some v → Value.okWide C.prog W .any base t v) →
      DataW.Whole enc C.prog fn.params.toList s.vars apart W args.toList ds2 gs2 before2 →
      (DataW.weightsEach C.prog (fn.params.toList ++ (OpenSpec.ofChange s).bare.plain.varTypes C.prog) (ds2 ++ gs2)).all (· ≤ reachBytes) = true →
      X W args → W.ShapedOpen C.prog →
      Calls C.prog f args W fun e W' => ∃ v, e = .returned v ∧ s.post enc C.prog fn apart fresh handsOn again W args v W') :
    ReturnsInHanded a C os f .any (fun w args => (s.pre enc C.prog fn conds apart w args ∧ X w args) ∧ sizedMet enc C.prog fn (OpenSpec.ofChange s) apart w args) (s.post enc C.prog fn apart fresh handsOn again) := by
  refine returnsInHanded_of_calls own started noInit witness ?_
  intro w tape i _ hsh _ hok hpre hholds
  obtain ⟨_, _, _, fn', hfn', _, _, _, _, hval⟩ := hok
  have e : fn' = fn := Option.some.inj (hfn'.symm.trans hfn)
  subst e
  obtain ⟨⟨⟨ds, gs, before, hw, hc⟩, hx⟩, _, ds2, gs2, before2, hw2, hz⟩ := hpre
  have hw2' := DataW.Whole.of_heap (w' := w.forCall tape i) (by rfl) hw2
  refine (contract (w.forCall tape i) w.heap.size i.args ds2 gs2 before2 hval hw2' hz (hX _ _ _ (by rfl) hx) hsh).mono fun e W' ⟨v, he, hp⟩ => ?_
  subst he
  exact ChangeSpec.post_blind hp
end Go.Proofs.YtbblkknndaoefaaGreatDoor
