/- Open. Asks. Contents and their texts. Plain: no program is in sight. -/
import Derived.Test.YtbblkknndaoefaaGreatDoorZC9
import Derived.Test.YtbblkknndaoefaaGreatDoorZC10
import Derived.Lib.AtoiAll
import Derived.Lib.ItoaNum
namespace Go.Proofs.YtbblkknndaoefaaGreatDoor
open Go.RowKit Go.Maps
set_option linter.unusedVariables false

/-- An owner is the best one of its ID. -/
theorem own_at {L O : List Mem} {ids : List ByteArray} (hids : IsIds L ids) (h : O.map Mem.k = own1 L ids) {j : Nat} {m : Mem} (hj : O[j]? = some m) :
    ∃ o, ids[j]? = some m.i ∧ best L (kb m.i) = some o ∧ m.k = o.k ∧ m.l = o.l ∧ m.l.length = 1 ∧ o ∈ L := by
  have h1 : (O.map Mem.k)[j]? = some m.k := by rw [List.getElem?_map, hj]; rfl
  rw [h, own1, List.getElem?_map] at h1
  obtain ⟨x, hx, he⟩ := Option.map_eq_some_iff.1 h1
  obtain ⟨o, ho⟩ := Option.isSome_iff_exists.1 ((hids.mem x).1 (List.mem_of_getElem? hx))
  obtain ⟨h2, h3, h4⟩ := best_mem _ _ _ ho
  rw [ho, Option.getD_some] at he
  have e1 : m.i = o.i := (congrArg Mem.i he).symm
  have e2 : m.l = o.l := (congrArg Mem.l he).symm
  have e3 : m.i = x := by rw [e1]; exact kb_inj h4
  refine ⟨o, by rw [e3]; exact hx, by rw [e3]; exact ho, he.symm, e2, by rw [e2]; exact h3, h2⟩
theorem own_len {L O : List Mem} {ids : List ByteArray} (h : O.map Mem.k = own1 L ids) : O.length = ids.length := by
  have := congrArg List.length h
  simpa [own1] using this
theorem opened_snoc (ids K : List ByteArray) (x : ByteArray) : opened (ids ++ [x]) K = opened ids K ++ (if hasS K x = true then [x] else []) := by
  unfold opened
  rw [List.filter_append]
  congr 1
  rw [List.filter_cons]
  split <;> rfl
theorem asked_snoc (ids K : List ByteArray) (x : ByteArray) : asked (ids ++ [x]) K = asked ids K ++ (if hasS K x = true then [] else [x]) := by
  unfold asked
  rw [List.filter_append]
  congr 1
  rw [List.filter_cons]
  cases hasS K x <;> rfl
theorem opened_le (ids K : List ByteArray) : (opened ids K).length ≤ ids.length := List.length_filter_le _ _
theorem asked_le (ids K : List ByteArray) : (asked ids K).length ≤ ids.length := List.length_filter_le _ _

/-- What Open answers. -/
def OpenRes (w : World) (L : List Mem) (K : List ByteArray) (r : Int) (e : Ending) (w' : World) : Prop :=
  ∃ (a' : Option Addr) (c' : Nat) (V : List Vir) (ids : List ByteArray), e = .returned (.slice a' V.length c') ∧ Virs w' a' c' V ∧ (∀ ad, a' = some ad → w.heap.size ≤ ad.block) ∧ IsIds L ids ∧ V = (opened ids K).map (virOf L r) ∧ ids.length ≤ L.length

set_option maxRecDepth 100000 in
set_option maxHeartbeats 8000000 in
theorem c_open (a : Option Addr) (cap : Nat) (L : List Mem) (ka : Option Addr) (kc : Nat) (K : List ByteArray) (r : Int) (m0 : Int) (w : World) (hl : Mems w a cap L) (hb : MemSmall L) (hk : Strs w ka kc K) (hkl : K.length ≤ 1000000) (hks : ∀ x ∈ K, x.size ≤ maxLen)
    (hm0 : w.cell? ⟨1, 0, none⟩ = some (.int .i64 m0)) (hw0 : 1 < w.heap.size) :
    Calls Tryz.prog 23 #[.slice a L.length cap, .slice ka K.length kc, .int .i64 r] w fun e w' => OpenRes w L K r e w' ∧ Fr No w w' := by
  obtain ⟨i0, hi0, hz0, hz1, hz2⟩ := info_parts infoV
  have hlm := hb.len
  have Hb := Lib.hid hb
  clear hb
  go_enter Tryz.func23, Tryz.ntmps23
  go_wp2_with fail
  refine (key_set ka kc K w hk hkl hks).mono ?_
  rintro e w1 ⟨⟨mb, rfl, hK1, hmb⟩, hf1⟩
  have hl1 := hl.no hf1 (fun _ => id)
  have hm1 := hf1.cell hm0 id
  have hs1 := hf1.size
  have Hf1 := Lib.hid hf1
  have hmb1 : mb < w1.heap.size := VMap.lt hK1
  clear hk hks hl hm0 hf1
  go_wp2_with fail
  refine (c_owners a cap L m0 w1 hl1 Hb.out hm1 (by omega)).mono ?_
  rintro e w2 ⟨⟨oa, oc, O, ids, rfl, hO, hOf, hOm, hids, ho, hil⟩, hf2⟩
  have hol := own_len ho
  have hs2 := hf2.size
  have hK2 := hK1.fr hf2 id
  have Hf2 := Lib.hid (Hf1.out.step hf2 (fun _ _ h => h))
  have Hids := Lib.hid hids
  have Ho := Lib.hid ho
  have HOm := Lib.hid hOm
  have hom := hO.lenmax
  clear hl1 hm1 hf2 hK1 hids ho hOm hOf
  go_wp2_with fail
  go_loopw [8, 18] (fun v i wr => ∃ (j : Nat) (V : List Vir) (av : Option Addr) (cv : Nat), j ≤ O.length ∧ V.length ≤ j ∧ v = .slice av V.length cv ∧ i = .int .i64 (j : Int) ∧ wr.ownsRow w2.heap.size 64 4 (.slice av V.length cv) V.length (vflat V) ∧ Hid (V = (opened (ids.take j) K).map (virOf L r)) ∧ Fr (From w2.heap.size) w2 wr) (fun _ i _ => O.length - (intOf i).toNat)
  case atStart => exact ⟨0, [], none, 0, by omega, by simp, rfl, rfl, World.ownsRow_nil _ _ _ _, by unfold Hid; simp [opened], Fr.refl _ _⟩
  case round =>
    obtain ⟨j, V, av, cv, hj, hVj, rfl, rfl, hown, HV, hf⟩ := hrel
    have hsr := hf.size
    by_cases hlt : j < O.length
    · have hlt' : (j : Int) < O.length := by omega
      obtain ⟨b, off, m, rfl, hxj, hst, hat, hbl⟩ := (hO.keep hf (fun b hb h => by unfold From at h; omega)).elem hlt
      obtain ⟨o, hid, hbo, hmk, hml, hm1, hoL⟩ := own_at Hids.out Ho.out hxj
      have hib : ∀ ad, m.a = some ad → ad.block < w2.heap.size := fun ad e => ((hO.ok m (List.mem_of_getElem? hxj)).cell ad e (by intro e; rw [e] at hm1; cases hm1)).2.1
      have him : m.i.size ≤ 1000000 := by have h1 := Hb.out.i o hoL; have h2 := congrArg Mem.i hmk; have h3 : m.i = o.i := h2; rw [h3]; exact h1
      have hix : m.i.size ≤ maxLen := by unfold maxLen; omega
      have Htj : Hid (ids.take (j + 1) = ids.take j ++ [m.i]) := by unfold Hid; rw [List.take_add_one, hid]; rfl
      have hK3 := hK2.fr hf (by unfold From; omega)
      have hst0 := hst.at (k := 0) (by omega)
      have Hin : Hid (∀ c, m.l[0]? = some c → virOf L r m.i = ⟨⟨#[]⟩, openT ++ m.i, c, r⟩) := fun c hc => by
        unfold virOf inner0
        rw [hbo, Option.getD_some, ← hml]
        congr 1
        rcases hll : m.l with _ | ⟨d, t⟩
        · rw [hll] at hc; cases hc
        · rw [hll] at hc; simpa using hc
      have hml1 : (0 : Int) < m.l.length := by omega
      clear hxj hid hbo hmk hml hoL hst
      obtain ⟨mp, mi, mr, ms, mt, me, ma, ml, mc⟩ := m
      obtain ⟨c0, c1, c2, c3, c4, c5, c6⟩ := hat
      simp only at c0 c1 c2 c3 c4 c5 c6 him hix hst0 hml1 hm1 hib
      obtain ⟨ib, io, c, rfl, hc, hcc⟩ := hst0
      rw [Nat.add_zero] at hcc
      have hibl := hib _ rfl
      simp only at hibl
      clear hib
      have Hc := Lib.hid (Hin.out c hc)
      have Hm1 := Lib.hid hm1
      clear hc Hin hm1
      simp only at Hc Htj
      have hx1 : Fr No wr (wr.alloc (.cells #[.string mp, .string mi, .int .i64 mr, .int .i64 ms, .int .i64 mt, .int .i64 me, .slice (some ⟨ib, io, none⟩) ml.length mc] 58)) := (Fr.refl _ _).alloc _
      have hKx := hK3.fr hx1 id
      unfold KSet at hKx
      have hv : ((fun x => if hasS K (bk x) = true then some (Value.agg #[]) else none) (kb mi)).getD (.agg #[]) = .agg #[] := by
        simp only [bk_kb]; cases hasS K mi <;> rfl
      rcases hh : hasS K mi with _ | _
      · have hbo : ((fun x => if hasS K (bk x) = true then some (Value.agg #[]) else none) (kb mi)).isSome = false := by simp only [bk_kb, hh]; rfl
        have hx2 : Fr No wr ((wr.alloc (.cells #[.string mp, .string mi, .int .i64 mr, .int .i64 ms, .int .i64 mt, .int .i64 me, .slice (some ⟨ib, io, none⟩) ml.length mc] 58)).alloc (.cells #[] 106)) := hx1.alloc _
        have hown2 := ownsRow_at hown hx2 (fun _ _ h => h)
        have HV2 : Hid (V = (opened (ids.take (j + 1)) K).map (virOf L r)) := by unfold Hid; rw [Htj.out, opened_snoc, hh]; simpa using HV.out
        have HF := Lib.hid (And.intro hown2 (hf.step hx2 (fun _ _ h => h.elim)))
        clear hown2 hown hx2 hx1 hf hh HV
        go_wp2_with (at_lookup; refine wp_vmap_ok rfl _ _ 104 106 (.agg #[]) (zeroE _) rfl Tryz.underlying104 mb _ _ mi hix rfl hKx rfl (.agg #[]) hv false hbo ?_)
        go_roundw
        case rel => exact ⟨j + 1, V, av, cv, by omega, by omega, rfl, by go_num, HF.out.1, HV2, HF.out.2⟩
        case measure => simp [intOf]; omega
      · have hbo : ((fun x => if hasS K (bk x) = true then some (Value.agg #[]) else none) (kb mi)).isSome = true := by simp only [bk_kb, hh]; rfl
        have hx2 : Fr No wr ((wr.alloc (.cells #[.string mp, .string mi, .int .i64 mr, .int .i64 ms, .int .i64 mt, .int .i64 me, .slice (some ⟨ib, io, none⟩) ml.length mc] 58)).alloc (.cells #[] 106)) := hx1.alloc _
        have q1 := block_alloc1 wr (.cells #[.string mp, .string mi, .int .i64 mr, .int .i64 ms, .int .i64 mt, .int .i64 me, .slice (some ⟨ib, io, none⟩) ml.length mc] 58) (.cells #[] 106)
        have hown2 := ownsRow_at hown hx2 (fun _ _ h => h)
        have HV2 : Hid ((opened (ids.take (j + 1)) K).map (virOf L r) = V ++ [⟨⟨#[]⟩, openT ++ mi, c, r⟩]) := by unfold Hid; rw [Htj.out, opened_snoc, hh, if_pos rfl, List.map_append, ← HV.out, List.map_cons, List.map_nil, Hc.out]
        go_upto_region 8 with (at_lookup; refine wp_vmap_ok rfl _ _ 104 106 (.agg #[]) (zeroE _) rfl Tryz.underlying104 mb _ _ mi hix rfl hKx rfl (.agg #[]) hv true hbo ?_)
        have hcx := hx2.cell hcc id
        have hsx := hx2.size
        have hfx := hf.step hx2 (fun _ _ h => h.elim)
        have nO : ¬ (Value.slice av V.length cv).ownBlock = some wr.heap.size := fun h => by have := ownsRow_lt hown h; omega
        have nI : ¬ (Value.slice av V.length cv).ownBlock = some ib := fun h => by have := ownsRow_blk hown h; unfold From at this; omega
        clear hx2 hx1 hown hcc hf hKx hv hbo c0 c1 c2 c3 c4 c5 c6
        generalize (wr.alloc (.cells #[.string mp, .string mi, .int .i64 mr, .int .i64 ms, .int .i64 mt, .int .i64 me, .slice (some ⟨ib, io, none⟩) ml.length mc] 58)).alloc (.cells #[] 106) = W5 at *
        refine region_sig (fun b => (Value.slice av V.length cv).ownBlock = some b) [(0, false), (1, false), (2, false), (3, false), (4, false), (5, false), (6, false), (7, false), (8, false), (9, false), (10, true), (11, true), (12, false)] (by kernel_rfl) (by kernel_rfl) (fun w0 hf0 => ?_)
        have g1 : ∀ g : Gr (fun b => (Value.slice av V.length cv).ownBlock = some b) w0, g.W.cell? ⟨wr.heap.size, 1, none⟩ = some (.string mi) := fun g => g.fr.cell (hf0.cell (cell_of_block q1 1) id) nO
        have g6 : ∀ g : Gr (fun b => (Value.slice av V.length cv).ownBlock = some b) w0, g.W.cell? ⟨wr.heap.size, 6, none⟩ = some (.slice (some ⟨ib, io, none⟩) ml.length mc) := fun g => g.fr.cell (hf0.cell (cell_of_block q1 6) id) nO
        have gc : ∀ g : Gr (fun b => (Value.slice av V.length cv).ownBlock = some b) w0, g.W.cell? ⟨ib, io, none⟩ = some (.string c) := fun g => g.fr.cell (hf0.cell hcx id) nI
        have hown3 := ownsRow_at hown2 hf0 (fun _ _ h => h)
        have hz : ¬ 9223372036854775807 < 5 + mi.size := by omega
        have hs0 := hf0.size
        have Hfx := Lib.hid (hfx.step hf0 (fun _ _ h => h.elim))
        have Hown3 := Lib.hid hown3
        have HV0 := Lib.hid HV
        clear hown2 hf0 hfx q1 hcx nO nI HV hown3
        repeat (apply sig_q; exact rfl; exact rfl; exact rfl; intro K hK; go_big_quiet_op; go_big_quiet_on)
        clear g1 g6 gc
        apply sig_m
        exact rfl
        go_wp2_with fail
        refine OnlyN.mk ⟨(Fr.refl _ _).alloc _, ?_⟩
        apply sig_m
        exact rfl
        go_wp2_with (at_builtin; refine wpList_append_own _ rfl _ _ 36 rfl w2.heap.size 64 i0 (.agg #[.string ByteArray.empty, .string ByteArray.empty, .string ByteArray.empty, .int .i64 0]) 4 56 Tryz.underlying36 hi0 hz0 hz1 hz2 rfl (by decide) _ _ _ rfl (Hown3.out.alloc _) ⟨w0.heap.size, 0, none⟩ 1 1 (Vir.vals ⟨⟨#[]⟩, openT ++ mi, c, r⟩).toList rfl rfl (cells_new _ (Vir.vals ⟨⟨#[]⟩, openT ++ mi, c, r⟩) _ rfl) (vvals_one _) (by unfold maxLen; omega) (by omega) (by first | omega | (simp; done) | (simp; omega)) ?_; intro v' w6 hown6 hgrow6 _; obtain ⟨av', cv', rfl⟩ := ownsRow_slice hown6)
        have hgf : Fr (fun b => (Value.slice av V.length cv).ownBlock = some b) (w0.alloc (.cells (Vir.vals ⟨⟨#[]⟩, openT ++ mi, c, r⟩) 64)) w6 := Fr.of_grown hgrow6
        have hal : Fr No w0 (w0.alloc (.cells (Vir.vals ⟨⟨#[]⟩, openT ++ mi, c, r⟩) 64)) := (Fr.refl _ _).alloc _
        refine OnlyN.mk ⟨hgf, ?_⟩
        have HF := Lib.hid (And.intro hown6 ((Hfx.out.step hal (fun _ _ h => h.elim)).step hgf (fun b _ h => ownsRow_blk Hown3.out h)))
        clear hown6 hgf hal hgrow6
        repeat (apply sig_q; exact rfl; exact rfl; exact rfl; intro K hK; go_big_quiet_op; go_big_quiet_on)
        refine sig_end ?_
        go_wp2_with fail
        go_roundw
        case rel => exact ⟨j + 1, V ++ [⟨⟨#[]⟩, openT ++ mi, c, r⟩], av', cv', by omega, by simp; omega, by simp, by go_num, by rw [List.length_append, vflat_snoc]; exact HF.out.1, Lib.hid HV2.out.symm, HF.out.2⟩
        case measure => simp [intOf]; omega
    · obtain rfl : j = O.length := by omega
      obtain ⟨a', c', hv, hR, hfresh⟩ := Virs.of_own hown
      cases hv
      have hV := HV.out
      rw [hol, List.take_length] at hV
      have H := Lib.hid (And.intro hR (And.intro hfresh (And.intro hV ((Hf2.out.step hf (fun b hb h => by have := Hf2.out.size; unfold From at h; omega))))))
      clear hown HV hf hR hfresh hV
      go_wp2_with fail
      go_ret
      exact ⟨⟨_, _, V, ids, rfl, H.out.1, fun ad e => by have := H.out.2.1 ad e; omega, Hids.out, H.out.2.2.1, hil⟩, H.out.2.2.2⟩
end Go.Proofs.YtbblkknndaoefaaGreatDoor
namespace Go.Proofs.YtbblkknndaoefaaGreatDoor
open Go.RowKit Go.Maps
set_option linter.unusedVariables false

/-- What Asks answers. -/
def AskRes (w : World) (L : List Mem) (K : List ByteArray) (e : Ending) (w' : World) : Prop :=
  ∃ (a' : Option Addr) (c' : Nat) (V : List ByteArray) (ids : List ByteArray), e = .returned (.slice a' V.length c') ∧ Strs w' a' c' V ∧ (∀ ad, a' = some ad → w.heap.size ≤ ad.block) ∧ IsIds L ids ∧ V = asked ids K ∧ ids.length ≤ L.length

set_option maxRecDepth 100000 in
set_option maxHeartbeats 8000000 in
theorem c_asks (a : Option Addr) (cap : Nat) (L : List Mem) (ka : Option Addr) (kc : Nat) (K : List ByteArray) (m0 : Int) (w : World) (hl : Mems w a cap L) (hb : MemSmall L) (hk : Strs w ka kc K) (hkl : K.length ≤ 1000000) (hks : ∀ x ∈ K, x.size ≤ maxLen)
    (hm0 : w.cell? ⟨1, 0, none⟩ = some (.int .i64 m0)) (hw0 : 1 < w.heap.size) :
    Calls Tryz.prog 26 #[.slice a L.length cap, .slice ka K.length kc] w fun e w' => AskRes w L K e w' ∧ Fr No w w' := by
  obtain ⟨i0, hi0, hz0, hz1, hz2⟩ := info_parts infoS
  have hlm := hb.len
  have Hb := Lib.hid hb
  clear hb
  go_enter Tryz.func26, Tryz.ntmps26
  go_wp2_with fail
  refine (key_set ka kc K w hk hkl hks).mono ?_
  rintro e w1 ⟨⟨mb, rfl, hK1, hmb⟩, hf1⟩
  have hl1 := hl.no hf1 (fun _ => id)
  have hm1 := hf1.cell hm0 id
  have hs1 := hf1.size
  have Hf1 := Lib.hid hf1
  have hmb1 : mb < w1.heap.size := VMap.lt hK1
  clear hk hks hl hm0 hf1
  go_wp2_with fail
  refine (c_owners a cap L m0 w1 hl1 Hb.out hm1 (by omega)).mono ?_
  rintro e w2 ⟨⟨oa, oc, O, ids, rfl, hO, hOf, hOm, hids, ho, hil⟩, hf2⟩
  have hol := own_len ho
  have hs2 := hf2.size
  have hK2 := hK1.fr hf2 id
  have Hf2 := Lib.hid (Hf1.out.step hf2 (fun _ _ h => h))
  have Hids := Lib.hid hids
  have Ho := Lib.hid ho
  have HOm := Lib.hid hOm
  have hom := hO.lenmax
  clear hl1 hm1 hf2 hK1 hids ho hOm hOf
  go_wp2_with fail
  go_loopw [6, 16] (fun v i wr => ∃ (j : Nat) (V : List ByteArray) (av : Option Addr) (cv : Nat), j ≤ O.length ∧ V.length ≤ j ∧ v = .slice av V.length cv ∧ i = .int .i64 (j : Int) ∧ wr.ownsRow w2.heap.size 9 1 (.slice av V.length cv) V.length (V.map Value.string) ∧ Hid (V = asked (ids.take j) K) ∧ Fr (From w2.heap.size) w2 wr) (fun _ i _ => O.length - (intOf i).toNat)
  case atStart => exact ⟨0, [], none, 0, by omega, by simp, rfl, rfl, World.ownsRow_nil _ _ _ _, by unfold Hid; simp [asked], Fr.refl _ _⟩
  case round =>
    obtain ⟨j, V, av, cv, hj, hVj, rfl, rfl, hown, HV, hf⟩ := hrel
    have hsr := hf.size
    by_cases hlt : j < O.length
    · have hlt' : (j : Int) < O.length := by omega
      obtain ⟨b, off, m, rfl, hxj, hst, hat, hbl⟩ := (hO.keep hf (fun b hb h => by unfold From at h; omega)).elem hlt
      obtain ⟨o, hid, hbo, hmk, hml, hm1, hoL⟩ := own_at Hids.out Ho.out hxj
      have him : m.i.size ≤ 1000000 := by have h1 := Hb.out.i o hoL; have h2 := congrArg Mem.i hmk; have h3 : m.i = o.i := h2; rw [h3]; exact h1
      have hix : m.i.size ≤ maxLen := by unfold maxLen; omega
      have Htj : Hid (ids.take (j + 1) = ids.take j ++ [m.i]) := by unfold Hid; rw [List.take_add_one, hid]; rfl
      have hK3 := hK2.fr hf (by unfold From; omega)
      clear hxj hid hbo hmk hml hoL hst hm1
      obtain ⟨mp, mi, mr, ms, mt, me, ma, ml, mc⟩ := m
      obtain ⟨c0, c1, c2, c3, c4, c5, c6⟩ := hat
      simp only at c0 c1 c2 c3 c4 c5 c6 him hix
      simp only at Htj
      have hx1 : Fr No wr (wr.alloc (.cells #[.string mp, .string mi, .int .i64 mr, .int .i64 ms, .int .i64 mt, .int .i64 me, .slice ma ml.length mc] 58)) := (Fr.refl _ _).alloc _
      have hKx := hK3.fr hx1 id
      unfold KSet at hKx
      have hv : ((fun x => if hasS K (bk x) = true then some (Value.agg #[]) else none) (kb mi)).getD (.agg #[]) = .agg #[] := by
        simp only [bk_kb]; cases hasS K mi <;> rfl
      rcases hh' : (!hasS K mi) with _ | _
      · have hh : hasS K mi = true := by simpa using hh'
        clear hh'
        have hbo : ((fun x => if hasS K (bk x) = true then some (Value.agg #[]) else none) (kb mi)).isSome = true := by simp only [bk_kb, hh]; rfl
        have hx2 : Fr No wr ((wr.alloc (.cells #[.string mp, .string mi, .int .i64 mr, .int .i64 ms, .int .i64 mt, .int .i64 me, .slice ma ml.length mc] 58)).alloc (.cells #[] 106)) := hx1.alloc _
        have hown2 := ownsRow_at hown hx2 (fun _ _ h => h)
        have HV2 : Hid (V = asked (ids.take (j + 1)) K) := by unfold Hid; rw [Htj.out, asked_snoc, hh]; simpa using HV.out
        have HF := Lib.hid (And.intro hown2 (hf.step hx2 (fun _ _ h => h.elim)))
        clear hown2 hown hx2 hx1 hf hh HV
        go_wp2_with (at_lookup; refine wp_vmap_ok rfl _ _ 104 106 (.agg #[]) (zeroE _) rfl Tryz.underlying104 mb _ _ mi hix rfl hKx rfl (.agg #[]) hv true hbo ?_)
        go_roundw
        case rel => exact ⟨j + 1, V, av, cv, by omega, by omega, rfl, by go_num, HF.out.1, HV2, HF.out.2⟩
        case measure => simp [intOf]; omega
      · have hh : hasS K mi = false := by simpa using hh'
        clear hh'
        have hbo : ((fun x => if hasS K (bk x) = true then some (Value.agg #[]) else none) (kb mi)).isSome = false := by simp only [bk_kb, hh]; rfl
        have hx2 : Fr No wr ((wr.alloc (.cells #[.string mp, .string mi, .int .i64 mr, .int .i64 ms, .int .i64 mt, .int .i64 me, .slice ma ml.length mc] 58)).alloc (.cells #[] 106)) := hx1.alloc _
        have q1 := block_alloc1 wr (.cells #[.string mp, .string mi, .int .i64 mr, .int .i64 ms, .int .i64 mt, .int .i64 me, .slice ma ml.length mc] 58) (.cells #[] 106)
        have hown2 := ownsRow_at hown hx2 (fun _ _ h => h)
        have HV2 : Hid (asked (ids.take (j + 1)) K = V ++ [mi]) := by unfold Hid; rw [Htj.out, asked_snoc, hh, ← HV.out]; rfl
        go_upto_region 8 with (at_lookup; refine wp_vmap_ok rfl _ _ 104 106 (.agg #[]) (zeroE _) rfl Tryz.underlying104 mb _ _ mi hix rfl hKx rfl (.agg #[]) hv false hbo ?_)
        have hsx := hx2.size
        have hfx := hf.step hx2 (fun _ _ h => h.elim)
        clear hx2 hx1 hown hf hKx hv hbo c0 c1 c2 c3 c4 c5 c6
        generalize (wr.alloc (.cells #[.string mp, .string mi, .int .i64 mr, .int .i64 ms, .int .i64 mt, .int .i64 me, .slice ma ml.length mc] 58)).alloc (.cells #[] 106) = W5 at *
        have y1 : W5.cell? ⟨wr.heap.size, 1, none⟩ = some (.string mi) := cell_of_block q1 1
        have Hfx := Lib.hid hfx
        have Hown3 := Lib.hid hown2
        have HV0 := Lib.hid HV
        have hs0 := hsx
        clear hown2 hfx q1 HV
        go_wp2_with (at_builtin; refine wpList_append_own _ rfl _ _ 33 rfl w2.heap.size 9 i0 (.string ByteArray.empty) 1 16 Tryz.underlying33 hi0 hz0 hz1 hz2 rfl (by decide) _ _ _ rfl (Hown3.out.alloc _) ⟨W5.heap.size, 0, none⟩ 1 1 [.string mi] rfl rfl (cell_one_new _ _ _) (strs_one [mi]) (by unfold maxLen; omega) (by omega) (by first | omega | (simp; done) | (simp; omega)) ?_; intro v' w6 hown6 hgrow6 _; obtain ⟨av', cv', rfl⟩ := ownsRow_slice hown6)
        have hgf : Fr (fun b => (Value.slice av V.length cv).ownBlock = some b) (W5.alloc (.cells #[.string mi] 9)) w6 := Fr.of_grown hgrow6
        have hal : Fr No W5 (W5.alloc (.cells #[.string mi] 9)) := (Fr.refl _ _).alloc _
        have HF := Lib.hid (And.intro hown6 ((Hfx.out.step hal (fun _ _ h => h.elim)).step hgf (fun b _ h => ownsRow_blk Hown3.out h)))
        clear hown6 hgf hal hgrow6
        go_roundw
        case rel => exact ⟨j + 1, V ++ [mi], av', cv', by omega, by simp; omega, by simp, by go_num, by rw [List.length_append, List.map_append]; exact HF.out.1, Lib.hid HV2.out.symm, HF.out.2⟩
        case measure => simp [intOf]; omega
    · obtain rfl : j = O.length := by omega
      obtain ⟨a', c', hv, hR, hfresh⟩ := Strs.of_own hown
      cases hv
      have hV := HV.out
      rw [hol, List.take_length] at hV
      have H := Lib.hid (And.intro hR (And.intro hfresh (And.intro hV ((Hf2.out.step hf (fun b hb h => by have := Hf2.out.size; unfold From at h; omega))))))
      clear hown HV hf hR hfresh hV
      go_wp2_with fail
      go_ret
      exact ⟨⟨_, _, V, ids, rfl, H.out.1, fun ad e => by have := H.out.2.1 ad e; omega, Hids.out, H.out.2.2.1, hil⟩, H.out.2.2.2⟩
end Go.Proofs.YtbblkknndaoefaaGreatDoor
namespace Go.Proofs.YtbblkknndaoefaaGreatDoor
open Go
set_option linter.unusedVariables false

/-- A content. -/
inductive Ct where
  | mk (kind : Int) (id label : ByteArray) (slot total least : Int) (inner : List Ct)
namespace Ct
def kind : Ct → Int | .mk k _ _ _ _ _ _ => k
def id : Ct → ByteArray | .mk _ i _ _ _ _ _ => i
def label : Ct → ByteArray | .mk _ _ l _ _ _ _ => l
def slot : Ct → Int | .mk _ _ _ s _ _ _ => s
def total : Ct → Int | .mk _ _ _ _ t _ _ => t
def least : Ct → Int | .mk _ _ _ _ _ e _ => e
def inner : Ct → List Ct | .mk _ _ _ _ _ _ n => n
def zero : Ct := .mk 0 ⟨#[]⟩ ⟨#[]⟩ 0 0 0 []
end Ct

/-- Texts with a comma between them. -/
def commas : List (List UInt8) → List UInt8
  | [] => []
  | [x] => x
  | x :: y :: t => x ++ 44 :: commas (y :: t)
/-- The bytes of a text. -/
abbrev bl (s : ByteArray) : List UInt8 := s.data.toList
def headText (k : Int) (i l : ByteArray) (s t e : Int) : List UInt8 :=
  if k = 1 then [102, 115, 58] ++ bl i ++ [58] ++ bl l
  else if k = 2 then [114, 97, 105, 100, 58] ++ bl i ++ [58] ++ Lib.itoa s ++ [47] ++ Lib.itoa t ++ [47] ++ Lib.itoa e
  else if k = 3 then [99, 114, 121, 112, 116, 58] ++ bl i
  else if k = 4 then [112, 118, 58] ++ bl i ++ [58] ++ Lib.itoa s ++ [47] ++ Lib.itoa t
  else if k = 5 then [116, 97, 98, 108, 101, 58] ++ bl i
  else []
def hasIn (k : Int) : Bool := decide (k = 2) || decide (k = 3) || decide (k = 4) || decide (k = 5)
mutual
/-- The text of a content. -/
def Ct.text : Ct → List UInt8
  | .mk k i l s t e n => headText k i l s t e ++ if hasIn k = true then 40 :: commas (Ct.texts n) ++ [41] else []
def Ct.texts : List Ct → List (List UInt8)
  | [] => []
  | c :: t => c.text :: Ct.texts t
end
theorem texts_map : ∀ l : List Ct, Ct.texts l = l.map Ct.text
  | [] => rfl
  | c :: t => by rw [Ct.texts, texts_map t]; rfl
section
variable (i l : ByteArray) (s t e : Int) (n : List Ct)
theorem text0 : (Ct.mk 0 i l s t e n).text = [] := by rw [Ct.text]; rfl
theorem text1 : (Ct.mk 1 i l s t e n).text = [102, 115] ++ 58 :: (bl i ++ 58 :: bl l) := by rw [Ct.text]; simp [headText, hasIn]
theorem text2 : (Ct.mk 2 i l s t e n).text = [114, 97, 105, 100] ++ 58 :: (bl i ++ 58 :: (Lib.itoa s ++ 47 :: (Lib.itoa t ++ 47 :: (Lib.itoa e ++ 40 :: (commas (n.map Ct.text) ++ [41]))))) := by rw [Ct.text, texts_map]; simp [headText, hasIn]
theorem text3 : (Ct.mk 3 i l s t e n).text = [99, 114, 121, 112, 116] ++ 58 :: (bl i ++ 40 :: (commas (n.map Ct.text) ++ [41])) := by rw [Ct.text, texts_map]; simp [headText, hasIn]
theorem text4 : (Ct.mk 4 i l s t e n).text = [112, 118] ++ 58 :: (bl i ++ 58 :: (Lib.itoa s ++ 47 :: (Lib.itoa t ++ 40 :: (commas (n.map Ct.text) ++ [41])))) := by rw [Ct.text, texts_map]; simp [headText, hasIn]
theorem text5 : (Ct.mk 5 i l s t e n).text = [116, 97, 98, 108, 101] ++ 58 :: (bl i ++ 40 :: (commas (n.map Ct.text) ++ [41])) := by rw [Ct.text, texts_map]; simp [headText, hasIn]
end

def idByte (b : UInt8) : Bool := (decide (65 ≤ b) && decide (b ≤ 90)) || (decide (97 ≤ b) && decide (b ≤ 122)) || (decide (48 ≤ b) && decide (b ≤ 57)) || decide (b = 95) || decide (b = 46) || decide (b = 45)
/-- An ID. -/
def isId (s : ByteArray) : Bool := !(bl s).isEmpty && decide ((bl s).length ≤ 16) && (bl s).all idByte
def noNum (s t e : Int) : Bool := decide (s = 0) && decide (t = 0) && decide (e = 0)
def slotsOk (s t : Int) : Bool := decide (1 ≤ t) && decide (t ≤ 16) && decide (1 ≤ s) && decide (s ≤ t)
def someIn (n : List Ct) : Bool := decide (1 ≤ n.length) && decide (n.length ≤ 16)
/-- A content has the fields of its kind. -/
def alike : Ct → Bool
  | .mk k i l s t e n =>
    if k = 0 then (bl i).isEmpty && (bl l).isEmpty && noNum s t e && n.isEmpty
    else if k = 1 then isId i && ((bl l).isEmpty || isId l) && noNum s t e && n.isEmpty
    else if k = 2 then isId i && (bl l).isEmpty && slotsOk s t && decide (1 ≤ e) && decide (e ≤ t) && decide (n.length = 1)
    else if k = 3 then isId i && (bl l).isEmpty && noNum s t e && decide (n.length = 1)
    else if k = 4 then isId i && (bl l).isEmpty && slotsOk s t && decide (e = 0) && someIn n
    else if k = 5 then isId i && (bl l).isEmpty && noNum s t e && someIn n
    else false
mutual
/-- All contents in it have the fields of their kinds. -/
def Ct.good : Ct → Bool
  | .mk k i l s t e n => alike (.mk k i l s t e n) && Ct.goods n
def Ct.goods : List Ct → Bool
  | [] => true
  | c :: t => c.good && Ct.goods t
end
mutual
def Ct.depth : Ct → Nat
  | .mk k _ _ _ _ _ n => if k = 0 then Ct.depths n else Ct.depths n + 1
def Ct.depths : List Ct → Nat
  | [] => 0
  | c :: t => max c.depth (Ct.depths t)
end
/-- A valid content. -/
def Ct.valid (c : Ct) : Bool := decide (c.depth ≤ 6) && c.good

/-! ### The program's parser -/
def upto (ends r : List UInt8) : List UInt8 := r.takeWhile fun b => !ends.contains b
def past (ends r : List UInt8) : List UInt8 := r.dropWhile fun b => !ends.contains b
theorem upto_past (ends r : List UInt8) : upto ends r ++ past ends r = r := List.takeWhile_append_dropWhile
def skip1 (b : UInt8) : List UInt8 → Option (List UInt8)
  | [] => none
  | x :: t => if x = b then some t else none
theorem skip1_some {b : UInt8} {r t : List UInt8} (h : skip1 b r = some t) : r = b :: t := by
  cases r with
  | nil => cases h
  | cons x r =>
    simp only [skip1] at h
    by_cases e : x = b
    · rw [if_pos e] at h; injection h with h; rw [e, h]
    · rw [if_neg e] at h; cases h
/-- A number: canonical digits up to one of / ( , ) : -/
def pNum (r : List UInt8) : Option (Int × List UInt8) :=
  match Lib.atoiAll (upto [47, 40, 44, 41, 58] r) with
  | .ok v => if Lib.itoa v = upto [47, 40, 44, 41, 58] r then some (v, past [47, 40, 44, 41, 58] r) else none
  | _ => none
theorem pNum_some {r r' : List UInt8} {v : Int} (h : pNum r = some (v, r')) : r = Lib.itoa v ++ r' := by
  unfold pNum at h
  split at h
  · split at h
    · rename_i e
      injection h with h
      injection h with h1 h2
      subst h1; subst h2
      rw [e, upto_past]
    · cases h
  · cases h
mutual
def pC : Nat → List UInt8 → Option (Ct × List UInt8)
  | 0, _ => none
  | n + 1, r =>
    if upto [58, 44, 41] r = [] then some (Ct.zero, r) else
    (skip1 58 (past [58, 44, 41] r)).bind fun r2 =>
    let id : ByteArray := ⟨(upto [58, 40, 44, 41] r2).toArray⟩
    let r3 := past [58, 40, 44, 41] r2
    if upto [58, 44, 41] r = [102, 115] then
      (skip1 58 r3).bind fun r4 => some (.mk 1 id ⟨(upto [44, 41] r4).toArray⟩ 0 0 0 [], past [44, 41] r4)
    else if upto [58, 44, 41] r = [114, 97, 105, 100] then
      (skip1 58 r3).bind fun r4 => (pNum r4).bind fun p5 => (skip1 47 p5.2).bind fun r6 => (pNum r6).bind fun p7 => (skip1 47 p7.2).bind fun r8 => (pNum r8).bind fun p9 =>
        (skip1 40 p9.2).bind fun ra => (pL n [] ra).bind fun pb => some (.mk 2 id ⟨#[]⟩ p5.1 p7.1 p9.1 pb.1, pb.2)
    else if upto [58, 44, 41] r = [99, 114, 121, 112, 116] then
      (skip1 40 r3).bind fun ra => (pL n [] ra).bind fun pb => some (.mk 3 id ⟨#[]⟩ 0 0 0 pb.1, pb.2)
    else if upto [58, 44, 41] r = [112, 118] then
      (skip1 58 r3).bind fun r4 => (pNum r4).bind fun p5 => (skip1 47 p5.2).bind fun r6 => (pNum r6).bind fun p7 =>
        (skip1 40 p7.2).bind fun ra => (pL n [] ra).bind fun pb => some (.mk 4 id ⟨#[]⟩ p5.1 p7.1 0 pb.1, pb.2)
    else if upto [58, 44, 41] r = [116, 97, 98, 108, 101] then
      (skip1 40 r3).bind fun ra => (pL n [] ra).bind fun pb => some (.mk 5 id ⟨#[]⟩ 0 0 0 pb.1, pb.2)
    else none
def pL : Nat → List Ct → List UInt8 → Option (List Ct × List UInt8)
  | 0, _, _ => none
  | n + 1, acc, r => (pC n r).bind fun p =>
    match skip1 41 p.2 with
    | some r2 => some (acc ++ [p.1], r2)
    | none => (skip1 44 p.2).bind fun r2 => pL n (acc ++ [p.1]) r2
end

/-! ### What is parsed is the text -/
theorem commas_snoc : ∀ (l : List (List UInt8)) (x : List UInt8), l ≠ [] → commas (l ++ [x]) = commas l ++ 44 :: x
  | [], x, h => absurd rfl h
  | [y], x, _ => rfl
  | y :: z :: t, x, _ => by
    show commas (y :: z :: (t ++ [x])) = _
    have h := commas_snoc (z :: t) x (by simp)
    simp only [commas, List.cons_append] at h ⊢
    rw [h]
    simp
theorem bl_mk (l : List UInt8) : bl (⟨l.toArray⟩ : ByteArray) = l := by simp [bl]

/-- What stands ahead of a further content in brackets. -/
def accText (acc : List Ct) : List UInt8 := if acc = [] then [] else commas (acc.map Ct.text) ++ [44]
theorem acc_snoc (acc : List Ct) (c : Ct) : accText acc ++ c.text = commas ((acc ++ [c]).map Ct.text) := by
  unfold accText
  by_cases h : acc = []
  · subst h; simp [commas]
  · rw [if_neg h, List.map_append, List.map_cons, List.map_nil, commas_snoc _ _ (by simpa using h)]
    simp
theorem acc_snoc2 (acc : List Ct) (c : Ct) : accText (acc ++ [c]) = accText acc ++ c.text ++ [44] := by
  rw [acc_snoc]
  unfold accText
  rw [if_neg (by simp)]

theorem p_sound : ∀ n : Nat, (∀ r c r', pC n r = some (c, r') → r = c.text ++ r') ∧ (∀ acc r l r', pL n acc r = some (l, r') → accText acc ++ r = commas (l.map Ct.text) ++ 41 :: r')
  | 0 => ⟨fun r c r' h => by simp [pC] at h, fun acc r l r' h => by simp [pL] at h⟩
  | n + 1 => by
    obtain ⟨ihC, ihL⟩ := p_sound n
    have hin : ∀ ra (pb : List Ct × List UInt8), pL n [] ra = some pb → ra = commas (pb.1.map Ct.text) ++ 41 :: pb.2 := fun ra pb h => by
      have := ihL [] ra pb.1 pb.2 h
      simpa [accText] using this
    refine ⟨fun r c r' h => ?_, fun acc r l r' h => ?_⟩
    · have hr := upto_past [58, 44, 41] r
      rw [pC] at h
      by_cases h0 : upto [58, 44, 41] r = []
      · rw [if_pos h0] at h
        injection h with h
        injection h with h1 h2
        subst h1; subst h2
        rw [Ct.zero, text0]; rfl
      rw [if_neg h0] at h
      obtain ⟨r2, hr2, h⟩ := Option.bind_eq_some_iff.1 h
      have e2 := skip1_some hr2
      have hid := upto_past [58, 40, 44, 41] r2
      rw [e2] at hr
      simp only at h
      generalize upto [58, 40, 44, 41] r2 = di at h hid
      generalize past [58, 40, 44, 41] r2 = r3 at h hid
      generalize upto [58, 44, 41] r = kd at h hr
      split at h
      · rename_i hk
        obtain ⟨r4, hr4, h⟩ := Option.bind_eq_some_iff.1 h
        have e4 := skip1_some hr4
        have hl := upto_past [44, 41] r4
        generalize upto [44, 41] r4 = lb at h hl
        generalize past [44, 41] r4 = rs at h hl
        injection h with h
        injection h with h1 h2
        subst h1; subst h2
        rw [text1, bl_mk, bl_mk]
        rw [← hr, hk, ← hid, e4, ← hl]
        simp
      split at h
      · rename_i hk
        obtain ⟨r4, hr4, h⟩ := Option.bind_eq_some_iff.1 h
        obtain ⟨p5, hp5, h⟩ := Option.bind_eq_some_iff.1 h
        obtain ⟨r6, hr6, h⟩ := Option.bind_eq_some_iff.1 h
        obtain ⟨p7, hp7, h⟩ := Option.bind_eq_some_iff.1 h
        obtain ⟨r8, hr8, h⟩ := Option.bind_eq_some_iff.1 h
        obtain ⟨p9, hp9, h⟩ := Option.bind_eq_some_iff.1 h
        obtain ⟨ra, hra, h⟩ := Option.bind_eq_some_iff.1 h
        obtain ⟨pb, hpb, h⟩ := Option.bind_eq_some_iff.1 h
        injection h with h
        injection h with h1 h2
        subst h1; subst h2
        have e5 := pNum_some hp5
        have e7 := pNum_some hp7
        have e9 := pNum_some hp9
        rw [text2, bl_mk]
        rw [← hr, hk, ← hid, skip1_some hr4, e5, skip1_some hr6, e7, skip1_some hr8, e9, skip1_some hra, hin ra pb hpb]
        simp
      split at h
      · rename_i hk
        obtain ⟨ra, hra, h⟩ := Option.bind_eq_some_iff.1 h
        obtain ⟨pb, hpb, h⟩ := Option.bind_eq_some_iff.1 h
        injection h with h
        injection h with h1 h2
        subst h1; subst h2
        rw [text3, bl_mk]
        rw [← hr, hk, ← hid, skip1_some hra, hin ra pb hpb]
        simp
      split at h
      · rename_i hk
        obtain ⟨r4, hr4, h⟩ := Option.bind_eq_some_iff.1 h
        obtain ⟨p5, hp5, h⟩ := Option.bind_eq_some_iff.1 h
        obtain ⟨r6, hr6, h⟩ := Option.bind_eq_some_iff.1 h
        obtain ⟨p7, hp7, h⟩ := Option.bind_eq_some_iff.1 h
        obtain ⟨ra, hra, h⟩ := Option.bind_eq_some_iff.1 h
        obtain ⟨pb, hpb, h⟩ := Option.bind_eq_some_iff.1 h
        injection h with h
        injection h with h1 h2
        subst h1; subst h2
        have e5 := pNum_some hp5
        have e7 := pNum_some hp7
        rw [text4, bl_mk]
        rw [← hr, hk, ← hid, skip1_some hr4, e5, skip1_some hr6, e7, skip1_some hra, hin ra pb hpb]
        simp
      split at h
      · rename_i hk
        obtain ⟨ra, hra, h⟩ := Option.bind_eq_some_iff.1 h
        obtain ⟨pb, hpb, h⟩ := Option.bind_eq_some_iff.1 h
        injection h with h
        injection h with h1 h2
        subst h1; subst h2
        rw [text5, bl_mk]
        rw [← hr, hk, ← hid, skip1_some hra, hin ra pb hpb]
        simp
      · cases h
    · rw [pL] at h
      obtain ⟨p, hp, h⟩ := Option.bind_eq_some_iff.1 h
      have e1 := ihC r p.1 p.2 hp
      cases hs : skip1 41 p.2 with
      | some r2 =>
        rw [hs] at h
        simp only at h
        injection h with h
        injection h with h1 h2
        subst h1; subst h2
        rw [← acc_snoc, e1, skip1_some hs]
        simp
      | none =>
        rw [hs] at h
        simp only at h
        obtain ⟨r2, hr2, h⟩ := Option.bind_eq_some_iff.1 h
        have := ihL _ r2 l r' h
        rw [acc_snoc2] at this
        rw [← this, e1, skip1_some hr2]
        simp
end Go.Proofs.YtbblkknndaoefaaGreatDoor
