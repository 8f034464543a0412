/- relate.partition, relate.Partition. -/
import Derived.Test.YtanaompgapiikaaGreatDoorP1
namespace Go.Proofs.YtanaompgapiikaaGreatDoor
open Go.RowKit Go.Maps
set_option linter.unusedVariables false

def cutB (p d : Dev) : Bool := Lib.hasPrefix d.orig.data.toList (p.orig ++ ⟨#[112]⟩).data.toList
theorem cut_gen (s q : ByteArray) (w : World) : Calls Tryz.prog 200 #[.string s, .string q] w fun e w' => e = .returned (.tuple #[.string ⟨(Lib.trimPrefix s.data.toList q.data.toList).toArray⟩, .bool (Lib.hasPrefix s.data.toList q.data.toList)]) ∧ w = w' :=
  (Tryz.strings_CutPrefix s q w).mono fun e w' h => ⟨h.1, h.2.symm⟩
theorem cut_digits (p d : Dev) (w : World) : Calls Tryz.prog 200 #[.string d.orig, .string (p.orig ++ ⟨#[112]⟩)] w fun e w' => e = .returned (.tuple #[.string (digitsB p d), .bool (cutB p d)]) ∧ w = w' := by
  unfold digitsB cutB
  exact cut_gen _ _ w
def AtoiR (s : ByteArray) (e : Ending) : Prop :=
  (∃ v, Lib.atoiAll s.data.toList = .ok v ∧ e = .returned (.tuple #[.int .i64 v, .nilIface])) ∨ ((∀ v, Lib.atoiAll s.data.toList ≠ .ok v) ∧ ∃ (k : Int) (te : TypeId) (N : Nat), e = .returned (.tuple #[.int .i64 k, .iface te (.pointer (some ⟨N, 0, none⟩))]))
theorem atoi_any (s : ByteArray) (w : World) (hs : s.size ≤ 1000) (hE : ErrV w) : Calls Tryz.prog 183 #[.string s] w fun e w' => AtoiR s e ∧ Fr No w w' := by
  obtain ⟨e5, c5, k5⟩ := hE.s
  obtain ⟨e6, c6, k6⟩ := hE.r
  rcases h : Lib.atoiAll s.data.toList with v | _ | _
  · refine (Tryz.strconv_Atoi_ok s (by omega) v h w).mono ?_
    rintro e w' ⟨rfl, hw⟩
    refine ⟨.inl ⟨v, h, rfl⟩, ?_⟩
    rcases hw with rfl | ⟨t, rfl⟩
    · exact Fr.refl _ _
    · exact Fr.of_below_size (Lib.bytesWorld_below _ _ _)
  · refine (Any.strconv_Atoi_syntax Tryz.laysC172 s (by omega) h e5 w c5 k5).mono ?_
    rintro e w' ⟨N, rfl, _, _, hb⟩
    exact ⟨.inr ⟨fun v e => (by rw [h] at e; cases e), 0, _, N, rfl⟩, Fr.of_below_size hb⟩
  · refine (Tryz.strconv_Atoi_range s (by omega) h e6 w c6 k6).mono ?_
    rintro e w' ⟨N, rfl, _, _, hb⟩
    exact ⟨.inr ⟨fun v e => (by rw [h] at e; cases e), _, _, N, rfl⟩, Fr.of_below_size hb⟩
theorem partB_cut {p d : Dev} (h : cutB p d = false) : partB p d = none := by
  unfold cutB at h
  unfold partB
  split
  · rw [if_neg (by rw [h]; simp)]
  · rfl
theorem partB_err {p d : Dev} (h : ∀ v, Lib.atoiAll (digitsB p d).data.toList ≠ .ok v) : partB p d = none := by
  unfold partB
  split
  · rename_i v e; exact absurd e (h v)
  · rfl
theorem partB_ok {p d : Dev} {v : Int} (h : Lib.atoiAll (digitsB p d).data.toList = .ok v) : partB p d = if cutB p d = true ∧ 1 ≤ v ∧ v ≤ 16 ∧ (Lib.decDigits v.toNat) = (digitsB p d).data.toList ∧ d.kind = 2 ∧ p.kind = 2 then some v else none := by
  unfold partB cutB
  rw [h]

set_option maxRecDepth 100000 in
set_option maxHeartbeats 2000000 in
theorem r_partition (p d : Dev) (w : World) (hE : ErrV w) (hd : d.orig.size ≤ 32) (hp : p.orig.size ≤ 32) :
    Calls Tryz.prog 157 #[.agg p.vals, .agg d.vals] w fun e w' => PartRes (partB p d) e ∧ Fr No w w' := by
  have hx : Fr No w ((w.alloc (.cells p.vals 36)).alloc (.cells d.vals 36)) := ((Fr.refl _ _).alloc _).alloc _
  have q2 := block_alloc1 w (.cells p.vals 36) (.cells d.vals 36)
  have q3 := block_alloc2 w (.cells p.vals 36) (.cells d.vals 36)
  have hds := digits_size (p := p) hd
  unfold Dev.vals at *
  go_enter Tryz.func157, Tryz.ntmps157
  go_upto_region 1 with (fail)
  generalize (w.alloc (.cells _ 36)).alloc (.cells _ 36) = W0 at *
  have c23 : W0.cell? ⟨w.heap.size, 3, none⟩ = some (.string p.orig) := cell_of_block q2 3
  have c33 : W0.cell? ⟨w.heap.size + 1, 3, none⟩ = some (.string d.orig) := cell_of_block q3 3
  have hpp : (p.orig ++ (⟨#[112]⟩ : ByteArray)).size ≤ 9223372036854775807 := by rw [ByteArray.size_append]; show p.orig.size + 1 ≤ _; omega
  go_wp2_with fail
  refine (cut_digits p d _).mono ?_
  rintro e w1 ⟨rfl, rfl⟩
  have Hcut : Hid (cutB p d = false → partB p d = none) := fun h => partB_cut h
  have Herr : Hid ((∀ v, Lib.atoiAll (digitsB p d).data.toList ≠ .ok v) → partB p d = none) := fun h => partB_err h
  have Hok : Hid (∀ v, Lib.atoiAll (digitsB p d).data.toList = .ok v → partB p d = if cutB p d = true ∧ 1 ≤ v ∧ v ≤ 16 ∧ (Lib.decDigits v.toNat) = (digitsB p d).data.toList ∧ d.kind = 2 ∧ p.kind = 2 then some v else none) := fun v h => partB_ok h
  generalize digitsB p d = dg at *
  generalize cutB p d = cb at *
  go_wp2_with fail
  refine (atoi_any dg _ (by omega) (hE.no hx)).mono ?_
  rintro e w2 ⟨hR, hf2⟩
  have q22 := hf2.heap q2 id
  have q32 := hf2.heap q3 id
  have Hf := Lib.hid (hx.step hf2 (fun _ _ h => h))
  clear c23 c33 q2 q3 hx hf2
  have c37 : w2.cell? ⟨w.heap.size + 1, 7, none⟩ = some (.int .i64 d.kind) := cell_of_block q32 7
  have c27 : w2.cell? ⟨w.heap.size, 7, none⟩ = some (.int .i64 p.kind) := cell_of_block q22 7
  cases cb with
  | false =>
    have Hr : Hid (partB p d = none) := Hcut.out rfl
    rcases hR with ⟨v, hv, rfl⟩ | ⟨hv, k, te, N, rfl⟩
    · go_wp2_with fail
      go_ret2
      exact ⟨by unfold PartRes; rw [Hr.out]; rfl, Hf.out⟩
    · go_wp2_with fail
      go_ret2
      exact ⟨by unfold PartRes; rw [Hr.out]; rfl, Hf.out⟩
  | true =>
    rcases hR with ⟨v, hv, rfl⟩ | ⟨hv, k, te, N, rfl⟩
    · have Hres := Lib.hid (Hok.out v hv)
      clear hv
      by_cases h1 : v < 1
      · have Hr : Hid (partB p d = none) := by unfold Hid; rw [Hres.out, if_neg (by omega)]
        go_wp2_with fail
        go_ret2
        exact ⟨by unfold PartRes; rw [Hr.out]; rfl, Hf.out⟩
      by_cases h16 : 16 < v
      · have Hr : Hid (partB p d = none) := by unfold Hid; rw [Hres.out, if_neg (by omega)]
        go_wp2_with fail
        go_ret2
        exact ⟨by unfold PartRes; rw [Hr.out]; rfl, Hf.out⟩
      obtain ⟨i, rfl⟩ := Int.eq_ofNat_of_zero_le (show 0 ≤ v by omega)
      go_wp2_with fail
      refine (Tryz.strconv_Itoa_small i (by omega) _).mono ?_
      rintro e w3 ⟨rfl, rfl⟩
      obtain ⟨it, hit⟩ : ∃ it, it = (⟨(Lib.decDigits i).toArray⟩ : ByteArray) := ⟨_, rfl⟩
      rw [← hit]
      have Hit : Hid ((it.toList == dg.toList) = decide (Lib.decDigits i = dg.data.toList)) := by
        unfold Hid
        rw [hit, Bool.eq_iff_iff, beq_iff_eq, decide_eq_true_iff, ByteArray.toList_eq, ByteArray.toList_eq]
      have hv2 : ((i : Int).toNat) = i := by simp
      have Hv2 := Lib.hid hv2
      clear hit hv2
      rcases hie : (it.toList == dg.toList) with _ | _
      · have Hr : Hid (partB p d = none) := by
          unfold Hid
          rw [Hres.out, if_neg]
          rintro ⟨_, _, _, h, _⟩
          rw [Hv2.out] at h
          have := Hit.out
          rw [hie, decide_eq_true h] at this
          cases this
        go_wp2_with fail
        go_ret2
        exact ⟨by unfold PartRes; rw [Hr.out]; rfl, Hf.out⟩
      have Hdd : Hid (Lib.decDigits i = dg.data.toList) := by
        unfold Hid
        have := Hit.out; rw [hie] at this; exact of_decide_eq_true this.symm
      by_cases hk1 : d.kind = 2
      · have hk1' : (d.kind != 2) = false := by simpa using hk1
        by_cases hk2 : p.kind = 2
        · have hk2' : (p.kind != 2) = false := by simpa using hk2
          have Hr : Hid (partB p d = some (i : Int)) := by unfold Hid; rw [Hres.out, if_pos ⟨by trivial, by omega, by omega, by rw [Hv2.out]; exact Hdd.out, hk1, hk2⟩]
          go_wp2_with fail
          go_ret2
          exact ⟨by unfold PartRes; rw [Hr.out]; rfl, Hf.out⟩
        · have hk2' : (p.kind != 2) = true := by simpa using hk2
          have Hr : Hid (partB p d = none) := by unfold Hid; rw [Hres.out, if_neg (fun h => hk2 h.2.2.2.2.2)]
          go_wp2_with fail
          go_ret2
          exact ⟨by unfold PartRes; rw [Hr.out]; rfl, Hf.out⟩
      · have hk1' : (d.kind != 2) = true := by simpa using hk1
        have Hr : Hid (partB p d = none) := by unfold Hid; rw [Hres.out, if_neg (fun h => hk1 h.2.2.2.2.1)]
        go_wp2_with fail
        go_ret2
        exact ⟨by unfold PartRes; rw [Hr.out]; rfl, Hf.out⟩
    · have Hr : Hid (partB p d = none) := Herr.out hv
      clear hv
      go_wp2_with fail
      go_ret2
      exact ⟨by unfold PartRes; rw [Hr.out]; rfl, Hf.out⟩

/-- The number of the partition that a device is. -/
def partOf (ds : List Dev) (n : Int) : Option Int := match look ds n with
  | none => none
  | some d => match look ds d.parent with
    | none => none
    | some p => partB p d

set_option maxRecDepth 100000 in
set_option maxHeartbeats 2000000 in
theorem r_part (a : Option Addr) (cap : Nat) (ds : List Dev) (base : Nat) (n : Int) (w : World) (hl : Tr w base a cap ds) (hE : ErrV w) :
    Calls Tryz.prog 111 #[.agg #[.slice a ds.length cap], .int .i64 n] w fun e w' => PartRes (partOf ds n) e ∧ Fr No w w' := by
  have hT := hl.wf.1
  have hx : Fr No w (w.alloc (.cells #[.slice a ds.length cap] 25)) := (Fr.refl _ _).alloc _
  have q2 := block_alloc w (.cells #[.slice a ds.length cap] 25)
  go_enter Tryz.func111, Tryz.ntmps111
  go_wp2_with fail
  refine (tree_find a cap ds base n _ (hl.no hx)).mono ?_
  rintro e w1 ⟨hF, hf1⟩
  have q21 := hf1.heap q2 id
  have hf1x := hx.step hf1 (fun _ _ h => h)
  clear q2 hx hf1
  rcases hF with ⟨hlk, rfl⟩ | ⟨d, aa', ac', la, hlk, rfl, -⟩
  · have Hr : Hid (partOf ds n = none) := by unfold Hid partOf; rw [hlk]
    have hy : Fr No w1 (w1.alloc (.cells Dev.zero.vals 36)) := (Fr.refl _ _).alloc _
    have q22 := hy.heap q21 id
    have hfy := hf1x.step hy (fun _ _ h => h)
    have c2 : (w1.alloc (.cells Dev.zero.vals 36)).cell? ⟨w.heap.size, 0, none⟩ = some (.slice a ds.length cap) := cell_of_block q22 0
    unfold Dev.vals Dev.zero at *
    clear hlk
    go_wp2_with fail
    refine (tree_find a cap ds base 0 _ (hl.no hfy)).mono ?_
    rintro e w2 ⟨hF, hf2⟩
    rcases hF with ⟨hlk, rfl⟩ | ⟨d, aa', ac', la, hlk, rfl, -⟩
    · have Hf := Lib.hid ((hfy.step hf2 (fun _ _ h => h)).alloc (.cells Dev.zero.vals 36))
      unfold Dev.vals Dev.zero at *
      clear hf2 hfy hy hlk
      go_wp2_with fail
      go_ret2
      exact ⟨by unfold PartRes; rw [Hr.out]; rfl, Hf.out⟩
    · rw [hT.zero] at hlk; cases hlk
  · have hd := look_some hlk
    have hy : Fr No w1 (w1.alloc (.cells ({ d with aa := aa', ac := ac' } : Dev).vals 36)) := (Fr.refl _ _).alloc _
    have q22 := hy.heap q21 id
    have q6 := block_alloc w1 (.cells ({ d with aa := aa', ac := ac' } : Dev).vals 36)
    have hfy := hf1x.step hy (fun _ _ h => h)
    have c2 : (w1.alloc (.cells ({ d with aa := aa', ac := ac' } : Dev).vals 36)).cell? ⟨w.heap.size, 0, none⟩ = some (.slice a ds.length cap) := cell_of_block q22 0
    have Hlk := Lib.hid hlk
    have Hd := Lib.hid hd.1
    unfold Dev.vals at *
    clear hlk hd
    go_wp2_with fail
    refine (tree_find a cap ds base d.parent _ (hl.no hfy)).mono ?_
    rintro e w2 ⟨hF, hf2⟩
    rcases hF with ⟨hlk, rfl⟩ | ⟨p, pa', pc', lp, hlk, rfl, -⟩
    · have Hr : Hid (partOf ds n = none) := by unfold Hid partOf; rw [Hlk.out]; simp only; rw [hlk]
      have Hf := Lib.hid ((hfy.step hf2 (fun _ _ h => h)).alloc (.cells Dev.zero.vals 36))
      unfold Dev.vals Dev.zero at *
      clear hf2 hfy hy hlk
      go_wp2_with fail
      go_ret2
      exact ⟨by unfold PartRes; rw [Hr.out]; rfl, Hf.out⟩
    · have Hr : Hid (partOf ds n = partB p d) := by unfold Hid partOf; rw [Hlk.out]; simp only; rw [hlk]
      have hpm := (look_some hlk).1
      have hz : Fr No w2 (w2.alloc (.cells ({ p with aa := pa', ac := pc' } : Dev).vals 36)) := (Fr.refl _ _).alloc _
      have q62 := hz.heap (hf2.heap q6 id) id
      have hfz := (hfy.step hf2 (fun _ _ h => h)).step hz (fun _ _ h => h)
      have d0 : (w2.alloc (.cells ({ p with aa := pa', ac := pc' } : Dev).vals 36)).cell? ⟨w1.heap.size, 0, none⟩ = some (.int .i64 d.index) := cell_of_block q62 0
      have d1 : (w2.alloc (.cells ({ p with aa := pa', ac := pc' } : Dev).vals 36)).cell? ⟨w1.heap.size, 1, none⟩ = some (.int .i64 d.parent) := cell_of_block q62 1
      have d2 : (w2.alloc (.cells ({ p with aa := pa', ac := pc' } : Dev).vals 36)).cell? ⟨w1.heap.size, 2, none⟩ = some (.string d.name) := cell_of_block q62 2
      have d3 : (w2.alloc (.cells ({ p with aa := pa', ac := pc' } : Dev).vals 36)).cell? ⟨w1.heap.size, 3, none⟩ = some (.string d.orig) := cell_of_block q62 3
      have d4 : (w2.alloc (.cells ({ p with aa := pa', ac := pc' } : Dev).vals 36)).cell? ⟨w1.heap.size, 4, none⟩ = some (.string d.sub) := cell_of_block q62 4
      have d5 : (w2.alloc (.cells ({ p with aa := pa', ac := pc' } : Dev).vals 36)).cell? ⟨w1.heap.size, 5, none⟩ = some (.string d.drv) := cell_of_block q62 5
      have d6 : (w2.alloc (.cells ({ p with aa := pa', ac := pc' } : Dev).vals 36)).cell? ⟨w1.heap.size, 6, none⟩ = some (.string d.ali) := cell_of_block q62 6
      have d7 : (w2.alloc (.cells ({ p with aa := pa', ac := pc' } : Dev).vals 36)).cell? ⟨w1.heap.size, 7, none⟩ = some (.int .i64 d.kind) := cell_of_block q62 7
      have d8 : (w2.alloc (.cells ({ p with aa := pa', ac := pc' } : Dev).vals 36)).cell? ⟨w1.heap.size, 8, none⟩ = some (.int .i64 d.num) := cell_of_block q62 8
      have d9 : (w2.alloc (.cells ({ p with aa := pa', ac := pc' } : Dev).vals 36)).cell? ⟨w1.heap.size, 9, none⟩ = some (.slice aa' d.an ac') := cell_of_block q62 9
      have hP := r_partition ({ p with aa := pa', ac := pc' } : Dev) ({ d with aa := aa', ac := ac' } : Dev) _ (hE.no hfz) (hT.sz d Hd.out) (hT.sz p hpm)
      have e : partB ({ p with aa := pa', ac := pc' } : Dev) ({ d with aa := aa', ac := ac' } : Dev) = partB p d := rfl
      rw [e] at hP
      have HP := Lib.hid hP
      have Hfz := Lib.hid hfz
      unfold Dev.vals at *
      clear hP e hf2 hfy hy hz hlk q62 q6 hf1x
      generalize partB p d = res at *
      go_wp2_with fail
      refine HP.out.mono ?_
      rintro e w3 ⟨he, hf3⟩
      unfold PartRes at he
      subst he
      have Hf := Lib.hid (Hfz.out.step hf3 (fun _ _ h => h))
      clear hf3
      go_wp2_with fail
      go_ret2
      exact ⟨by unfold PartRes; rw [Hr.out]; rfl, Hf.out⟩
end Go.Proofs.YtanaompgapiikaaGreatDoor
