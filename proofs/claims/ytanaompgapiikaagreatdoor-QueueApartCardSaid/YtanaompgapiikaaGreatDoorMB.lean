/- The reference of layer 27: Number, Partition, Sisters, Order. -/
import Derived.Test.YtanaompgapiikaaGreatDoorMA
import Derived.Test.YtanaompgapiikaaGreatDoorG1
import Derived.Test.YtanaompgapiikaaGreatDoorQ7
import Derived.Test.YtanaompgapiikaaGreatDoorPR
namespace Go.Proofs.YtanaompgapiikaaGreatDoor
open Go.RowKit Go.Maps
set_option linter.unusedVariables false

def numTxt (p : ByteArray) (k : Nat) : ByteArray := p ++ ⟨#[112]⟩ ++ ⟨(Lib.decDigits k).toArray⟩
def NumR (p o : ByteArray) (k : Nat) : Prop := (1 ≤ k ∧ k ≤ 16 ∧ o = numTxt p k) ∨ (k = 0 ∧ ∀ j : Nat, 1 ≤ j → j ≤ 16 → o ≠ numTxt p j)
theorem dec_len (k : Nat) (h1 : 1 ≤ k) (h2 : k ≤ 16) : (Lib.decDigits k).length ≤ 2 := by
  rw [Lib.decDigits]
  split
  · simp
  · rw [Lib.decDigits, dif_pos (by omega)]; simp

set_option maxHeartbeats 1000000 in
theorem r27_number (p o : ByteArray) (w : World) (hp : p.size ≤ 1000) :
    Calls Tryz.prog 205 #[.string p, .string o] w fun e w' => (∃ k : Nat, e = .returned (.int .i64 (k : Int)) ∧ NumR p o k) ∧ w = w' := by
  have hpp : (p ++ (⟨#[112]⟩ : ByteArray)).size ≤ 9223372036854775807 := by rw [ByteArray.size_append]; show p.size + 1 ≤ _; omega
  go_enter Tryz.func205, Tryz.ntmps205
  go_wp2_with fail
  go_loop [5] (fun i => ∃ k : Nat, 1 ≤ k ∧ k ≤ 17 ∧ i = .int .i64 (k : Int) ∧ Hid (∀ j : Nat, 1 ≤ j → j < k → o ≠ numTxt p j)) (fun i => 17 - (intOf i).toNat)
  case atStart => exact ⟨1, by omega, by omega, rfl, fun j h1 h2 => by omega⟩
  case round =>
    obtain ⟨k, hk1, hk2, rfl, hno⟩ := hrel
    by_cases hlt : k ≤ 16
    · have hlt' : (k : Int) ≤ 16 := by omega
      go_wp2_with fail
      refine (Tryz.strconv_Itoa_small k (by omega) _).mono ?_
      rintro e w1 ⟨rfl, rfl⟩
      obtain ⟨it, hit⟩ : ∃ it, it = (⟨(Lib.decDigits k).toArray⟩ : ByteArray) := ⟨_, rfl⟩
      rw [← hit]
      have hsz : it.size ≤ 2 := by rw [hit]; simpa [ByteArray.size] using dec_len k hk1 hlt
      have hpq : (p ++ (⟨#[112]⟩ : ByteArray) ++ it).size ≤ 9223372036854775807 := by rw [ByteArray.size_append, ByteArray.size_append]; show p.size + 1 + it.size ≤ _; omega
      have Ht : Hid (numTxt p k = p ++ ⟨#[112]⟩ ++ it) := by unfold Hid numTxt; rw [hit]
      clear hit
      rcases he : (o.toList == (p ++ (⟨#[112]⟩ : ByteArray) ++ it).toList) with _ | _
      · have Hne : Hid (o ≠ numTxt p k) := by
          intro e
          rw [Ht.out] at e
          rw [← e] at he
          simp at he
        go_wp2_with fail
        go_round
        case rel => exact ⟨k + 1, by omega, by omega, by go_num, fun j h1 h2 => by
          by_cases e : j = k
          · subst e; exact Hne.out
          · exact hno.out j h1 (by omega)⟩
        case measure => simp [intOf]; omega
      · have Heq : Hid (o = numTxt p k) := by
          unfold Hid
          rw [Ht.out]
          rw [beq_iff_eq, ByteArray.toList_eq, ByteArray.toList_eq] at he
          exact ByteArray.ext (Array.ext' he)
        go_wp2_with fail
        go_ret
        exact ⟨⟨k, rfl, .inl ⟨hk1, hlt, Heq.out⟩⟩, rfl⟩
    · have hlt' : ¬ (k : Int) ≤ 16 := by omega
      go_wp2_with fail
      go_ret
      exact ⟨⟨0, rfl, .inr ⟨rfl, fun j h1 h2 => hno.out j h1 (by omega)⟩⟩, rfl⟩

theorem part_num {p d : Dev} {k : Nat} (h : NumR p.orig d.orig k) (h1 : d.kind = 2) (h2 : p.kind = 2) : (partB p d).isSome = decide (0 < k) := by
  rw [Bool.eq_iff_iff, partB_num, decide_eq_true_iff]
  constructor
  · rintro ⟨_, _, j, h3, h4, h5⟩
    rcases h with ⟨h6, _, _⟩ | ⟨_, h6⟩
    · omega
    · exact absurd h5 (h6 j h3 h4)
  · intro h0
    rcases h with ⟨h6, h7, h8⟩ | ⟨h6, _⟩
    · exact ⟨h1, h2, k, h6, h7, h8⟩
    · omega
theorem part_nokind {p d : Dev} (h : ¬ (d.kind = 2 ∧ p.kind = 2)) : (partB p d).isSome = false := by
  cases hb : (partB p d).isSome with
  | false => rfl
  | true =>
    have := partB_num.1 hb
    exact absurd ⟨this.1, this.2.1⟩ h

set_option maxRecDepth 100000 in
set_option maxHeartbeats 2000000 in
theorem r27_part (a : Option Addr) (cap : Nat) (ds : List Dev) (n : Int) (w : World) (hl : Devs w a cap ds) (hT : TreeOk ds) :
    Calls Tryz.prog 167 #[.agg #[.slice a ds.length cap], .int .i64 n] w fun e w' => (∃ k : Int, e = .returned (.tuple #[.int .i64 k, .bool (partOf ds n).isSome])) ∧ Fr No w w' := by
  have h0 : Fr No w (w.alloc (.cells #[.slice a ds.length cap] 25)) := (Fr.refl _ _).alloc _
  have q2 := block_alloc w (.cells #[.slice a ds.length cap] 25)
  have hl0 := hl.no h0 (fun _ => id)
  go_enter Tryz.func167, Tryz.ntmps167
  go_wp2_with fail
  generalize w.alloc (.cells #[.slice a ds.length cap] 25) = W0 at *
  clear hl
  cases hlk : look ds n with
  | none =>
    refine (ref_find_none a cap ds n _ hl0 hlk).mono ?_
    rintro e w1 ⟨rfl, hf1⟩
    have Hr : Hid ((partOf ds n).isSome = false) := by unfold Hid partOf; rw [hlk]; rfl
    have hy : Fr No w1 (w1.alloc (.cells Dev.zero.vals 36)) := (Fr.refl _ _).alloc _
    have q22 := hy.heap (hf1.heap q2 id) id
    have q6 := block_alloc w1 (.cells Dev.zero.vals 36)
    have hl2 := (hl0.no hf1 (fun _ => id)).no hy (fun _ => id)
    have Hfy := Lib.hid ((h0.step hf1 (fun _ _ h => h)).step hy (fun _ _ h => h))
    have c2 : (w1.alloc (.cells Dev.zero.vals 36)).cell? ⟨w.heap.size, 0, none⟩ = some (.slice a ds.length cap) := cell_of_block q22 0
    unfold Dev.vals Dev.zero at *
    clear hl0 hy hf1 h0 q2
    go_wp2_with fail
    refine (ref_find_none a cap ds 0 _ hl2 hT.zero).mono ?_
    rintro e w2 ⟨rfl, hf2⟩
    have Hf := Lib.hid ((Hfy.out.step hf2 (fun _ _ h => h)).alloc (.cells Dev.zero.vals 36))
    unfold Dev.vals Dev.zero at *
    clear hf2 hl2 hlk
    go_wp2_with fail
    go_ret2
    exact ⟨⟨0, by rw [Hr.out]; rfl⟩, Hf.out⟩
  | some d =>
    refine (ref_find_some a cap ds n d _ hl0 hlk).mono ?_
    rintro e w1 ⟨rfl, hf1⟩
    have hd := look_some hlk
    have hy : Fr No w1 (w1.alloc (.cells d.vals 36)) := (Fr.refl _ _).alloc _
    have q22 := hy.heap (hf1.heap q2 id) id
    have q6 := block_alloc w1 (.cells d.vals 36)
    have hl2 := (hl0.no hf1 (fun _ => id)).no hy (fun _ => id)
    have Hfy := Lib.hid ((h0.step hf1 (fun _ _ h => h)).step hy (fun _ _ h => h))
    have c2 : (w1.alloc (.cells d.vals 36)).cell? ⟨w.heap.size, 0, none⟩ = some (.slice a ds.length cap) := cell_of_block q22 0
    have Hlk := Lib.hid hlk
    have Hd := Lib.hid hd.1
    unfold Dev.vals at *
    clear hl0 hy hf1 h0 q2 hlk hd
    go_wp2_with fail
    cases hlp : look ds d.parent with
    | none =>
      refine (ref_find_none a cap ds d.parent _ hl2 hlp).mono ?_
      rintro e w2 ⟨rfl, hf2⟩
      have Hr : Hid ((partOf ds n).isSome = false) := by unfold Hid partOf; rw [Hlk.out]; simp only; rw [hlp]; rfl
      have Hf := Lib.hid ((Hfy.out.step hf2 (fun _ _ h => h)).alloc (.cells Dev.zero.vals 36))
      unfold Dev.vals Dev.zero at *
      clear hf2 hl2 hlp
      go_wp2_with fail
      go_ret2
      exact ⟨⟨0, by rw [Hr.out]; rfl⟩, Hf.out⟩
    | some p =>
      refine (ref_find_some a cap ds d.parent p _ hl2 hlp).mono ?_
      rintro e w2 ⟨rfl, hf2⟩
      have Hr : Hid (partOf ds n = partB p d) := by unfold Hid partOf; rw [Hlk.out]; simp only; rw [hlp]
      have Hp := Lib.hid (look_some hlp).1
      have hz : Fr No w2 (w2.alloc (.cells p.vals 36)) := (Fr.refl _ _).alloc _
      have q62 := hz.heap (hf2.heap q6 id) id
      have q8 := block_alloc w2 (.cells p.vals 36)
      have Hfz := Lib.hid ((Hfy.out.step hf2 (fun _ _ h => h)).step hz (fun _ _ h => h))
      unfold Dev.vals at *
      have d3 : (w2.alloc (.cells #[.int .i64 p.index, .int .i64 p.parent, .string p.name, .string p.orig, .string p.sub, .string p.drv, .string p.ali, .int .i64 p.kind, .int .i64 p.num, .slice p.aa p.an p.ac] 36)).cell? ⟨w1.heap.size, 3, none⟩ = some (.string d.orig) := cell_of_block q62 3
      have d7 : (w2.alloc (.cells #[.int .i64 p.index, .int .i64 p.parent, .string p.name, .string p.orig, .string p.sub, .string p.drv, .string p.ali, .int .i64 p.kind, .int .i64 p.num, .slice p.aa p.an p.ac] 36)).cell? ⟨w1.heap.size, 7, none⟩ = some (.int .i64 d.kind) := cell_of_block q62 7
      have p3 : (w2.alloc (.cells #[.int .i64 p.index, .int .i64 p.parent, .string p.name, .string p.orig, .string p.sub, .string p.drv, .string p.ali, .int .i64 p.kind, .int .i64 p.num, .slice p.aa p.an p.ac] 36)).cell? ⟨w2.heap.size, 3, none⟩ = some (.string p.orig) := cell_of_block q8 3
      have p7 : (w2.alloc (.cells #[.int .i64 p.index, .int .i64 p.parent, .string p.name, .string p.orig, .string p.sub, .string p.drv, .string p.ali, .int .i64 p.kind, .int .i64 p.num, .slice p.aa p.an p.ac] 36)).cell? ⟨w2.heap.size, 7, none⟩ = some (.int .i64 p.kind) := cell_of_block q8 7
      have hps := hT.sz p Hp.out
      clear hf2 hl2 hlp hz q62 q6 q8 q22 c2
      by_cases hk1 : d.kind = 2
      · have hk1' : (d.kind != 2) = false := by simpa using hk1
        by_cases hk2 : p.kind = 2
        · have hk2' : (p.kind != 2) = false := by simpa using hk2
          have Hk := Lib.hid (And.intro hk1 hk2)
          clear hk1 hk2
          go_wp2_with fail
          refine (r27_number p.orig d.orig _ (by omega)).mono ?_
          rintro e w3 ⟨⟨k, rfl, hN⟩, rfl⟩
          have Hres : Hid ((partOf ds n).isSome = decide (0 < k)) := by unfold Hid; rw [Hr.out]; exact part_num hN Hk.out.1 Hk.out.2
          clear hN
          go_wp2_with fail
          go_ret2
          exact ⟨⟨(k : Int), by rw [Hres.out]; rfl⟩, Hfz.out⟩
        · have hk2' : (p.kind != 2) = true := by simpa using hk2
          have Hres : Hid ((partOf ds n).isSome = false) := by unfold Hid; rw [Hr.out]; exact part_nokind (fun h => hk2 h.2)
          go_wp2_with fail
          go_ret2
          exact ⟨⟨0, by rw [Hres.out]; rfl⟩, Hfz.out⟩
      · have hk1' : (d.kind != 2) = true := by simpa using hk1
        have Hres : Hid ((partOf ds n).isSome = false) := by unfold Hid; rw [Hr.out]; exact part_nokind (fun h => hk1 h.1)
        go_wp2_with fail
        go_ret2
        exact ⟨⟨0, by rw [Hres.out]; rfl⟩, Hfz.out⟩

set_option maxRecDepth 100000 in
set_option maxHeartbeats 2000000 in
theorem r27_sisters (a : Option Addr) (cap : Nat) (ds : List Dev) (i j : Int) (w : World) (hl : Devs w a cap ds) (hT : TreeOk ds) :
    Calls Tryz.prog 122 #[.agg #[.slice a ds.length cap], .int .i64 i, .int .i64 j] w fun e w' => e = .returned (.bool (sisB ds i j)) ∧ Fr No w w' := by
  have h0 : Fr No w (w.alloc (.cells #[.slice a ds.length cap] 25)) := (Fr.refl _ _).alloc _
  have q2 := block_alloc w (.cells #[.slice a ds.length cap] 25)
  have hl0 := hl.no h0 (fun _ => id)
  go_enter Tryz.func122, Tryz.ntmps122
  go_wp2_with fail
  generalize w.alloc (.cells #[.slice a ds.length cap] 25) = W0 at *
  clear hl
  refine (r27_part a cap ds i _ hl0 hT).mono ?_
  rintro e w1 ⟨⟨k1, rfl⟩, hf1⟩
  have q21 := hf1.heap q2 id
  have hl1 := hl0.no hf1 (fun _ => id)
  have hfr1 := h0.step hf1 (fun _ _ h => h)
  have c1 : w1.cell? ⟨w.heap.size, 0, none⟩ = some (.slice a ds.length cap) := cell_of_block q21 0
  clear hl0 h0 q2 hf1
  go_wp2_with fail
  refine (r27_part a cap ds j _ hl1 hT).mono ?_
  rintro e w2 ⟨⟨k2, rfl⟩, hf2⟩
  have q22 := hf2.heap q21 id
  have hl2 := hl1.no hf2 (fun _ => id)
  have hfr2 := hfr1.step hf2 (fun _ _ h => h)
  have c2 : w2.cell? ⟨w.heap.size, 0, none⟩ = some (.slice a ds.length cap) := cell_of_block q22 0
  clear hl1 hfr1 q21 hf2 c1
  go_wp2_with fail
  refine (ref_find a cap ds i _ hl2).mono ?_
  rintro e w3 ⟨rfl, hf3⟩
  have Hs : Hid (sisB ds i j = ((partOf ds i).isSome && (partOf ds j).isSome && (i != j) && ((devOf ds i).parent == (devOf ds j).parent))) := rfl
  generalize devOf ds i = x at *
  generalize decide (0 ≤ place ds i) = bx at *
  have hy : Fr No w3 (w3.alloc (.cells x.vals 36)) := (Fr.refl _ _).alloc _
  have q23 := hy.heap (hf3.heap q22 id) id
  have qx := block_alloc w3 (.cells x.vals 36)
  have hl3 := (hl2.no hf3 (fun _ => id)).no hy (fun _ => id)
  have hfr3 := (hfr2.step hf3 (fun _ _ h => h)).step hy (fun _ _ h => h)
  have c3 : (w3.alloc (.cells x.vals 36)).cell? ⟨w.heap.size, 0, none⟩ = some (.slice a ds.length cap) := cell_of_block q23 0
  unfold Dev.vals at *
  clear hl2 hfr2 q22 hf3 c2 hy
  go_wp2_with fail
  refine (ref_find a cap ds j _ hl3).mono ?_
  rintro e w4 ⟨rfl, hf4⟩
  generalize devOf ds j = y at *
  generalize decide (0 ≤ place ds j) = bz at *
  have hz : Fr No w4 (w4.alloc (.cells y.vals 36)) := (Fr.refl _ _).alloc _
  have qx2 := hz.heap (hf4.heap qx id) id
  have qy := block_alloc w4 (.cells y.vals 36)
  have Hfz := Lib.hid ((hfr3.step hf4 (fun _ _ h => h)).step hz (fun _ _ h => h))
  unfold Dev.vals at *
  have x1 : (w4.alloc (.cells #[.int .i64 y.index, .int .i64 y.parent, .string y.name, .string y.orig, .string y.sub, .string y.drv, .string y.ali, .int .i64 y.kind, .int .i64 y.num, .slice y.aa y.an y.ac] 36)).cell? ⟨w3.heap.size, 1, none⟩ = some (.int .i64 x.parent) := cell_of_block qx2 1
  have y1 : (w4.alloc (.cells #[.int .i64 y.index, .int .i64 y.parent, .string y.name, .string y.orig, .string y.sub, .string y.drv, .string y.ali, .int .i64 y.kind, .int .i64 y.num, .slice y.aa y.an y.ac] 36)).cell? ⟨w4.heap.size, 1, none⟩ = some (.int .i64 y.parent) := cell_of_block qy 1
  clear hl3 hfr3 q23 hf4 c3 hz qx qx2 qy
  generalize (partOf ds i).isSome = pi at *
  generalize (partOf ds j).isSome = pj at *
  cases pi with
  | false =>
    go_wp2_with fail
    go_ret
    exact ⟨ret_bool (by rw [Hs.out]; rfl), Hfz.out⟩
  | true =>
    cases pj with
    | false =>
      go_wp2_with fail
      go_ret
      exact ⟨ret_bool (by rw [Hs.out]; rfl), Hfz.out⟩
    | true =>
      rcases hne : (i != j) with _ | _
      · have Hne := Lib.hid hne
        go_wp2_with fail
        go_ret
        exact ⟨ret_bool (by rw [Hs.out, Hne.out]; rfl), Hfz.out⟩
      · have Hne := Lib.hid hne
        go_wp2_with fail
        go_ret
        exact ⟨ret_bool (by rw [Hs.out, Hne.out]; rfl), Hfz.out⟩

set_option maxRecDepth 100000 in
set_option maxHeartbeats 2000000 in
theorem r27_order (a la : Option Addr) (cap lc : Nat) (ds : List Dev) (l : List Int) (w : World) (hl : Devs w a cap ds) (hT : TreeOk ds) (hi : Ints w la lc l) (hn : ds.length ≤ 1000) :
    Calls Tryz.prog 121 #[.agg #[.slice a ds.length cap], .slice la l.length lc] w fun e w' => (∃ a' c', e = .returned (.slice a' (orderL l ds).length c') ∧ Ints w' a' c' (orderL l ds) ∧ ∀ ad, a' = some ad → w.heap.size ≤ ad.block) ∧ Fr No w w' := by
  obtain ⟨i0, hi0, hz0, hz1, hz2⟩ := info_parts infoI2
  have hm := hl.lenmax
  have h0 : Fr No w (w.alloc (.cells #[.slice a ds.length cap] 25)) := (Fr.refl _ _).alloc _
  have q4 := block_alloc w (.cells #[.slice a ds.length cap] 25)
  have hs0 : w.heap.size < (w.alloc (.cells #[.slice a ds.length cap] 25)).heap.size := by simp
  have hl1 := hl.no h0 (fun _ => id)
  have hi1 := hi.no h0 (fun _ => id)
  have Hfx := Lib.hid h0
  go_enter Tryz.func121, Tryz.ntmps121
  go_wp2_with fail
  generalize w.alloc (.cells #[.slice a ds.length cap] 25) = w1 at *
  clear hl h0 hi
  go_loopw [5, 6] (fun v i wr => ∃ (k : Nat) (av : Option Addr) (cv : Nat), k ≤ ds.length ∧ v = .slice av (orderL l (ds.take k)).length cv ∧ i = .int .i64 (k : Int) ∧ wr.ownsRow w1.heap.size 3 1 (.slice av (orderL l (ds.take k)).length cv) (orderL l (ds.take k)).length ((orderL l (ds.take k)).map (Value.int .i64)) ∧ Fr (From w1.heap.size) w1 wr) (fun _ i _ => ds.length - (intOf i).toNat)
  case atStart => exact ⟨0, none, 0, by omega, rfl, rfl, World.ownsRow_nil _ _ _ _, Fr.refl _ _⟩
  case round =>
    obtain ⟨k, av, cv, hk, rfl, rfl, hown, hfr⟩ := hrel
    have hnl : ∀ b, b < w1.heap.size → ¬ From w1.heap.size b := fun b h1 h2 => by unfold From at h2; omega
    have q41 := hfr.heap q4 (hnl _ hs0)
    have c41 : wr.cell? ⟨w.heap.size, 0, none⟩ = some (.slice a ds.length cap) := cell_of_block q41 0
    by_cases hlt : k < ds.length
    · have hlt' : (k : Int) < ds.length := by omega
      have hlr : Devs wr a cap ds := hl1.fr hfr (fun ad e hne hS => by have := (hl1.cell ad e hne).2.1; unfold From at hS; omega)
      obtain ⟨bb, off, x, hax, hxk, y0, y1, y2, y3, y4, y5, y6, y7, y8, y9⟩ := hlr.dev hlt
      subst hax
      have Hsn : Hid (orderL l (ds.take (k + 1)) = orderL l (ds.take k) ++ if x.index ∈ l then [x.index] else []) := by unfold Hid; rw [List.take_add_one, hxk]; exact orderL_snoc l _ x
      have hsl : (orderL l (ds.take k)).length ≤ 1000 := by have := orderL_len l (ds.take k); rw [List.length_take] at this; omega
      have hIr := hi1.from hfr
      generalize orderL l (ds.take k) = L at *
      have hsr := hfr.size
      have Hfr := Lib.hid hfr
      clear hxk y1 y2 y3 y4 y5 y6 y7 y8 y9 hlr hfr
      go_wp2_with fail
      refine (ints_in la lc l x.index _ hIr).mono ?_
      rintro e w3 ⟨rfl, rfl⟩
      by_cases hin : x.index ∈ l
      · have hd : decide (x.index ∈ l) = true := decide_eq_true hin
        have Hn : Hid (orderL l (ds.take (k + 1)) = L ++ [x.index]) := by unfold Hid; rw [Hsn.out, if_pos hin]
        rw [hd]
        clear hin hd hIr
        go_wp2_with (at_builtin; refine wpList_append_own _ rfl _ _ 22 rfl w1.heap.size 3 i0 (.int .i64 0) 1 8 Tryz.underlying22 hi0 hz0 hz1 hz2 rfl (by decide) _ _ _ rfl (hown.alloc _) ⟨wr.heap.size, 0, none⟩ 1 1 [.int .i64 x.index] rfl rfl (cell_one_new _ _ _) (ints_one2 [x.index]) (by unfold maxLen; omega) (by omega) (by simp; omega) ?_; intro v' w6 hown6 hgrow6 _; obtain ⟨av', cv', rfl⟩ := ownsRow_slice hown6)
        have hg6 : Fr (From w1.heap.size) wr w6 := grown_fr hown hgrow6
        have Hg6 := Lib.hid (Hfr.out.step hg6 (fun _ _ h => h))
        have Hown6 := Lib.hid hown6
        have hll : (orderL l (ds.take (k + 1))).length = L.length + 1 := by rw [Hn.out]; simp
        have Hll := Lib.hid hll
        clear hg6 hown6 hgrow6 hown hll
        go_roundw
        case rel => exact ⟨k + 1, av', cv', by omega, by rw [Hll.out], by go_num, by rw [Hll.out, Hn.out, List.map_append]; exact Hown6.out, Hg6.out⟩
        case measure => simp [intOf]; omega
      · have hd : decide (x.index ∈ l) = false := decide_eq_false hin
        have Hn : Hid (orderL l (ds.take (k + 1)) = L) := by unfold Hid; rw [Hsn.out, if_neg hin, List.append_nil]
        have Hown3 := Lib.hid hown
        rw [hd]
        clear hin hd hown hIr
        go_wp2_with fail
        go_roundw
        case rel => exact ⟨k + 1, av, cv, by omega, by rw [Hn.out], by go_num, by rw [Hn.out]; exact Hown3.out, Hfr.out⟩
        case measure => simp [intOf]; omega
    · obtain rfl : k = ds.length := by omega
      rw [List.take_length] at hown ⊢
      obtain ⟨a', c', hv', hI', hfresh⟩ := Ints.of_own hown (fun y hy => by
        obtain ⟨z, hz, e⟩ := List.mem_map.1 (List.mem_filter.1 hy).1
        rw [← e]; exact hT.iwf hz)
      cases hv'
      have H := Lib.hid (And.intro hI' (And.intro (show ∀ ad, av = some ad → w.heap.size ≤ ad.block from fun ad e => by have := hfresh ad e; omega) (Hfx.out.step hfr (fun b hb h => by have := Hfx.out.size; unfold From at h; omega))))
      clear hown hfr hI' hfresh
      go_wp2_with fail
      go_ret
      exact ⟨⟨_, _, rfl, H.out.1, H.out.2.1⟩, H.out.2.2⟩
end Go.Proofs.YtanaompgapiikaaGreatDoor
/- The reference of layer 27: Batch. -/
namespace Go.Proofs.YtanaompgapiikaaGreatDoor
open Go.RowKit Go.Maps
set_option linter.unusedVariables false

theorem take_snoc {α : Type} {l : List α} {k : Nat} {x : α} (h : l[k]? = some x) : l.take (k + 1) = l.take k ++ [x] := by
  rw [List.take_add_one, h]; rfl

set_option maxRecDepth 100000 in
set_option maxHeartbeats 4000000 in
theorem r27_batch (a da ba : Option Addr) (cap dc bc : Nat) (ds : List Dev) (dl bl : List Int) (w : World) (hl : Devs w a cap ds) (hT : TreeOk ds) (hd : Ints w da dc dl) (hb : Ints w ba bc bl) (hn : ds.length ≤ 1000) :
    Calls Tryz.prog 78 #[.agg #[.slice a ds.length cap], .slice da dl.length dc, .slice ba bl.length bc] w fun e w' => (∃ a' c', e = .returned (.slice a' (batchS ds dl bl (orderL dl ds) []).length c') ∧ Ints w' a' c' (batchS ds dl bl (orderL dl ds) []) ∧ ∀ ad, a' = some ad → w.heap.size ≤ ad.block) ∧ Fr No w w' := by
  obtain ⟨i0, hi0, hz0, hz1, hz2⟩ := info_parts infoI2
  have hmb := hb.lenmax
  have h0 : Fr No w (w.alloc (.cells #[.slice a ds.length cap] 25)) := (Fr.refl _ _).alloc _
  have q3 := block_alloc w (.cells #[.slice a ds.length cap] 25)
  have hs0 : (w.alloc (.cells #[.slice a ds.length cap] 25)).heap.size = w.heap.size + 1 := by simp
  have hl0 := hl.no h0 (fun _ => id)
  have hd0 := hd.no h0 (fun _ => id)
  have hb0 := hb.no h0 (fun _ => id)
  go_enter Tryz.func78, Tryz.ntmps78
  go_wp2_with fail
  generalize w.alloc (.cells #[.slice a ds.length cap] 25) = W0 at *
  refine (r27_order a da cap dc ds dl _ hl0 hT hd0 hn).mono ?_
  rintro e w1 ⟨⟨oa, oc, rfl, hO, hOf⟩, hf1⟩
  have hs1 := hf1.size
  have hl1 := hl0.no hf1 (fun _ => id)
  have hd1 := hd0.no hf1 (fun _ => id)
  have hb1 := hb0.no hf1 (fun _ => id)
  have q31 := hf1.heap q3 id
  have Hfx := Lib.hid (h0.step hf1 (fun _ _ h => h))
  have hol := orderL_len dl ds
  have hmem : ∀ x ∈ orderL dl ds, (Lit.int .i64 x).wf = true := fun x hx => hO.wf x hx
  generalize hLe : orderL dl ds = L at *
  have HLe := Lib.hid hLe
  clear hLe
  have Hmem := Lib.hid hmem
  have hlL := hO.lenmax
  clear hl0 hd0 hb0 q3 h0 hf1 hl hd hb hmem
  go_wp2_with fail
  go_loopw [7, 9] (fun v i wr => ∃ (k : Nat) (O : List Int) (av : Option Addr) (cv : Nat), k ≤ L.length ∧ Hid (O = batchS ds dl bl (L.take k) []) ∧ v = .slice av O.length cv ∧ i = .int .i64 (k : Int) ∧ wr.ownsRow w1.heap.size 3 1 (.slice av O.length cv) O.length (O.map (Value.int .i64)) ∧ Fr (From w1.heap.size) w1 wr) (fun _ i _ => L.length - (intOf i).toNat)
  case atStart => exact ⟨0, [], none, 0, by omega, rfl, rfl, rfl, World.ownsRow_nil _ _ _ _, Fr.refl _ _⟩
  case round =>
    obtain ⟨k, O, av, cv, hk, hO1, rfl, rfl, hown, hfr⟩ := hrel
    obtain ⟨W1, rfl⟩ : ∃ W1, W1 = wr := ⟨_, rfl⟩
    have hnl : ∀ b, b < w1.heap.size → ¬ From w1.heap.size b := fun b h1 h2 => by unfold From at h2; omega
    have hOl : O.length ≤ k := by
      have h1 := batchS_len ds dl bl (L.take k) []
      rw [← hO1.out, List.length_take] at h1
      simp at h1; omega
    by_cases hlt : k < L.length
    · have hlt' : (k : Int) < L.length := by omega
      obtain ⟨ob, oo, x, hax, hxk, y0, hoB⟩ := hO.from_at hfr hlt
      subst hax
      have Htk := Lib.hid (take_snoc hxk)
      have hxw := Hmem.out x (List.mem_of_getElem? hxk)
      have hOmem : Hid (∀ z ∈ O, (Lit.int .i64 z).wf = true) := by
        intro z hz
        rw [hO1.out] at hz
        rcases batchS_sub _ _ _ _ _ _ hz with h | h
        · simp at h
        · exact Hmem.out z (List.mem_of_mem_take h)
      have hbr := hb1.from hfr
      have hdr := hd1.from hfr
      have hlr : Devs W1 a cap ds := hl1.fr hfr (fun ad e hne hS => by have := (hl1.cell ad e hne).2.1; unfold From at hS; omega)
      have q3r := hfr.heap q31 (hnl _ (by omega))
      have Hfr := Lib.hid hfr
      clear hxk hfr
      go_wp2_with fail
      refine (ints_in ba bc bl x _ hbr).mono ?_
      rintro e w3 ⟨rfl, rfl⟩
      obtain ⟨ib, hib⟩ : ∃ ib, ib = decide (x ∈ bl) := ⟨_, rfl⟩
      rw [← hib]
      have Hib := Lib.hid hib
      clear hib
      go_wp2_with fail
      refine region_sig No [(0, false), (1, false), (2, false), (3, false), (4, false), (5, true), (6, false)] (by kernel_rfl) (by kernel_rfl) (fun w0 hf0 => ?_)
      have g3 : ∀ g : Gr No w0, g.W.cell? ⟨w.heap.size, 0, none⟩ = some (.slice a ds.length cap) := fun g => g.fr.cell (cell_of_block (hf0.heap q3r id) 0) id
      have g0 : ∀ g : Gr No w0, g.W.cell? ⟨ob, oo + k, none⟩ = some (.int .i64 x) := fun g => g.fr.cell (hf0.cell y0 id) id
      have hl3 := hlr.no hf0 (fun _ => id)
      have hq3 := hf0.heap q3r id
      have hy3 := hf0.cell y0 id
      have hb3 := hbr.no hf0 (fun _ => id)
      have hd3 := hdr.no hf0 (fun _ => id)
      have hown3 := ownsRow_fr hown hf0 (fun _ _ => id)
      have Hf0 := Lib.hid (Hfr.out.step hf0 (fun _ _ h => h.elim))
      clear hf0 y0 q3r hbr hdr hlr hown
      repeat (first | (apply sig_q; exact rfl; exact rfl; exact rfl; intro K hK; go_big_quiet_op; go_big_quiet_on) | (apply sig_skip; exact rfl; exact rfl; exact rfl; intro K hK; go_big_quiet_op; go_big_quiet_on))
      clear g3 g0
      apply sig_m
      exact rfl
      go_wp2_with fail
      refine (ref_ancestors a cap ds x _ hl3 (by omega)).mono ?_
      rintro e w4 ⟨⟨ca, cc, rfl, hC, hCf⟩, hf4⟩
      have hCl : (chain ds x).tail.length ≤ 1000 := by have := chain_len ds x; simp; omega
      have hup : upOk ds dl bl x = ((chain ds x).tail.all fun y => !decide (y.index ∈ dl) && !decide (y.index ∈ bl)) := rfl
      have hl4 := hl3.no hf4 (fun _ => id)
      have hq4 := hf4.heap hq3 id
      have hy4 := hf4.cell hy3 id
      have hb4 := hb3.no hf4 (fun _ => id)
      have hd4 := hd3.no hf4 (fun _ => id)
      have hown4 := ownsRow_fr hown3 hf4 (fun _ _ => id)
      have Hf4 := Lib.hid (Hf0.out.step hf4 (fun _ _ h => h.elim))
      generalize (chain ds x).tail = C at *
      have Hup := Lib.hid hup
      clear hl3 hq3 hy3 hb3 hd3 hown3 hup
      go_wp2_with fail
      refine OnlyN.mk ⟨hf4, ?_⟩
      clear hf4
      repeat (first | (apply sig_q; exact rfl; exact rfl; exact rfl; intro K hK; go_big_quiet_op; go_big_quiet_on) | (apply sig_skip; exact rfl; exact rfl; exact rfl; intro K hK; go_big_quiet_op; go_big_quiet_on))
      refine sig_end ?_
      go_wp2_with fail
      go_loop [10, 12] (fun v i => ∃ (m : Nat) (o : Bool), m ≤ C.length ∧ Hid (o = (!ib && (C.take m).all fun y => !decide (y.index ∈ dl) && !decide (y.index ∈ bl))) ∧ v = .bool o ∧ i = .int .i64 (m : Int)) (fun _ i => C.length - (intOf i).toNat)
      case atStart => exact ⟨0, !ib, by omega, by unfold Hid; simp, rfl, rfl⟩
      case round =>
        obtain ⟨m, o, hm, ho, rfl, rfl⟩ := hrel
        by_cases hlt2 : m < C.length
        · have hlt2' : (m : Int) < C.length := by omega
          obtain ⟨bb, off, y, hay, hyk, z0, _, _, _, _, _, _, _, _, _⟩ := hC.dev hlt2
          subst hay
          have Ht2 := Lib.hid (take_snoc hyk)
          clear hyk
          cases o with
          | false =>
            have Hn : Hid (false = (!ib && (C.take (m + 1)).all fun y => !decide (y.index ∈ dl) && !decide (y.index ∈ bl))) := by
              unfold Hid; rw [Ht2.out, List.all_append, ← Bool.and_assoc, ← ho.out]; rfl
            go_wp2_with fail
            go_round
            case rel => exact ⟨m + 1, false, by omega, Hn, rfl, by go_num⟩
            case measure => simp [intOf]; omega
          | true =>
            have Hn : Hid ((!decide (y.index ∈ dl) && !decide (y.index ∈ bl)) = (!ib && (C.take (m + 1)).all fun y => !decide (y.index ∈ dl) && !decide (y.index ∈ bl))) := by
              unfold Hid; rw [Ht2.out, List.all_append, ← Bool.and_assoc, ← ho.out]; simp
            go_wp2_with fail
            refine (ints_in da dc dl y.index _ hd4).mono ?_
            rintro e w5 ⟨rfl, rfl⟩
            cases h1 : decide (y.index ∈ dl) with
            | true =>
              rw [h1] at Hn
              go_wp2_with fail
              go_round
              case rel => exact ⟨m + 1, false, by omega, by unfold Hid; rw [← Hn.out]; rfl, rfl, by go_num⟩
              case measure => simp [intOf]; omega
            | false =>
              rw [h1] at Hn
              go_wp2_with fail
              refine (ints_in ba bc bl y.index _ hb4).mono ?_
              rintro e w5 ⟨rfl, rfl⟩
              generalize decide (y.index ∈ bl) = h2 at *
              go_wp2_with fail
              go_round
              case rel => exact ⟨m + 1, !h2, by omega, by unfold Hid; rw [← Hn.out]; simp, rfl, by go_num⟩
              case measure => simp [intOf]; omega
        · obtain rfl : m = C.length := by omega
          have Ho : Hid (o = (!decide (x ∈ bl) && upOk ds dl bl x)) := by
            unfold Hid; rw [ho.out, List.take_length, Hup.out, Hib.out]
          clear ho hC hCf
          go_wp2_with fail
          go_loopw [10, 13] (fun v i wr => ∃ (m : Nat) (o2 : Bool), m ≤ bl.length ∧ Hid (o2 = (o && (bl.take m).all fun k => !sisB ds x k)) ∧ v = .bool o2 ∧ i = .int .i64 (m : Int) ∧ Fr No w4 wr) (fun _ i _ => bl.length - (intOf i).toNat)
          case atStart => exact ⟨0, o, by omega, by unfold Hid; simp, rfl, rfl, Fr.refl _ _⟩
          case round =>
            obtain ⟨m, o2, hm, ho, rfl, rfl, hfr5⟩ := hrel
            by_cases hlt2 : m < bl.length
            · have hlt2' : (m : Int) < bl.length := by omega
              go_wp2_with fail
              refine region_sig No [(0, false), (1, false), (2, false), (3, false), (4, false), (5, false), (6, false), (7, false), (8, false), (9, false), (10, false), (11, true), (12, false), (13, false), (14, false)] (by kernel_rfl) (by kernel_rfl) (fun w0 hf0 => ?_)
              have hf9 := hfr5.step hf0 (fun _ _ h => h)
              obtain ⟨bb, off, y, hay, hyk, z0⟩ := (hb4.no hf9 (fun _ => id)).at hlt2
              subst hay
              have Ht2 := Lib.hid (take_snoc hyk)
              have g3 : ∀ g : Gr No w0, g.W.cell? ⟨w.heap.size, 0, none⟩ = some (.slice a ds.length cap) := fun g => g.fr.cell (cell_of_block (hf9.heap hq4 id) 0) id
              have g0 : ∀ g : Gr No w0, g.W.cell? ⟨ob, oo + k, none⟩ = some (.int .i64 x) := fun g => g.fr.cell (hf9.cell hy4 id) id
              have g1 : ∀ g : Gr No w0, g.W.cell? ⟨bb, off + m, none⟩ = some (.int .i64 y) := fun g => g.fr.cell z0 id
              have hl9 := hl4.no hf9 (fun _ => id)
              have Hf9 := Lib.hid hf9
              clear hyk hf0 hf9 hfr5 z0
              cases o2 with
              | false =>
                have Hn : Hid (false = (o && (bl.take (m + 1)).all fun k => !sisB ds x k)) := by
                  unfold Hid; rw [Ht2.out, List.all_append, ← Bool.and_assoc, ← ho.out]; rfl
                repeat (first | (apply sig_q; exact rfl; exact rfl; exact rfl; intro K hK; go_big_quiet_op; go_big_quiet_on) | (apply sig_skip; exact rfl; exact rfl; exact rfl; intro K hK; go_big_quiet_op; go_big_quiet_on))
                apply sig_m
                exact rfl
                go_wp2_with fail
                refine OnlyN.mk ⟨Fr.refl _ _, ?_⟩
                repeat (first | (apply sig_q; exact rfl; exact rfl; exact rfl; intro K hK; go_big_quiet_op; go_big_quiet_on) | (apply sig_skip; exact rfl; exact rfl; exact rfl; intro K hK; go_big_quiet_op; go_big_quiet_on))
                refine sig_end ?_
                clear g3 g0 g1
                go_wp2_with fail
                go_roundw
                case rel => exact ⟨m + 1, false, by omega, Hn, rfl, by go_num, Hf9.out⟩
                case measure => simp [intOf]; omega
              | true =>
                have Hn : Hid ((!sisB ds x y) = (o && (bl.take (m + 1)).all fun k => !sisB ds x k)) := by
                  unfold Hid; rw [Ht2.out, List.all_append, ← Bool.and_assoc, ← ho.out]; simp
                repeat (first | (apply sig_q; exact rfl; exact rfl; exact rfl; intro K hK; go_big_quiet_op; go_big_quiet_on) | (apply sig_skip; exact rfl; exact rfl; exact rfl; intro K hK; go_big_quiet_op; go_big_quiet_on))
                clear g3 g0 g1
                apply sig_m
                exact rfl
                go_wp2_with fail
                refine (r27_sisters _ cap ds x y _ hl9 hT).mono ?_
                rintro e wa ⟨rfl, hfa⟩
                generalize sisB ds x y = sb at *
                have Hfa := Lib.hid (Hf9.out.step hfa (fun _ _ h => h))
                clear hl9
                go_wp2_with fail
                refine OnlyN.mk ⟨hfa, ?_⟩
                clear hfa
                repeat (first | (apply sig_q; exact rfl; exact rfl; exact rfl; intro K hK; go_big_quiet_op; go_big_quiet_on) | (apply sig_skip; exact rfl; exact rfl; exact rfl; intro K hK; go_big_quiet_op; go_big_quiet_on))
                refine sig_end ?_
                go_wp2_with fail
                go_roundw
                case rel => exact ⟨m + 1, !sb, by omega, Hn, rfl, by go_num, Hfa.out⟩
                case measure => simp [intOf]; omega
            · obtain rfl : m = bl.length := by omega
              have Ho2 : Hid (o2 = (!decide (x ∈ bl) && upOk ds dl bl x && bl.all fun k => !sisB ds x k)) := by
                unfold Hid; rw [ho.out, List.take_length, Ho.out]
              obtain ⟨w5, rfl⟩ : ∃ w5, w5 = wr := ⟨_, rfl⟩
              have hl5 := hl4.no hfr5 (fun _ => id)
              have hq5 := hfr5.heap hq4 id
              have hy5 := hfr5.cell hy4 id
              have hown5 := ownsRow_fr hown4 hfr5 (fun _ _ => id)
              have Hf5 := Lib.hid (Hf4.out.step hfr5 (fun _ _ h => h.elim))
              clear ho hb4 hd4 hfr5 hl4 hq4 hy4 hown4
              have hI5 := Ints.of_own hown5 hOmem.out
              obtain ⟨av2, cv2, hv, hI5, -⟩ := hI5
              cases hv
              go_wp2_with fail
              go_loopw [10, 14] (fun v i wr => ∃ (m : Nat) (o3 : Bool), m ≤ O.length ∧ Hid (o3 = (o2 && (O.take m).all fun k => !sisB ds x k)) ∧ v = .bool o3 ∧ i = .int .i64 (m : Int) ∧ Fr No w5 wr) (fun _ i _ => O.length - (intOf i).toNat)
              case atStart => exact ⟨0, o2, by omega, by unfold Hid; simp, rfl, rfl, Fr.refl _ _⟩
              case round =>
                obtain ⟨m, o3, hm, ho, rfl, rfl, hfr6⟩ := hrel
                by_cases hlt2 : m < O.length
                · have hlt2' : (m : Int) < O.length := by omega
                  go_wp2_with fail
                  refine region_sig No [(0, false), (1, false), (2, false), (3, false), (4, false), (5, false), (6, false), (7, false), (8, false), (9, false), (10, false), (11, true), (12, false), (13, false), (14, false)] (by kernel_rfl) (by kernel_rfl) (fun w0 hf0 => ?_)
                  have hf9 := hfr6.step hf0 (fun _ _ h => h)
                  obtain ⟨bb, off, y, hay, hyk, z0⟩ := (hI5.no hf9 (fun _ => id)).at hlt2
                  subst hay
                  have Ht2 := Lib.hid (take_snoc hyk)
                  have g3 : ∀ g : Gr No w0, g.W.cell? ⟨w.heap.size, 0, none⟩ = some (.slice a ds.length cap) := fun g => g.fr.cell (cell_of_block (hf9.heap hq5 id) 0) id
                  have g0 : ∀ g : Gr No w0, g.W.cell? ⟨ob, oo + k, none⟩ = some (.int .i64 x) := fun g => g.fr.cell (hf9.cell hy5 id) id
                  have g1 : ∀ g : Gr No w0, g.W.cell? ⟨bb, off + m, none⟩ = some (.int .i64 y) := fun g => g.fr.cell z0 id
                  have hl9 := hl5.no hf9 (fun _ => id)
                  have Hf9 := Lib.hid hf9
                  clear hyk hf0 hf9 hfr6 z0
                  cases o3 with
                  | false =>
                    have Hn : Hid (false = (o2 && (O.take (m + 1)).all fun k => !sisB ds x k)) := by
                      unfold Hid; rw [Ht2.out, List.all_append, ← Bool.and_assoc, ← ho.out]; rfl
                    repeat (first | (apply sig_q; exact rfl; exact rfl; exact rfl; intro K hK; go_big_quiet_op; go_big_quiet_on) | (apply sig_skip; exact rfl; exact rfl; exact rfl; intro K hK; go_big_quiet_op; go_big_quiet_on))
                    apply sig_m
                    exact rfl
                    go_wp2_with fail
                    refine OnlyN.mk ⟨Fr.refl _ _, ?_⟩
                    repeat (first | (apply sig_q; exact rfl; exact rfl; exact rfl; intro K hK; go_big_quiet_op; go_big_quiet_on) | (apply sig_skip; exact rfl; exact rfl; exact rfl; intro K hK; go_big_quiet_op; go_big_quiet_on))
                    refine sig_end ?_
                    clear g3 g0 g1
                    go_wp2_with fail
                    go_roundw
                    case rel => exact ⟨m + 1, false, by omega, Hn, rfl, by go_num, Hf9.out⟩
                    case measure => simp [intOf]; omega
                  | true =>
                    have Hn : Hid ((!sisB ds x y) = (o2 && (O.take (m + 1)).all fun k => !sisB ds x k)) := by
                      unfold Hid; rw [Ht2.out, List.all_append, ← Bool.and_assoc, ← ho.out]; simp
                    repeat (first | (apply sig_q; exact rfl; exact rfl; exact rfl; intro K hK; go_big_quiet_op; go_big_quiet_on) | (apply sig_skip; exact rfl; exact rfl; exact rfl; intro K hK; go_big_quiet_op; go_big_quiet_on))
                    clear g3 g0 g1
                    apply sig_m
                    exact rfl
                    go_wp2_with fail
                    refine (r27_sisters _ cap ds x y _ hl9 hT).mono ?_
                    rintro e wa ⟨rfl, hfa⟩
                    generalize sisB ds x y = sb at *
                    have Hfa := Lib.hid (Hf9.out.step hfa (fun _ _ h => h))
                    clear hl9
                    go_wp2_with fail
                    refine OnlyN.mk ⟨hfa, ?_⟩
                    clear hfa
                    repeat (first | (apply sig_q; exact rfl; exact rfl; exact rfl; intro K hK; go_big_quiet_op; go_big_quiet_on) | (apply sig_skip; exact rfl; exact rfl; exact rfl; intro K hK; go_big_quiet_op; go_big_quiet_on))
                    refine sig_end ?_
                    go_wp2_with fail
                    go_roundw
                    case rel => exact ⟨m + 1, !sb, by omega, Hn, rfl, by go_num, Hfa.out⟩
                    case measure => simp [intOf]; omega
                · obtain rfl : m = O.length := by omega
                  have Ho3 : Hid (o3 = bOk ds dl bl O x) := by
                    unfold Hid; rw [ho.out, List.take_length, Ho2.out]; rfl
                  obtain ⟨w6, rfl⟩ : ∃ w6, w6 = wr := ⟨_, rfl⟩
                  have hy6 := hfr6.cell hy5 id
                  have hown6 := ownsRow_fr hown5 hfr6 (fun _ _ => id)
                  have Hf6 := Lib.hid (Hf5.out.step hfr6 (fun _ _ h => h.elim))
                  have hs6 := Hf6.out.size
                  have Hn : Hid ((if o3 = true then O ++ [x] else O) = batchS ds dl bl (L.take (k + 1)) []) := by
                    unfold Hid
                    rw [Htk.out, batchS_snoc, ← hO1.out, Ho3.out]
                  clear ho hfr6 hy5 hown5 hI5 hl5 hq5
                  cases o3 with
                  | false =>
                    have Hn2 : Hid (O = batchS ds dl bl (L.take (k + 1)) []) := Hn.out
                    have Hown := Lib.hid hown6
                    clear hown6
                    go_wp2_with fail
                    go_roundw
                    case rel => exact ⟨k + 1, O, _, _, by omega, Hn2, rfl, by go_num, Hown.out, Hf6.out⟩
                    case measure => simp [intOf]; omega
                  | true =>
                    have Hn2 : Hid (O ++ [x] = batchS ds dl bl (L.take (k + 1)) []) := Hn.out
                    go_wp2_with (at_builtin; refine wpList_append_own _ rfl _ _ 22 rfl w1.heap.size 3 i0 (.int .i64 0) 1 8 Tryz.underlying22 hi0 hz0 hz1 hz2 rfl (by decide) _ _ _ rfl (hown6.alloc _) ⟨w6.heap.size, 0, none⟩ 1 1 [.int .i64 x] rfl rfl (cell_one_new _ _ _) (ints_one2 [x]) (by unfold maxLen; omega) (by omega) (by simp; omega) ?_; intro v' w7 hown7 hgrow7 _; obtain ⟨av', cv', rfl⟩ := ownsRow_slice hown7)
                    have hg7 : Fr (From w1.heap.size) w6 w7 := grown_fr hown6 hgrow7
                    have Hg7 := Lib.hid (Hf6.out.step hg7 (fun _ _ h => h))
                    have Hown7 : Hid (w7.ownsRow w1.heap.size 3 1 (.slice av' (O ++ [x]).length cv') (O ++ [x]).length ((O ++ [x]).map (Value.int .i64))) := by
                      unfold Hid; simpa using hown7
                    have hll : O.length + 1 = (O ++ [x]).length := by simp
                    clear hg7 hown7 hgrow7 hown6
                    go_roundw
                    case rel => exact ⟨k + 1, O ++ [x], av', cv', by omega, Hn2, by rw [← hll], by go_num, Hown7.out, Hg7.out⟩
                    case measure => simp [intOf]; omega
    · obtain rfl : k = L.length := by omega
      obtain rfl : O = batchS ds dl bl L [] := by have h := hO1.out; rw [List.take_length] at h; exact h
      obtain ⟨a', c', hv', hI', hfresh⟩ := Ints.of_own hown (fun y hy => by
        rcases batchS_sub _ _ _ _ _ _ hy with h | h
        · simp at h
        · exact Hmem.out y h)
      cases hv'
      have H := Lib.hid (And.intro hI' (And.intro (show ∀ ad, av = some ad → w.heap.size ≤ ad.block from fun ad e => by have := hfresh ad e; omega) (Hfx.out.step hfr (fun b hb h => by have := Hfx.out.size; unfold From at h; omega))))
      clear hown hfr hI' hfresh
      have hL := HLe.out
      subst hL
      go_wp2_with fail
      go_ret
      exact ⟨⟨_, _, rfl, H.out.1, H.out.2.1⟩, H.out.2.2⟩
end Go.Proofs.YtanaompgapiikaaGreatDoor
/- The reference of layer 28: Free, Gone. -/
namespace Go.Proofs.YtanaompgapiikaaGreatDoor
open Go.RowKit Go.Maps Go.Sort Go.Shelf
set_option linter.unusedVariables false

theorem Recs.frm {w w' : World} {a : Option Addr} {cap : Nat} {l : List Rec} (h : Recs w a cap l) (hf : Fr (From w.heap.size) w w') : Recs w' a cap l :=
  h.no (S := No) (hf.mono (fun b hb h => by unfold From at h; omega)) (fun _ => id)
def freeK (ds : List Dev) (l : List Rec) (B : List Int) : List Int := B.filter (upRec ds l)
theorem freeK_len (ds : List Dev) (l : List Rec) (B : List Int) : (freeK ds l B).length ≤ B.length := List.length_filter_le _ _
theorem freeK_snoc (ds : List Dev) (l : List Rec) (B : List Int) (x : Int) : freeK ds l (B ++ [x]) = if upRec ds l x = true then freeK ds l B ++ [x] else freeK ds l B := by
  unfold freeK
  rw [List.filter_append]
  cases h : upRec ds l x <;> simp [h]

set_option maxRecDepth 100000 in
set_option maxHeartbeats 4000000 in
theorem r28_free (a da ba ra : Option Addr) (cap dc bc rc : Nat) (ds : List Dev) (dl bl : List Int) (l : List Rec) (w : World) (hl : Devs w a cap ds) (hT : TreeOk ds) (hd : Ints w da dc dl) (hb : Ints w ba bc bl) (hn : ds.length ≤ 1000) (hr : Recs w ra rc l) :
    Calls Tryz.prog 29 #[.agg #[.slice da dl.length dc, .slice ba bl.length bc], .agg #[.slice a ds.length cap], .slice ra l.length rc] w fun e w' => (∃ a' c', e = .returned (.slice a' (freeS ds l dl bl).length c') ∧ Ints w' a' c' (freeS ds l dl bl)) ∧ Fr No w w' := by
  obtain ⟨i0, hi0, hz0, hz1, hz2⟩ := info_parts infoI2
  have h0 : Fr No w ((w.alloc (.cells #[.slice da dl.length dc, .slice ba bl.length bc] 52)).alloc (.cells #[.slice a ds.length cap] 25)) := ((Fr.refl _ _).alloc _).alloc _
  have p3 := block_alloc1 w (.cells #[.slice da dl.length dc, .slice ba bl.length bc] 52) (.cells #[.slice a ds.length cap] 25)
  have p4 := block_alloc2 w (.cells #[.slice da dl.length dc, .slice ba bl.length bc] 52) (.cells #[.slice a ds.length cap] 25)
  have hs0 : ((w.alloc (.cells #[.slice da dl.length dc, .slice ba bl.length bc] 52)).alloc (.cells #[.slice a ds.length cap] 25)).heap.size = w.heap.size + 2 := by simp
  have hl0 := hl.no h0 (fun _ => id)
  have hd0 := hd.no h0 (fun _ => id)
  have hb0 := hb.no h0 (fun _ => id)
  have hr0 := hr.no h0 (fun _ => id)
  go_enter Tryz.func29, Tryz.ntmps29
  go_upto_region 2 with (fail)
  generalize (w.alloc (.cells #[.slice da dl.length dc, .slice ba bl.length bc] 52)).alloc (.cells #[.slice a ds.length cap] 25) = W0 at *
  have d0 : W0.cell? ⟨w.heap.size, 0, none⟩ = some (.slice da dl.length dc) := cell_of_block p3 0
  have d1 : W0.cell? ⟨w.heap.size, 1, none⟩ = some (.slice ba bl.length bc) := cell_of_block p3 1
  have d2 : W0.cell? ⟨w.heap.size + 1, 0, none⟩ = some (.slice a ds.length cap) := cell_of_block p4 0
  go_wp2_with fail
  refine (r27_batch a da ba cap dc bc ds dl bl _ hl0 hT hd0 hb0 hn).mono ?_
  rintro e w1 ⟨⟨oa, oc, rfl, hO, hOf⟩, hf1⟩
  have hs1 := hf1.size
  have hl1 := hl0.no hf1 (fun _ => id)
  have hr1 := hr0.no hf1 (fun _ => id)
  have q41 := hf1.heap p4 id
  have Hfx := Lib.hid (h0.step hf1 (fun _ _ h => h))
  have hBl : (batchS ds dl bl (orderL dl ds) []).length ≤ 1000 := by
    have h1 := batchS_len ds dl bl (orderL dl ds) []
    have h2 := orderL_len dl ds
    simp at h1; omega
  have hres : freeS ds l dl bl = freeK ds l (batchS ds dl bl (orderL dl ds) []) := rfl
  have Hres := Lib.hid hres
  generalize hLe : batchS ds dl bl (orderL dl ds) [] = L at *
  have HLe := Lib.hid hLe
  clear hLe
  have hlL := hO.lenmax
  clear hl0 hd0 hb0 hr0 p3 p4 h0 hf1 hl hd hb hr d0 d1 d2 hres
  go_wp2_with fail
  go_loopw [7, 9] (fun v i wr => ∃ (k : Nat) (O : List Int) (av : Option Addr) (cv : Nat), k ≤ L.length ∧ Hid (O = freeK ds l (L.take k)) ∧ v = .slice av O.length cv ∧ i = .int .i64 (k : Int) ∧ wr.ownsRow w1.heap.size 3 1 (.slice av O.length cv) O.length (O.map (Value.int .i64)) ∧ Fr (From w1.heap.size) w1 wr) (fun _ i _ => L.length - (intOf i).toNat)
  case atStart => exact ⟨0, [], none, 0, by omega, rfl, rfl, rfl, World.ownsRow_nil _ _ _ _, Fr.refl _ _⟩
  case round =>
    obtain ⟨k, O, av, cv, hk, hO1, rfl, rfl, hown, hfr⟩ := hrel
    obtain ⟨W1, rfl⟩ : ∃ W1, W1 = wr := ⟨_, rfl⟩
    have hnl : ∀ b, b < w1.heap.size → ¬ From w1.heap.size b := fun b h1 h2 => by unfold From at h2; omega
    have hOl : O.length ≤ k := by
      have h1 := freeK_len ds l (L.take k)
      rw [← hO1.out, List.length_take] at h1
      omega
    by_cases hlt : k < L.length
    · have hlt' : (k : Int) < L.length := by omega
      obtain ⟨ob, oo, x, hax, hxk, y0, hoB⟩ := hO.from_at hfr hlt
      subst hax
      have Htk := Lib.hid (take_snoc hxk)
      have hlr : Devs W1 a cap ds := hl1.fr hfr (fun ad e hne hS => by have := (hl1.cell ad e hne).2.1; unfold From at hS; omega)
      have hrr : Recs W1 ra rc l := hr1.frm hfr
      have q3r := hfr.heap q41 (hnl _ (by omega))
      have Hfr := Lib.hid hfr
      clear hxk hfr
      go_wp2_with fail
      refine region_sig No [(0, false), (1, false), (2, false), (3, false), (4, false), (5, true), (6, false)] (by kernel_rfl) (by kernel_rfl) (fun w0 hf0 => ?_)
      have g3 : ∀ g : Gr No w0, g.W.cell? ⟨w.heap.size + 1, 0, none⟩ = some (.slice a ds.length cap) := fun g => g.fr.cell (cell_of_block (hf0.heap q3r id) 0) id
      have g0 : ∀ g : Gr No w0, g.W.cell? ⟨ob, oo + k, none⟩ = some (.int .i64 x) := fun g => g.fr.cell (hf0.cell y0 id) id
      have hl3 := hlr.no hf0 (fun _ => id)
      have hq3 := hf0.heap q3r id
      have hy3 := hf0.cell y0 id
      have hr3 := hrr.no hf0 (fun _ => id)
      have hown3 := ownsRow_fr hown hf0 (fun _ _ => id)
      have Hf0 := Lib.hid (Hfr.out.step hf0 (fun _ _ h => h.elim))
      clear hf0 y0 q3r hrr hlr hown
      repeat (first | (apply sig_q; exact rfl; exact rfl; exact rfl; intro K hK; go_big_quiet_op; go_big_quiet_on) | (apply sig_skip; exact rfl; exact rfl; exact rfl; intro K hK; go_big_quiet_op; go_big_quiet_on))
      clear g3 g0
      apply sig_m
      exact rfl
      go_wp2_with fail
      refine (ref_ancestors a cap ds x _ hl3 (by omega)).mono ?_
      rintro e w4 ⟨⟨ca, cc, rfl, hC, hCf⟩, hf4⟩
      have hCl : (chain ds x).tail.length ≤ 1000 := by have := chain_len ds x; simp; omega
      have hup : upRec ds l x = ((chain ds x).tail.all fun y => recB ds l y.index) := rfl
      have hl4 := hl3.no hf4 (fun _ => id)
      have hq4 := hf4.heap hq3 id
      have hy4 := hf4.cell hy3 id
      have hr4 := hr3.no hf4 (fun _ => id)
      have hown4 := ownsRow_fr hown3 hf4 (fun _ _ => id)
      have Hf4 := Lib.hid (Hf0.out.step hf4 (fun _ _ h => h.elim))
      generalize (chain ds x).tail = C at *
      have Hup := Lib.hid hup
      clear hl3 hq3 hy3 hr3 hown3 hup
      go_wp2_with fail
      refine OnlyN.mk ⟨hf4, ?_⟩
      clear hf4
      repeat (first | (apply sig_q; exact rfl; exact rfl; exact rfl; intro K hK; go_big_quiet_op; go_big_quiet_on) | (apply sig_skip; exact rfl; exact rfl; exact rfl; intro K hK; go_big_quiet_op; go_big_quiet_on))
      refine sig_end ?_
      go_wp2_with fail
      go_loopw [10, 12] (fun v i wr => ∃ (m : Nat) (o : Bool), m ≤ C.length ∧ Hid (o = ((C.take m).all fun y => recB ds l y.index)) ∧ v = .bool o ∧ i = .int .i64 (m : Int) ∧ Fr No w4 wr) (fun _ i _ => C.length - (intOf i).toNat)
      case atStart => exact ⟨0, true, by omega, by unfold Hid; simp, rfl, rfl, Fr.refl _ _⟩
      case round =>
        obtain ⟨m, o, hm, ho, rfl, rfl, hfr5⟩ := hrel
        by_cases hlt2 : m < C.length
        · have hlt2' : (m : Int) < C.length := by omega
          go_wp2_with fail
          refine region_sig No [(0, false), (1, false), (2, false), (3, false), (4, false), (5, false), (6, false), (7, false), (8, false), (9, true), (10, false), (11, false)] (by kernel_rfl) (by kernel_rfl) (fun w0 hf0 => ?_)
          have hf9 := hfr5.step hf0 (fun _ _ h => h)
          obtain ⟨bb, off, y, hay, hyk, z0, _, _, _, _, _, _, _, _, _⟩ := (hC.no hf9 (fun _ => id)).dev hlt2
          subst hay
          have Ht2 := Lib.hid (take_snoc hyk)
          have g3 : ∀ g : Gr No w0, g.W.cell? ⟨w.heap.size + 1, 0, none⟩ = some (.slice a ds.length cap) := fun g => g.fr.cell (cell_of_block (hf9.heap hq4 id) 0) id
          have g0 : ∀ g : Gr No w0, g.W.cell? ⟨bb, off + m * 10, none⟩ = some (.int .i64 y.index) := fun g => g.fr.cell z0 id
          have hl9 := hl4.no hf9 (fun _ => id)
          have hr9 := hr4.no hf9 (fun _ => id)
          have Hf9 := Lib.hid hf9
          clear hyk hf0 hf9 hfr5 z0
          cases o with
          | false =>
            have Hn : Hid (false = ((C.take (m + 1)).all fun y => recB ds l y.index)) := by
              unfold Hid; rw [Ht2.out, List.all_append, ← ho.out]; rfl
            repeat (first | (apply sig_q; exact rfl; exact rfl; exact rfl; intro K hK; go_big_quiet_op; go_big_quiet_on) | (apply sig_skip; exact rfl; exact rfl; exact rfl; intro K hK; go_big_quiet_op; go_big_quiet_on))
            apply sig_m
            exact rfl
            go_wp2_with fail
            refine OnlyN.mk ⟨Fr.refl _ _, ?_⟩
            repeat (first | (apply sig_q; exact rfl; exact rfl; exact rfl; intro K hK; go_big_quiet_op; go_big_quiet_on) | (apply sig_skip; exact rfl; exact rfl; exact rfl; intro K hK; go_big_quiet_op; go_big_quiet_on))
            refine sig_end ?_
            clear g3 g0
            go_wp2_with fail
            go_roundw
            case rel => exact ⟨m + 1, false, by omega, Hn, rfl, by go_num, Hf9.out⟩
            case measure => simp [intOf]; omega
          | true =>
            have Hn : Hid (recB ds l y.index = ((C.take (m + 1)).all fun y => recB ds l y.index)) := by
              unfold Hid; rw [Ht2.out, List.all_append, ← ho.out]; simp
            repeat (first | (apply sig_q; exact rfl; exact rfl; exact rfl; intro K hK; go_big_quiet_op; go_big_quiet_on) | (apply sig_skip; exact rfl; exact rfl; exact rfl; intro K hK; go_big_quiet_op; go_big_quiet_on))
            clear g3 g0
            apply sig_m
            exact rfl
            go_wp2_with fail
            refine (ref_recorded a _ cap _ ds l y.index _ hl9 hT (by omega) hr9).mono ?_
            rintro e wa ⟨rfl, hfa⟩
            generalize recB ds l y.index = sb at *
            have Hfa := Lib.hid (Hf9.out.step hfa (fun _ _ h => h))
            clear hl9 hr9
            go_wp2_with fail
            refine OnlyN.mk ⟨hfa, ?_⟩
            clear hfa
            repeat (first | (apply sig_q; exact rfl; exact rfl; exact rfl; intro K hK; go_big_quiet_op; go_big_quiet_on) | (apply sig_skip; exact rfl; exact rfl; exact rfl; intro K hK; go_big_quiet_op; go_big_quiet_on))
            refine sig_end ?_
            go_wp2_with fail
            go_roundw
            case rel => exact ⟨m + 1, sb, by omega, Hn, rfl, by go_num, Hfa.out⟩
            case measure => simp [intOf]; omega
        · obtain rfl : m = C.length := by omega
          have Ho : Hid (o = upRec ds l x) := by
            unfold Hid; rw [ho.out, List.take_length, Hup.out]
          obtain ⟨w6, rfl⟩ : ∃ w6, w6 = wr := ⟨_, rfl⟩
          have hy6 := hfr5.cell hy4 id
          have hown6 := ownsRow_fr hown4 hfr5 (fun _ _ => id)
          have Hf6 := Lib.hid (Hf4.out.step hfr5 (fun _ _ h => h.elim))
          have hs6 := Hf6.out.size
          have Hn : Hid ((if o = true then O ++ [x] else O) = freeK ds l (L.take (k + 1))) := by
            unfold Hid
            rw [Htk.out, freeK_snoc, ← hO1.out, Ho.out]
          clear ho hfr5 hy4 hown4 hl4 hq4 hr4 hC hCf
          cases o with
          | false =>
            have Hn2 : Hid (O = freeK ds l (L.take (k + 1))) := Hn.out
            have Hown := Lib.hid hown6
            clear hown6
            go_wp2_with fail
            go_roundw
            case rel => exact ⟨k + 1, O, _, _, by omega, Hn2, rfl, by go_num, Hown.out, Hf6.out⟩
            case measure => simp [intOf]; omega
          | true =>
            have Hn2 : Hid (O ++ [x] = freeK ds l (L.take (k + 1))) := Hn.out
            go_wp2_with (at_builtin; refine wpList_append_own _ rfl _ _ 22 rfl w1.heap.size 3 i0 (.int .i64 0) 1 8 Tryz.underlying22 hi0 hz0 hz1 hz2 rfl (by decide) _ _ _ rfl (hown6.alloc _) ⟨w6.heap.size, 0, none⟩ 1 1 [.int .i64 x] rfl rfl (cell_one_new _ _ _) (ints_one2 [x]) (by unfold maxLen; omega) (by omega) (by simp; omega) ?_; intro v' w7 hown7 hgrow7 _; obtain ⟨av', cv', rfl⟩ := ownsRow_slice hown7)
            have hg7 : Fr (From w1.heap.size) w6 w7 := grown_fr hown6 hgrow7
            have Hg7 := Lib.hid (Hf6.out.step hg7 (fun _ _ h => h))
            have Hown7 : Hid (w7.ownsRow w1.heap.size 3 1 (.slice av' (O ++ [x]).length cv') (O ++ [x]).length ((O ++ [x]).map (Value.int .i64))) := by
              unfold Hid; simpa using hown7
            have hll : O.length + 1 = (O ++ [x]).length := by simp
            clear hg7 hown7 hgrow7 hown6
            go_roundw
            case rel => exact ⟨k + 1, O ++ [x], av', cv', by omega, Hn2, by rw [← hll], by go_num, Hown7.out, Hg7.out⟩
            case measure => simp [intOf]; omega
    · obtain rfl : k = L.length := by omega
      obtain rfl : O = freeK ds l L := by have h := hO1.out; rw [List.take_length] at h; exact h
      obtain ⟨a', c', hv', hI', hfresh⟩ := Ints.of_own hown (fun y hy => hO.wf y (List.mem_filter.1 hy).1)
      cases hv'
      have H := Lib.hid (And.intro hI' (Hfx.out.step hfr (fun b hb h => by have := Hfx.out.size; unfold From at h; omega)))
      clear hown hfr hI' hfresh
      go_wp2_with fail
      go_ret
      rw [Hres.out]
      exact ⟨⟨_, _, rfl, H.out.1⟩, H.out.2⟩

theorem keepN_sub (ds : List Dev) (l : List Int) : (keepN ds l).Sublist l := List.filter_sublist

set_option maxRecDepth 100000 in
set_option maxHeartbeats 4000000 in
theorem r28_gone (a da ba : Option Addr) (cap dc bc : Nat) (ds : List Dev) (dl bl : List Int) (w : World) (hl : Devs w a cap ds) (hd : Ints w da dc dl) (hb : Ints w ba bc bl) (hdA : Asc dl) (hdl : dl.length ≤ 100000) (hbl : bl.length ≤ 100000) :
    Calls Tryz.prog 31 #[.agg #[.slice da dl.length dc, .slice ba bl.length bc], .agg #[.slice a ds.length cap]] w fun e w' => (∃ a' c' m, e = .returned (.slice a' m.length c') ∧ Ints w' a' c' m ∧ Asc m ∧ ∀ x, x ∈ m ↔ (x ∈ dl ∨ x ∈ bl) ∧ hasD ds x = false) ∧ Fr No w w' := by
  obtain ⟨i0, hi0, hz0, hz1, hz2⟩ := info_parts infoI2
  have h0 : Fr No w ((w.alloc (.cells #[.slice da dl.length dc, .slice ba bl.length bc] 52)).alloc (.cells #[.slice a ds.length cap] 25)) := ((Fr.refl _ _).alloc _).alloc _
  have p3 := block_alloc1 w (.cells #[.slice da dl.length dc, .slice ba bl.length bc] 52) (.cells #[.slice a ds.length cap] 25)
  have p4 := block_alloc2 w (.cells #[.slice da dl.length dc, .slice ba bl.length bc] 52) (.cells #[.slice a ds.length cap] 25)
  have hs0 : ((w.alloc (.cells #[.slice da dl.length dc, .slice ba bl.length bc] 52)).alloc (.cells #[.slice a ds.length cap] 25)).heap.size = w.heap.size + 2 := by simp
  have hl0 := hl.no h0 (fun _ => id)
  have hd0 := hd.no h0 (fun _ => id)
  have hb0 := hb.no h0 (fun _ => id)
  go_enter Tryz.func31, Tryz.ntmps31
  go_upto_region 1 with (fail)
  generalize (w.alloc (.cells #[.slice da dl.length dc, .slice ba bl.length bc] 52)).alloc (.cells #[.slice a ds.length cap] 25) = W0 at *
  have d0 : W0.cell? ⟨w.heap.size, 0, none⟩ = some (.slice da dl.length dc) := cell_of_block p3 0
  have Hfx := Lib.hid h0
  clear hl hd hb h0
  go_wp2_with fail
  clear d0
  go_loopw [5, 6] (fun v i wr => ∃ (k : Nat) (A : List Int) (aA : Option Addr) (cA : Nat), k ≤ bl.length ∧ v = .slice aA A.length cA ∧ i = .int .i64 (k : Int) ∧ Hid (Asc A ∧ (∀ y, y ∈ A ↔ y ∈ dl ∨ y ∈ bl.take k)) ∧ A.length ≤ dl.length + k ∧ Ints wr aA cA A ∧ Fr No W0 wr) (fun _ i _ => bl.length - (intOf i).toNat)
  case atStart => exact ⟨0, dl, da, dc, by omega, rfl, rfl, ⟨hdA, fun y => by simp⟩, by omega, hd0, Fr.refl _ _⟩
  case round =>
    obtain ⟨k, A, aA, cA, hk, rfl, rfl, HA, hAl, hI, hfr⟩ := hrel
    obtain ⟨W1, rfl⟩ : ∃ W1, W1 = wr := ⟨_, rfl⟩
    have d1 : W1.cell? ⟨w.heap.size, 1, none⟩ = some (.slice ba bl.length bc) := cell_of_block (hfr.heap p3 id) 1
    have hmA := hI.lenmax
    have hmb := hb0.lenmax
    by_cases hlt : k < bl.length
    · have hlt' : (k : Int) < bl.length := by omega
      obtain ⟨bb, bo, x, hax, hxk, y0⟩ := (hb0.no hfr (fun _ => id)).at hlt
      subst hax
      have hxw := hb0.wf x (List.mem_of_getElem? hxk)
      have Htk := Lib.hid (take_snoc hxk)
      clear hxk
      go_wp2_with fail
      refine (r_with aA cA A x _ hI HA.out.1 (by omega) hxw).mono ?_
      rintro e w2 ⟨a', c', m, rfl, hI2, hm1, hm2, _, hf2⟩
      have HA2 : Hid (Asc m ∧ (∀ y, y ∈ m ↔ y ∈ dl ∨ y ∈ bl.take (k + 1))) := ⟨hm1, fun y => by
        rw [hm2, HA.out.2, Htk.out, List.mem_append, List.mem_singleton, or_assoc]⟩
      have hlen := with_len hm1 hm2
      have H := Lib.hid (And.intro hI2 (hfr.step hf2 (fun _ _ h => h)))
      clear hI2 hf2 hm1 hm2 hI hfr y0 d1
      go_wp2_with fail
      go_roundw
      case rel => exact ⟨k + 1, m, a', c', by omega, rfl, by go_num, HA2, by omega, H.out.1, H.out.2⟩
      case measure => simp [intOf]; omega
    · obtain rfl : k = bl.length := by omega
      rw [List.take_length] at HA
      obtain ⟨w1, rfl⟩ : ∃ w1, w1 = W1 := ⟨_, rfl⟩
      have hs1 := hfr.size
      have q41 := hfr.heap p4 id
      have hl1 := hl0.no hfr (fun _ => id)
      have Hf1 := Lib.hid (Hfx.out.step hfr (fun _ _ h => h))
      clear hl0 hd0 hb0 p3 p4 hfr
      go_wp2_with fail
      clear d1
      go_loopw [7, 8] (fun v i wr => ∃ (k : Nat) (O : List Int) (av : Option Addr) (cv : Nat), k ≤ A.length ∧ Hid (O = keepN ds (A.take k)) ∧ v = .slice av O.length cv ∧ i = .int .i64 (k : Int) ∧ wr.ownsRow w1.heap.size 3 1 (.slice av O.length cv) O.length (O.map (Value.int .i64)) ∧ Fr (From w1.heap.size) w1 wr) (fun _ i _ => A.length - (intOf i).toNat)
      case atStart => exact ⟨0, [], none, 0, by omega, rfl, rfl, rfl, World.ownsRow_nil _ _ _ _, Fr.refl _ _⟩
      case round =>
        obtain ⟨k, O, av, cv, hk, hO1, rfl, rfl, hown, hfr⟩ := hrel
        obtain ⟨W2, rfl⟩ : ∃ W2, W2 = wr := ⟨_, rfl⟩
        have hnl : ∀ b, b < w1.heap.size → ¬ From w1.heap.size b := fun b h1 h2 => by unfold From at h2; omega
        have hOl : O.length ≤ k := by
          have h1 := keepN_len ds A k
          rw [← hO1.out] at h1
          omega
        by_cases hlt : k < A.length
        · have hlt' : (k : Int) < A.length := by omega
          obtain ⟨ob, oo, x, hax, hxk, y0, hoB⟩ := hI.from_at hfr hlt
          subst hax
          have Hn := Lib.hid (keepN_snoc (ds := ds) hxk)
          have hlr : Devs W2 a cap ds := hl1.fr hfr (fun ad e hne hS => by have := (hl1.cell ad e hne).2.1; unfold From at hS; omega)
          have q4r := hfr.heap q41 (hnl _ (by omega))
          have hfr_lt : ob < W2.heap.size := by have h1 := hfr.size; unfold From at hoB; omega
          have Hfr := Lib.hid hfr
          clear hxk hfr
          go_upto_region 10 with (fail)
          go_cut [10] (fun v wx => v = .bool (hasD ds x) ∧ Fr No W2 wx)
          case first =>
            refine region_tree (From W2.heap.size) (.q 0 (.q 1 (.q 2 (.q 3 (.q 4 (.m2 5 (.q 6 (.q 7 (.q 8 (.m1 9 (.m1 10 (.q 11 .fin)))))) 9 (.m1 5 (.q 6 (.q 7 (.q 8 (.m1 10 (.q 11 .fin)))))))))))) _ (by kernel_rfl) (by kernel_rfl) (fun w0 hf0 => ?_) (fun _ _ h => h)
            have hs0 := hf0.size
            have lt4 := lt_of_block q4r
            have lt0 := hfr_lt
            have g3 : ∀ g : Gr (From W2.heap.size) w0, g.W.cell? ⟨w.heap.size + 1, 0, none⟩ = some (.slice a ds.length cap) := fun g => g.fr.cell (cell_of_block (hf0.heap q4r id) 0) (by unfold From; simp only; omega)
            have g0 : ∀ g : Gr (From W2.heap.size) w0, g.W.cell? ⟨ob, oo + k, none⟩ = some (.int .i64 x) := fun g => g.fr.cell (hf0.cell y0 id) (by unfold From; simp only; omega)
            have hl3 := hlr.no hf0 (fun _ => id)
            have hplace : decide (0 ≤ place ds x) = hasD ds x := by
              unfold hasD
              rcases place_look ds x with ⟨h1, h2⟩ | ⟨k, d, h1, h2, h3⟩
              · rw [h1, h2]; rfl
              · rw [h1, h2]; simp
            have Hpl := Lib.hid hplace
            clear y0 q4r hlr hown hplace
            repeat (apply tree_q; exact rfl; exact rfl; exact rfl; intro K hK; go_big_quiet_op; go_big_quiet_on)
            clear g3 g0
            refine tree_m2 rfl rfl ?_ ?_
            · go_wp2_with fail
              refine (ref_find a cap ds x _ hl3).mono ?_
              rintro e w5 ⟨rfl, hf5⟩
              rw [Hpl.out]
              generalize hasD ds x = hx at *
              generalize devOf ds x = dd at *
              unfold Dev.vals
              go_wp2_with fail
              refine OnlyN.mk ⟨hf5.mono (fun _ _ h => h.elim), ?_⟩
              repeat (apply tree_q; exact rfl; exact rfl; exact rfl; intro K hK; go_big_quiet_op; go_big_quiet_on)
              refine tree_m1 rfl ?_
              go_wp2_with fail
              refine OnlyN.mk ⟨(Fr.refl _ _).alloc _, ?_⟩
              refine tree_m1 rfl ?_
              go_wp2_with fail
              refine OnlyN.mk ⟨Fr.swap _ _ _ (by have := hf5.size; unfold From; omega), ?_⟩
              repeat (apply tree_q; exact rfl; exact rfl; exact rfl; intro K hK; go_big_quiet_op; go_big_quiet_on)
              refine tree_end ?_
              go_wp2_with fail
              go_meet
              exact ⟨rfl, (hf0.step hf5 (fun _ _ h => h)).alloc _⟩
            · go_wp2_with fail
              refine OnlyN.mk ⟨(Fr.refl _ _).alloc _, ?_⟩
              generalize hX : w0.alloc (.cells #[.int .i64 0, .int .i64 0, .string ⟨#[]⟩, .string ⟨#[]⟩, .string ⟨#[]⟩, .string ⟨#[]⟩, .string ⟨#[]⟩, .int .i64 0, .int .i64 0, .slice none 0 0] 36) = X
              have hXb : X.heap[w0.heap.size]? = some (.cells #[.int .i64 0, .int .i64 0, .string ⟨#[]⟩, .string ⟨#[]⟩, .string ⟨#[]⟩, .string ⟨#[]⟩, .string ⟨#[]⟩, .int .i64 0, .int .i64 0, .slice none 0 0] 36) := by rw [← hX]; exact block_alloc _ _
              have hXf : Fr No w0 X := by rw [← hX]; exact (Fr.refl _ _).alloc _
              clear hX
              refine tree_m1 rfl ?_
              go_wp2_with fail
              refine (ref_find a cap ds x _ (hl3.no hXf (fun _ => id))).mono ?_
              rintro e w5 ⟨rfl, hf5⟩
              rw [Hpl.out]
              generalize hasD ds x = hx at *
              generalize devOf ds x = dd at *
              unfold Dev.vals
              go_wp2_with fail
              refine OnlyN.mk ⟨hf5.mono (fun _ _ h => h.elim), ?_⟩
              repeat (apply tree_q; exact rfl; exact rfl; exact rfl; intro K hK; go_big_quiet_op; go_big_quiet_on)
              refine tree_m1 rfl ?_
              have hX5 := hf5.heap hXb id
              have z0 : w5.cell? ⟨w0.heap.size, 0, none⟩ = some (.int .i64 0) := cell_of_block hX5 0
              have z1 : w5.cell? ⟨w0.heap.size, 1, none⟩ = some (.int .i64 0) := cell_of_block hX5 1
              have z2 : w5.cell? ⟨w0.heap.size, 2, none⟩ = some (.string ⟨#[]⟩) := cell_of_block hX5 2
              have z3 : w5.cell? ⟨w0.heap.size, 3, none⟩ = some (.string ⟨#[]⟩) := cell_of_block hX5 3
              have z4 : w5.cell? ⟨w0.heap.size, 4, none⟩ = some (.string ⟨#[]⟩) := cell_of_block hX5 4
              have z5 : w5.cell? ⟨w0.heap.size, 5, none⟩ = some (.string ⟨#[]⟩) := cell_of_block hX5 5
              have z6 : w5.cell? ⟨w0.heap.size, 6, none⟩ = some (.string ⟨#[]⟩) := cell_of_block hX5 6
              have z7 : w5.cell? ⟨w0.heap.size, 7, none⟩ = some (.int .i64 0) := cell_of_block hX5 7
              have z8 : w5.cell? ⟨w0.heap.size, 8, none⟩ = some (.int .i64 0) := cell_of_block hX5 8
              have z9 : w5.cell? ⟨w0.heap.size, 9, none⟩ = some (.slice none 0 0) := cell_of_block hX5 9
              have y0 : w5.frozen? ⟨w0.heap.size, 0, none⟩ = false := free_of_block hX5 0
              have y1 : w5.frozen? ⟨w0.heap.size, 1, none⟩ = false := free_of_block hX5 1
              have y2 : w5.frozen? ⟨w0.heap.size, 2, none⟩ = false := free_of_block hX5 2
              have y3 : w5.frozen? ⟨w0.heap.size, 3, none⟩ = false := free_of_block hX5 3
              have y4 : w5.frozen? ⟨w0.heap.size, 4, none⟩ = false := free_of_block hX5 4
              have y5 : w5.frozen? ⟨w0.heap.size, 5, none⟩ = false := free_of_block hX5 5
              have y6 : w5.frozen? ⟨w0.heap.size, 6, none⟩ = false := free_of_block hX5 6
              have y7 : w5.frozen? ⟨w0.heap.size, 7, none⟩ = false := free_of_block hX5 7
              have y8 : w5.frozen? ⟨w0.heap.size, 8, none⟩ = false := free_of_block hX5 8
              have y9 : w5.frozen? ⟨w0.heap.size, 9, none⟩ = false := free_of_block hX5 9
              go_wp2_with fail
              have h10 := set10 hX5 rfl dd
              refine OnlyN.mk ⟨h10.2.mono (fun _ _ h => by unfold Is at h; unfold From; omega), ?_⟩
              repeat (apply tree_q; exact rfl; exact rfl; exact rfl; intro K hK; go_big_quiet_op; go_big_quiet_on)
              refine tree_end ?_
              go_wp2_with fail
              go_meet
              exact ⟨rfl, ((hf0.step hXf (fun _ _ h => h)).step hf5 (fun _ _ h => h)).step h10.2 (fun b hb e => by unfold Is at e; omega)⟩
          case rest =>
            obtain ⟨rfl, hfc⟩ := hcut
            have hy0 := hfc.cell y0 id
            have hown3 := ownsRow_fr hown hfc (fun _ _ => id)
            have Hfc := Lib.hid (Hfr.out.step hfc (fun _ _ h => h.elim))
            have hsc := Hfc.out.size
            have Hn2 : Hid (keepN ds (A.take (k + 1)) = O ++ (if hasD ds x then [] else [x])) := by unfold Hid; rw [Hn.out, ← hO1.out]
            generalize hasD ds x = hx at *
            obtain ⟨W3, rfl⟩ : ∃ W3, W3 = wc := ⟨_, rfl⟩
            clear y0 hown hlr q4r hfc
            cases hx with
            | true =>
              have Hn3 : Hid (O = keepN ds (A.take (k + 1))) := by unfold Hid; rw [Hn2.out]; simp
              have Hown := Lib.hid hown3
              clear hown3
              go_wp2_with fail
              go_roundw
              case rel => exact ⟨k + 1, O, _, _, by omega, Hn3, rfl, by go_num, Hown.out, Hfc.out⟩
              case measure => simp [intOf]; omega
            | false =>
              have Hn3 : Hid (O ++ [x] = keepN ds (A.take (k + 1))) := by unfold Hid; rw [Hn2.out]; simp
              go_wp2_with (at_builtin; refine wpList_append_own _ rfl _ _ 22 rfl w1.heap.size 3 i0 (.int .i64 0) 1 8 Tryz.underlying22 hi0 hz0 hz1 hz2 rfl (by decide) _ _ _ rfl (hown3.alloc _) ⟨W3.heap.size, 0, none⟩ 1 1 [.int .i64 x] rfl rfl (cell_one_new _ _ _) (ints_one2 [x]) (by unfold maxLen; omega) (by omega) (by simp; omega) ?_; intro v' w7 hown7 hgrow7 _; obtain ⟨av', cv', rfl⟩ := ownsRow_slice hown7)
              have hg7 : Fr (From w1.heap.size) W3 w7 := grown_fr hown3 hgrow7
              have Hg7 := Lib.hid (Hfc.out.step hg7 (fun _ _ h => h))
              have Hown7 : Hid (w7.ownsRow w1.heap.size 3 1 (.slice av' (O ++ [x]).length cv') (O ++ [x]).length ((O ++ [x]).map (Value.int .i64))) := by
                unfold Hid; simpa using hown7
              have hll : O.length + 1 = (O ++ [x]).length := by simp
              clear hg7 hown7 hgrow7 hown3
              go_roundw
              case rel => exact ⟨k + 1, O ++ [x], av', cv', by omega, Hn3, by rw [← hll], by go_num, Hown7.out, Hg7.out⟩
              case measure => simp [intOf]; omega
        · obtain rfl : k = A.length := by omega
          have e : O = keepN ds A := by rw [hO1.out, List.take_length]
          obtain ⟨a', c', hv', hI', hfresh⟩ := Ints.of_own hown (fun y hy => by
            rw [e] at hy
            exact hI.wf y (List.mem_filter.1 hy).1)
          cases hv'
          have H := Lib.hid (And.intro hI' (Hf1.out.step hfr (fun b hb h => by have := Hf1.out.size; unfold From at h; omega)))
          have HA3 : Hid (Asc O ∧ ∀ x, x ∈ O ↔ (x ∈ dl ∨ x ∈ bl) ∧ hasD ds x = false) := by
            refine ⟨?_, fun x => ?_⟩
            · rw [e]; exact List.Pairwise.sublist (keepN_sub ds A) HA.out.1
            · rw [e]; unfold keepN; rw [List.mem_filter, HA.out.2]; simp
          clear hown hfr hI' hfresh e
          go_wp2_with fail
          go_ret
          exact ⟨⟨_, _, O, rfl, H.out.1, HA3.out.1, HA3.out.2⟩, H.out.2⟩
end Go.Proofs.YtanaompgapiikaaGreatDoor
/- The law's records: a row of plain records. -/
namespace Go.Proofs.YtanaompgapiikaaGreatDoor
open Go.RowKit Go.Maps Go.Sort Go.Shelf
set_option linter.unusedVariables false

theorem set12 {W : World} {b : Nat} {cs : Array Value} {T : TypeId} (h : W.heap[b]? = some (.cells cs T)) (hs : cs.size = 12) (r : Rec) :
    ((((((((((((W.setCell ⟨b, 0, none⟩ (.string r.path)).setCell ⟨b, 1, none⟩ (.int .i64 r.index)).setCell ⟨b, 2, none⟩ (.slice r.pa r.props.length r.pc)).setCell ⟨b, 3, none⟩ (.slice r.ta r.tags.length r.tc)).setCell ⟨b, 4, none⟩ (.slice r.la r.ln r.lc)).setCell ⟨b, 5, none⟩ (.slice r.ra r.rn r.rc)).setCell ⟨b, 6, none⟩ (.slice r.oa r.on r.oc)).setCell ⟨b, 7, none⟩ (.string r.name)).setCell ⟨b, 8, none⟩ (.int .i64 r.prio)).setCell ⟨b, 9, none⟩ (.string r.owner)).setCell ⟨b, 10, none⟩ (.string r.group)).setCell ⟨b, 11, none⟩ (.int .i64 r.mode)).heap[b]? = some (.cells r.vals T) ∧ Fr (Is b) W ((((((((((((W.setCell ⟨b, 0, none⟩ (.string r.path)).setCell ⟨b, 1, none⟩ (.int .i64 r.index)).setCell ⟨b, 2, none⟩ (.slice r.pa r.props.length r.pc)).setCell ⟨b, 3, none⟩ (.slice r.ta r.tags.length r.tc)).setCell ⟨b, 4, none⟩ (.slice r.la r.ln r.lc)).setCell ⟨b, 5, none⟩ (.slice r.ra r.rn r.rc)).setCell ⟨b, 6, none⟩ (.slice r.oa r.on r.oc)).setCell ⟨b, 7, none⟩ (.string r.name)).setCell ⟨b, 8, none⟩ (.int .i64 r.prio)).setCell ⟨b, 9, none⟩ (.string r.owner)).setCell ⟨b, 10, none⟩ (.string r.group)).setCell ⟨b, 11, none⟩ (.int .i64 r.mode)) := by
  refine ⟨?_, Fr.setAt (Fr.setAt (Fr.setAt (Fr.setAt (Fr.setAt (Fr.setAt (Fr.setAt (Fr.setAt (Fr.setAt (Fr.setAt (Fr.setAt (Fr.setAt (Fr.refl _ _) _) _) _) _) _) _) _) _) _) _) _) _⟩
  obtain ⟨l⟩ := cs
  match l, hs with
  | [_, _, _, _, _, _, _, _, _, _, _, _], _ =>
    have h0 := block_setCell h 0 (.string r.path)
    have h1 := block_setCell h0 1 (.int .i64 r.index)
    have h2 := block_setCell h1 2 (.slice r.pa r.props.length r.pc)
    have h3 := block_setCell h2 3 (.slice r.ta r.tags.length r.tc)
    have h4 := block_setCell h3 4 (.slice r.la r.ln r.lc)
    have h5 := block_setCell h4 5 (.slice r.ra r.rn r.rc)
    have h6 := block_setCell h5 6 (.slice r.oa r.on r.oc)
    have h7 := block_setCell h6 7 (.string r.name)
    have h8 := block_setCell h7 8 (.int .i64 r.prio)
    have h9 := block_setCell h8 9 (.string r.owner)
    have h10 := block_setCell h9 10 (.string r.group)
    have h11 := block_setCell h10 11 (.int .i64 r.mode)
    simp only [List.setIfInBounds_toArray, List.set_cons_zero, List.set_cons_succ] at h11
    exact h11

/-- A record with a path and an Index, and nothing else. -/
def rec0 (p : ByteArray) (i : Int) : Rec := ⟨p, i, [], [], none, 0, none, 0, none, 0, 0, none, 0, 0, none, 0, 0, ⟨#[]⟩, 0, ⟨#[]⟩, ⟨#[]⟩, 0⟩
theorem rec0_ok (p : ByteArray) (i : Int) (w : World) : RecOk w (rec0 p i) := ⟨Atts.nil w, Strs.nil w⟩
def Rok (R : List Rec) : Prop := ∀ r ∈ R, ∃ p i, r = rec0 p i ∧ 0 ≤ i ∧ i ≤ 1073741825
theorem Rok.snoc {R : List Rec} (h : Rok R) {p : ByteArray} {i : Int} (h1 : 0 ≤ i) (h2 : i ≤ 1073741825) : Rok (R ++ [rec0 p i]) := by
  intro r hr
  rcases List.mem_append.1 hr with hr | hr
  · exact h r hr
  · simp at hr; exact ⟨p, i, hr, h1, h2⟩
theorem Rok.ok {R : List Rec} (h : Rok R) (w : World) : ∀ r ∈ R, RecOk w r := fun r hr => by
  obtain ⟨p, i, rfl, _⟩ := h r hr; exact rec0_ok p i w
theorem Rok.wf {R : List Rec} (h : Rok R) : ∀ r ∈ R, (Lit.int .i64 r.index).wf = true := fun r hr => by
  obtain ⟨p, i, rfl, h1, h2⟩ := h r hr; exact WalkArith.wf_i64 (by show -9223372036854775808 ≤ i ∧ i ≤ 9223372036854775807; omega)
theorem ownsRow_ne {w w1 : World} {base : Nat} {e : TypeId} {size : Nat} {v : Value} {n : Nat} {xs : List Value} (h : w.ownsRow base e size v n xs) {S : Nat → Prop} (hf : Fr S w w1) (hS : ∀ b, v.ownBlock = some b → ¬ S b) : w1.ownsRow base e size v n xs :=
  ownsRow_at h hf hS

theorem own_in {w : World} {base : Nat} {e : TypeId} {size : Nat} {a : Option Addr} {n c : Nat} {xs : List Value} (h : w.ownsRow base e size (.slice a n c) n xs) : ∀ ad, a = some ad → base ≤ ad.block ∧ ad.block < w.heap.size := by
  intro ad e
  obtain ⟨_, ⟨h1, _⟩ | ⟨g, cap, cur, h1, hg, hb, _⟩⟩ := h
  · cases h1; cases e
  · cases h1; cases e; exact ⟨hg, lt_of_block hb⟩

set_option maxRecDepth 100000 in
set_option maxHeartbeats 4000000 in
theorem law_records (B tb k0 : Nat) (a : Option Addr) (cap : Nat) (ds : List Dev) (w : World) (ht : Tape w B tb k0) (hk : k0 ≤ 1000000) (hl : Devs w a cap ds) (hT : TreeOk ds) (hn : ds.length ≤ 1000) (hat : ∀ ad, a = some ad → ds ≠ [] → ad.block ≠ tb) :
    Calls Tryz.prog 25 #[.pointer (some ⟨tb, 0, none⟩), .agg #[.slice a ds.length cap]] w fun e w' => (∃ ra rc R k', e = .returned (.slice ra (List.length R) rc) ∧ Recs w' ra rc R ∧ R.length ≤ ds.length ∧ Rok R ∧ k' ≤ k0 + ds.length ∧ Tape w' B tb k' ∧ ∀ ad, ra = some ad → w.heap.size ≤ ad.block ∧ ad.block < w'.heap.size) ∧ Fr (Is tb) w w' := by
  obtain ⟨i0, hi0, hz0, hz1, hz2⟩ := info_parts infoR
  have hm := hl.lenmax
  have ltb := ht.lt
  have leB := ht.le
  have h0 : Fr No w (w.alloc (.cells #[.slice a ds.length cap] 25)) := (Fr.refl _ _).alloc _
  have q3 := block_alloc w (.cells #[.slice a ds.length cap] 25)
  have hs0 : (w.alloc (.cells #[.slice a ds.length cap] 25)).heap.size = w.heap.size + 1 := by simp
  have hl1 := hl.no h0 (fun _ => id)
  have ht1 := ht.fr h0 (fun _ _ => id) id
  have Hfx := Lib.hid h0
  go_enter Tryz.func25, Tryz.ntmps25
  go_wp2_with fail
  generalize w.alloc (.cells #[.slice a ds.length cap] 25) = w1 at *
  clear hl h0 ht
  go_loopw [5, 6] (fun v i wr => ∃ (k : Nat) (R : List Rec) (av : Option Addr) (cv : Nat) (kk : Nat), k ≤ ds.length ∧ v = .slice av R.length cv ∧ i = .int .i64 (k : Int) ∧ kk ≤ k0 + k ∧ Hid (Rok R) ∧ R.length ≤ k ∧ Tape wr B tb kk ∧ wr.ownsRow w1.heap.size 46 12 (.slice av R.length cv) R.length (rflat R) ∧ Fr (TB tb w1.heap.size) w1 wr) (fun _ i _ => ds.length - (intOf i).toNat)
  case atStart => exact ⟨0, [], none, 0, k0, by omega, rfl, rfl, by omega, (fun r hr => by simp at hr), by simp, ht1, World.ownsRow_nil _ _ _ _, Fr.refl _ _⟩
  case round =>
    obtain ⟨k, R, av, cv, kk, hk1, rfl, rfl, hkk, HR, hRl, htr, hown, hfr⟩ := hrel
    obtain ⟨W2, rfl⟩ : ∃ W2, W2 = wr := ⟨_, rfl⟩
    have hnl : ∀ b, b < w1.heap.size → b ≠ tb → ¬ TB tb w1.heap.size b := fun b h1 h2 h3 => by unfold TB at h3; omega
    have q4r := hfr.heap q3 (hnl _ (by omega) (by omega))
    have c4 : W2.cell? ⟨w.heap.size, 0, none⟩ = some (.slice a ds.length cap) := cell_of_block q4r 0
    have hsr := hfr.size
    by_cases hlt : k < ds.length
    · have hlt' : (k : Int) < ds.length := by omega
      have hlr : Devs W2 a cap ds := hl1.fr hfr (fun ad e hne => hnl _ (hl1.cell ad e hne).2.1 (hat ad e hne))
      obtain ⟨bb, off, x, hax, hxk, y0, _, _, _, _, _, _, _, _, _⟩ := hlr.dev hlt
      have hbl := (hlr.cell _ hax (by intro e; rw [e] at hlt; simp at hlt)).2.1
      have hlr' := hlr
      rw [hax] at hlr
      have hix := hT.ix x (List.mem_of_getElem? hxk)
      have Hax := Lib.hid hax
      have Hfr := Lib.hid hfr
      rw [hax] at c4 q4r
      clear hxk hfr hax
      simp only at hbl
      go_upto_region 5 with (fail)
      go_cut [7] (fun v wc => ∃ b7, v = .pointer (some ⟨b7, 0, none⟩) ∧ wc.heap[b7]? = some (.cells (rec0 (pathOf (origin ds x.index)) x.index).vals 46) ∧ W2.heap.size ≤ b7 ∧ Fr No W2 wc)
      case first =>
        refine region_tree (From W2.heap.size) (.q 0 (.q 1 (.q 2 (.q 3 (.q 4 (.q 5 (.q 6 (.q 8 (.q 9 (.q 10 (.q 11 (.q 12 (.q 13 (.m2 7 (.q 14 (.m1 15 (.m1 16 .fin))) 15 (.m1 7 (.q 14 (.m1 16 .fin))))))))))))))))) _ (by kernel_rfl) (by kernel_rfl) (fun w0 hf0 => ?_) (fun _ _ h => h)
        have hs9 := hf0.size
        have lt4 := lt_of_block q4r
        have g3 : ∀ g : Gr (From W2.heap.size) w0, g.W.cell? ⟨w.heap.size, 0, none⟩ = some (.slice (some ⟨bb, off, none⟩) ds.length cap) := fun g => g.fr.cell (cell_of_block (hf0.heap q4r id) 0) (by unfold From; simp only; omega)
        have g0 : ∀ g : Gr (From W2.heap.size) w0, g.W.cell? ⟨bb, off + k * 10, none⟩ = some (.int .i64 x.index) := fun g => g.fr.cell (hf0.cell y0 id) (by unfold From; simp only; omega)
        have hl3 := hlr.no hf0 (fun _ => id)
        have Hf0 := Lib.hid hf0
        obtain ⟨rx, hrx⟩ : ∃ rx, rx = rec0 (pathOf (origin ds x.index)) x.index := ⟨_, rfl⟩
        have Hrx := Lib.hid hrx
        clear y0 q4r hlr hlr' hown hf0 hrx c4
        repeat (apply tree_q; exact rfl; exact rfl; exact rfl; intro K hK; go_big_quiet_op; go_big_quiet_on)
        clear g3 g0
        refine tree_m2 rfl rfl ?_ ?_
        · go_wp2_with fail
          refine (ref_place _ cap ds x.index _ hl3 hT (by omega)).mono ?_
          rintro e w5 ⟨rfl, hf5⟩
          generalize hpp : pathOf (origin ds x.index) = pp at *
          go_wp2_with fail
          refine OnlyN.mk ⟨hf5.mono (fun _ _ h => h.elim), ?_⟩
          repeat (apply tree_q; exact rfl; exact rfl; exact rfl; intro K hK; go_big_quiet_op; go_big_quiet_on)
          refine tree_m1 rfl ?_
          go_wp2_with fail
          refine OnlyN.mk ⟨(Fr.refl _ _).alloc _, ?_⟩
          refine tree_m1 rfl ?_
          go_wp2_with fail
          refine OnlyN.mk ⟨Fr.swap _ _ _ (by have := hf5.size; unfold From; omega), ?_⟩
          refine tree_end ?_
          go_wp2_with fail
          go_meet
          exact ⟨w5.heap.size, rfl, block_alloc _ _, by have := hf5.size; omega, (Hf0.out.step hf5 (fun _ _ h => h)).alloc _⟩
        · go_wp2_with fail
          refine OnlyN.mk ⟨(Fr.refl _ _).alloc _, ?_⟩
          generalize hX : w0.alloc (.cells #[.string ⟨#[]⟩, .int .i64 0, .slice none 0 0, .slice none 0 0, .slice none 0 0, .slice none 0 0, .slice none 0 0, .string ⟨#[]⟩, .int .i64 0, .string ⟨#[]⟩, .string ⟨#[]⟩, .int .i64 0] 46) = X
          have hXb : X.heap[w0.heap.size]? = some (.cells #[.string ⟨#[]⟩, .int .i64 0, .slice none 0 0, .slice none 0 0, .slice none 0 0, .slice none 0 0, .slice none 0 0, .string ⟨#[]⟩, .int .i64 0, .string ⟨#[]⟩, .string ⟨#[]⟩, .int .i64 0] 46) := by rw [← hX]; exact block_alloc _ _
          have hXf : Fr No w0 X := by rw [← hX]; exact (Fr.refl _ _).alloc _
          clear hX
          refine tree_m1 rfl ?_
          go_wp2_with fail
          refine (ref_place _ cap ds x.index _ (hl3.no hXf (fun _ => id)) hT (by omega)).mono ?_
          rintro e w5 ⟨rfl, hf5⟩
          generalize hpp : pathOf (origin ds x.index) = pp at *
          go_wp2_with fail
          refine OnlyN.mk ⟨hf5.mono (fun _ _ h => h.elim), ?_⟩
          repeat (apply tree_q; exact rfl; exact rfl; exact rfl; intro K hK; go_big_quiet_op; go_big_quiet_on)
          refine tree_m1 rfl ?_
          have hX5 := hf5.heap hXb id
          have z0 : w5.cell? ⟨w0.heap.size, 0, none⟩ = some (.string ⟨#[]⟩) := cell_of_block hX5 0
          have z1 : w5.cell? ⟨w0.heap.size, 1, none⟩ = some (.int .i64 0) := cell_of_block hX5 1
          have z2 : w5.cell? ⟨w0.heap.size, 2, none⟩ = some (.slice none 0 0) := cell_of_block hX5 2
          have z3 : w5.cell? ⟨w0.heap.size, 3, none⟩ = some (.slice none 0 0) := cell_of_block hX5 3
          have z4 : w5.cell? ⟨w0.heap.size, 4, none⟩ = some (.slice none 0 0) := cell_of_block hX5 4
          have z5 : w5.cell? ⟨w0.heap.size, 5, none⟩ = some (.slice none 0 0) := cell_of_block hX5 5
          have z6 : w5.cell? ⟨w0.heap.size, 6, none⟩ = some (.slice none 0 0) := cell_of_block hX5 6
          have z7 : w5.cell? ⟨w0.heap.size, 7, none⟩ = some (.string ⟨#[]⟩) := cell_of_block hX5 7
          have z8 : w5.cell? ⟨w0.heap.size, 8, none⟩ = some (.int .i64 0) := cell_of_block hX5 8
          have z9 : w5.cell? ⟨w0.heap.size, 9, none⟩ = some (.string ⟨#[]⟩) := cell_of_block hX5 9
          have z10 : w5.cell? ⟨w0.heap.size, 10, none⟩ = some (.string ⟨#[]⟩) := cell_of_block hX5 10
          have z11 : w5.cell? ⟨w0.heap.size, 11, none⟩ = some (.int .i64 0) := cell_of_block hX5 11
          have y0 : w5.frozen? ⟨w0.heap.size, 0, none⟩ = false := free_of_block hX5 0
          have y1 : w5.frozen? ⟨w0.heap.size, 1, none⟩ = false := free_of_block hX5 1
          have y2 : w5.frozen? ⟨w0.heap.size, 2, none⟩ = false := free_of_block hX5 2
          have y3 : w5.frozen? ⟨w0.heap.size, 3, none⟩ = false := free_of_block hX5 3
          have y4 : w5.frozen? ⟨w0.heap.size, 4, none⟩ = false := free_of_block hX5 4
          have y5 : w5.frozen? ⟨w0.heap.size, 5, none⟩ = false := free_of_block hX5 5
          have y6 : w5.frozen? ⟨w0.heap.size, 6, none⟩ = false := free_of_block hX5 6
          have y7 : w5.frozen? ⟨w0.heap.size, 7, none⟩ = false := free_of_block hX5 7
          have y8 : w5.frozen? ⟨w0.heap.size, 8, none⟩ = false := free_of_block hX5 8
          have y9 : w5.frozen? ⟨w0.heap.size, 9, none⟩ = false := free_of_block hX5 9
          have y10 : w5.frozen? ⟨w0.heap.size, 10, none⟩ = false := free_of_block hX5 10
          have y11 : w5.frozen? ⟨w0.heap.size, 11, none⟩ = false := free_of_block hX5 11
          go_wp2_with fail
          have h12 := set12 hX5 rfl (rec0 pp x.index)
          unfold rec0 at h12
          refine OnlyN.mk ⟨h12.2.mono (fun _ _ h => by unfold Is at h; unfold From; omega), ?_⟩
          refine tree_end ?_
          go_wp2_with fail
          go_meet
          exact ⟨w0.heap.size, rfl, h12.1, by omega, ((Hf0.out.step hXf (fun _ _ h => h)).step hf5 (fun _ _ h => h)).step h12.2 (fun b hb e => by unfold Is at e; omega)⟩
      case rest =>
        obtain ⟨b7, rfl, q7, hb7, hfc⟩ := hcut
        obtain ⟨W3, rfl⟩ : ∃ W3, W3 = wc := ⟨_, rfl⟩
        have lt7 := lt_of_block q7
        have ht3 := htr.fr hfc (fun _ _ => id) id
        have hown3 := ownsRow_fr hown hfc (fun _ _ => id)
        have hrowl : ∀ b, (Value.slice av R.length cv).ownBlock = some b → b < W2.heap.size := fun b hb => ownsRow_lt hown hb
        have hrow1 : ∀ b, (Value.slice av R.length cv).ownBlock = some b → b ≠ tb := fun b hb e => by have := ownsRow_blk hown hb; have := ht1.lt; unfold From at *; omega
        have ltb3 := htr.lt
        have Hfc := Lib.hid (Hfr.out.step hfc (fun _ _ h => h.elim))
        have hsc := hfc.size
        generalize pathOf (origin ds x.index) = pp at *
        clear y0 q4r hlr hlr' hown hfc htr c4
        go_wp2_with fail
        refine (tape_next B tb kk 8 _ ht3 (by omega) (by omega) (by omega)).mono ?_
        rintro e w4 ⟨r, rfl, hr1, hr2, ht4, hf4⟩
        have q74 := hf4.heap q7 (fun h => by unfold Is at h; omega)
        have hown4 := ownsRow_ne hown3 hf4 (fun b hb h => hrow1 b hb h)
        have hb7n : ∀ b, (Value.slice av R.length cv).ownBlock = some b → b ≠ b7 := fun b hb e => by have := hrowl b hb; omega
        have Hfc4 := Lib.hid (Hfc.out.step hf4 (fun b hb h => by unfold Is at h; exact .inl h))
        have hs4 := hf4.size
        have hleW : w1.heap.size ≤ w4.heap.size := by omega
        clear hown3 ht3 q7 hf4
        unfold Rec.vals rec0 at q74
        by_cases hr0 : r = 0
        · subst hr0
          have Hown := Lib.hid hown4
          clear hown4
          go_wp2_with fail
          go_roundw
          case rel => exact ⟨k + 1, R, av, cv, kk + 1, by omega, rfl, by go_num, by omega, HR, by omega, ht4, Hown.out, Hfc4.out⟩
          case measure => simp [intOf]; omega
        have e0 : (r == 0) = false := by simpa using hr0
        by_cases hr1' : r = 1
        · subst hr1'
          have y1 : w4.cell? ⟨b7, 1, none⟩ = some (.int .i64 x.index) := cell_of_block q74 1
          have f1 : w4.frozen? ⟨b7, 1, none⟩ = false := free_of_block q74 1
          have q5 : (w4.setCell ⟨b7, 1, none⟩ (.int .i64 (x.index + 1))).heap[b7]? = some (.cells #[.string pp, .int .i64 (x.index + 1), .slice none 0 0, .slice none 0 0, .slice none 0 0, .slice none 0 0, .slice none 0 0, .string ⟨#[]⟩, .int .i64 0, .string ⟨#[]⟩, .string ⟨#[]⟩, .int .i64 0] 46) := (block_setCell q74 1 _).trans rfl
          have hf5 : Fr (Is b7) w4 (w4.setCell ⟨b7, 1, none⟩ (.int .i64 (x.index + 1))) := Fr.setAt (Fr.refl _ _) _
          go_upto_region 12 with (fail)
          generalize w4.setCell ⟨b7, 1, none⟩ (.int .i64 (x.index + 1)) = W5 at *
          have hown5 := ownsRow_ne hown4 hf5 (fun b hb h => hb7n b hb h)
          have hs5 := hf5.size
          have z0 : W5.cell? ⟨b7, 0, none⟩ = some (.string pp) := cell_of_block q5 0
          have z1 : W5.cell? ⟨b7, 1, none⟩ = some (.int .i64 (x.index + 1)) := cell_of_block q5 1
          have z2 : W5.cell? ⟨b7, 2, none⟩ = some (.slice none 0 0) := cell_of_block q5 2
          have z3 : W5.cell? ⟨b7, 3, none⟩ = some (.slice none 0 0) := cell_of_block q5 3
          have z4 : W5.cell? ⟨b7, 4, none⟩ = some (.slice none 0 0) := cell_of_block q5 4
          have z5 : W5.cell? ⟨b7, 5, none⟩ = some (.slice none 0 0) := cell_of_block q5 5
          have z6 : W5.cell? ⟨b7, 6, none⟩ = some (.slice none 0 0) := cell_of_block q5 6
          have z7 : W5.cell? ⟨b7, 7, none⟩ = some (.string ⟨#[]⟩) := cell_of_block q5 7
          have z8 : W5.cell? ⟨b7, 8, none⟩ = some (.int .i64 0) := cell_of_block q5 8
          have z9 : W5.cell? ⟨b7, 9, none⟩ = some (.string ⟨#[]⟩) := cell_of_block q5 9
          have z10 : W5.cell? ⟨b7, 10, none⟩ = some (.string ⟨#[]⟩) := cell_of_block q5 10
          have z11 : W5.cell? ⟨b7, 11, none⟩ = some (.int .i64 0) := cell_of_block q5 11
          go_wp2_with (at_builtin; refine wpList_append_own _ rfl _ _ 37 rfl w1.heap.size 46 i0 (.agg #[.string ByteArray.empty, .int .i64 0, .slice none 0 0, .slice none 0 0, .slice none 0 0, .slice none 0 0, .slice none 0 0, .string ByteArray.empty, .int .i64 0, .string ByteArray.empty, .string ByteArray.empty, .int .i64 0]) 12 208 Tryz.underlying37 hi0 hz0 hz1 hz2 rfl (by decide) _ _ _ rfl (hown5.alloc _) ⟨W5.heap.size, 0, none⟩ 1 1 [.string pp, .int .i64 (x.index + 1), .slice none 0 0, .slice none 0 0, .slice none 0 0, .slice none 0 0, .slice none 0 0, .string ⟨#[]⟩, .int .i64 0, .string ⟨#[]⟩, .string ⟨#[]⟩, .int .i64 0] rfl rfl (cells_new _ _ _ rfl) (rvals_one (rec0 (pp) (x.index + 1))) (by unfold maxLen; omega) (by omega) (by simp; omega) ?_; intro v' w7 hown7 hgrow7 _; obtain ⟨av', cv', rfl⟩ := ownsRow_slice hown7)
          have hg7 : Fr (From w1.heap.size) W5 w7 := grown_fr hown5 hgrow7
          have Hg7 := Lib.hid (((Hfc4.out.step hf5 (fun b hb h => by unfold Is at h; unfold TB; omega)).step hg7 (fun b hb h => by unfold From at h; unfold TB; omega)))
          have Hown7 : Hid (w7.ownsRow w1.heap.size 46 12 (.slice av' (R ++ [rec0 (pp) (x.index + 1)]).length cv') (R ++ [rec0 (pp) (x.index + 1)]).length (rflat (R ++ [rec0 (pp) (x.index + 1)]))) := by
            unfold Hid; rw [rflat_snoc, List.length_append]; exact hown7
          have hll : R.length + 1 = (R ++ [rec0 (pp) (x.index + 1)]).length := by simp
          have Hok7 : Hid (Rok (R ++ [rec0 (pp) (x.index + 1)])) := Rok.snoc HR.out (by omega) (by omega)
          have Ht7 : Hid (Tape w7 B tb (kk + 1)) := (ht4.fr hf5 (fun b hb h => by unfold Is at h; omega) (fun h => by unfold Is at h; omega)).fr hg7 (fun b hb h => by unfold From at h; omega) (fun h => by unfold From at h; omega)
          clear hg7 hown7 hgrow7 hown5 hf5 q5 ht4 z0 z1 z2 z3 z4 z5 z6 z7 z8 z9 z10 z11
          go_roundw
          case rel => exact ⟨k + 1, R ++ [rec0 (pp) (x.index + 1)], av', cv', kk + 1, by omega, by rw [← hll], by go_num, by omega, Hok7, by rw [← hll]; omega, Ht7.out, Hown7.out, Hg7.out⟩
          case measure => simp [intOf]; omega
        have e1 : (r == 1) = false := by simpa using hr1'
        by_cases hr2' : r = 2
        · subst hr2'
          have y1 : w4.cell? ⟨b7, 0, none⟩ = some (.string pp) := cell_of_block q74 0
          have f1 : w4.frozen? ⟨b7, 0, none⟩ = false := free_of_block q74 0
          have q5 : (w4.setCell ⟨b7, 0, none⟩ (.string ⟨#[47, 111, 116, 104, 101, 114]⟩)).heap[b7]? = some (.cells #[.string ⟨#[47, 111, 116, 104, 101, 114]⟩, .int .i64 x.index, .slice none 0 0, .slice none 0 0, .slice none 0 0, .slice none 0 0, .slice none 0 0, .string ⟨#[]⟩, .int .i64 0, .string ⟨#[]⟩, .string ⟨#[]⟩, .int .i64 0] 46) := (block_setCell q74 0 _).trans rfl
          have hf5 : Fr (Is b7) w4 (w4.setCell ⟨b7, 0, none⟩ (.string ⟨#[47, 111, 116, 104, 101, 114]⟩)) := Fr.setAt (Fr.refl _ _) _
          go_upto_region 12 with (fail)
          generalize w4.setCell ⟨b7, 0, none⟩ (.string ⟨#[47, 111, 116, 104, 101, 114]⟩) = W5 at *
          have hown5 := ownsRow_ne hown4 hf5 (fun b hb h => hb7n b hb h)
          have hs5 := hf5.size
          have z0 : W5.cell? ⟨b7, 0, none⟩ = some (.string ⟨#[47, 111, 116, 104, 101, 114]⟩) := cell_of_block q5 0
          have z1 : W5.cell? ⟨b7, 1, none⟩ = some (.int .i64 (x.index)) := cell_of_block q5 1
          have z2 : W5.cell? ⟨b7, 2, none⟩ = some (.slice none 0 0) := cell_of_block q5 2
          have z3 : W5.cell? ⟨b7, 3, none⟩ = some (.slice none 0 0) := cell_of_block q5 3
          have z4 : W5.cell? ⟨b7, 4, none⟩ = some (.slice none 0 0) := cell_of_block q5 4
          have z5 : W5.cell? ⟨b7, 5, none⟩ = some (.slice none 0 0) := cell_of_block q5 5
          have z6 : W5.cell? ⟨b7, 6, none⟩ = some (.slice none 0 0) := cell_of_block q5 6
          have z7 : W5.cell? ⟨b7, 7, none⟩ = some (.string ⟨#[]⟩) := cell_of_block q5 7
          have z8 : W5.cell? ⟨b7, 8, none⟩ = some (.int .i64 0) := cell_of_block q5 8
          have z9 : W5.cell? ⟨b7, 9, none⟩ = some (.string ⟨#[]⟩) := cell_of_block q5 9
          have z10 : W5.cell? ⟨b7, 10, none⟩ = some (.string ⟨#[]⟩) := cell_of_block q5 10
          have z11 : W5.cell? ⟨b7, 11, none⟩ = some (.int .i64 0) := cell_of_block q5 11
          go_wp2_with (at_builtin; refine wpList_append_own _ rfl _ _ 37 rfl w1.heap.size 46 i0 (.agg #[.string ByteArray.empty, .int .i64 0, .slice none 0 0, .slice none 0 0, .slice none 0 0, .slice none 0 0, .slice none 0 0, .string ByteArray.empty, .int .i64 0, .string ByteArray.empty, .string ByteArray.empty, .int .i64 0]) 12 208 Tryz.underlying37 hi0 hz0 hz1 hz2 rfl (by decide) _ _ _ rfl (hown5.alloc _) ⟨W5.heap.size, 0, none⟩ 1 1 [.string ⟨#[47, 111, 116, 104, 101, 114]⟩, .int .i64 x.index, .slice none 0 0, .slice none 0 0, .slice none 0 0, .slice none 0 0, .slice none 0 0, .string ⟨#[]⟩, .int .i64 0, .string ⟨#[]⟩, .string ⟨#[]⟩, .int .i64 0] rfl rfl (cells_new _ _ _ rfl) (rvals_one (rec0 (⟨#[47, 111, 116, 104, 101, 114]⟩) (x.index))) (by unfold maxLen; omega) (by omega) (by simp; omega) ?_; intro v' w7 hown7 hgrow7 _; obtain ⟨av', cv', rfl⟩ := ownsRow_slice hown7)
          have hg7 : Fr (From w1.heap.size) W5 w7 := grown_fr hown5 hgrow7
          have Hg7 := Lib.hid (((Hfc4.out.step hf5 (fun b hb h => by unfold Is at h; unfold TB; omega)).step hg7 (fun b hb h => by unfold From at h; unfold TB; omega)))
          have Hown7 : Hid (w7.ownsRow w1.heap.size 46 12 (.slice av' (R ++ [rec0 (⟨#[47, 111, 116, 104, 101, 114]⟩) (x.index)]).length cv') (R ++ [rec0 (⟨#[47, 111, 116, 104, 101, 114]⟩) (x.index)]).length (rflat (R ++ [rec0 (⟨#[47, 111, 116, 104, 101, 114]⟩) (x.index)]))) := by
            unfold Hid; rw [rflat_snoc, List.length_append]; exact hown7
          have hll : R.length + 1 = (R ++ [rec0 (⟨#[47, 111, 116, 104, 101, 114]⟩) (x.index)]).length := by simp
          have Hok7 : Hid (Rok (R ++ [rec0 (⟨#[47, 111, 116, 104, 101, 114]⟩) (x.index)])) := Rok.snoc HR.out (by omega) (by omega)
          have Ht7 : Hid (Tape w7 B tb (kk + 1)) := (ht4.fr hf5 (fun b hb h => by unfold Is at h; omega) (fun h => by unfold Is at h; omega)).fr hg7 (fun b hb h => by unfold From at h; omega) (fun h => by unfold From at h; omega)
          clear hg7 hown7 hgrow7 hown5 hf5 q5 ht4 z0 z1 z2 z3 z4 z5 z6 z7 z8 z9 z10 z11
          go_roundw
          case rel => exact ⟨k + 1, R ++ [rec0 (⟨#[47, 111, 116, 104, 101, 114]⟩) (x.index)], av', cv', kk + 1, by omega, by rw [← hll], by go_num, by omega, Hok7, by rw [← hll]; omega, Ht7.out, Hown7.out, Hg7.out⟩
          case measure => simp [intOf]; omega
        have e2 : (r == 2) = false := by simpa using hr2'
        have q5 : (w4).heap[b7]? = some (.cells #[.string pp, .int .i64 x.index, .slice none 0 0, .slice none 0 0, .slice none 0 0, .slice none 0 0, .slice none 0 0, .string ⟨#[]⟩, .int .i64 0, .string ⟨#[]⟩, .string ⟨#[]⟩, .int .i64 0] 46) := q74
        have hf5 : Fr (Is b7) w4 (w4) := Fr.refl _ _
        go_upto_region 12 with (fail)
        obtain ⟨W5, rfl⟩ : ∃ W5, W5 = w4 := ⟨_, rfl⟩
        have hown5 := ownsRow_ne hown4 hf5 (fun b hb h => hb7n b hb h)
        have hs5 := hf5.size
        have z0 : W5.cell? ⟨b7, 0, none⟩ = some (.string pp) := cell_of_block q5 0
        have z1 : W5.cell? ⟨b7, 1, none⟩ = some (.int .i64 (x.index)) := cell_of_block q5 1
        have z2 : W5.cell? ⟨b7, 2, none⟩ = some (.slice none 0 0) := cell_of_block q5 2
        have z3 : W5.cell? ⟨b7, 3, none⟩ = some (.slice none 0 0) := cell_of_block q5 3
        have z4 : W5.cell? ⟨b7, 4, none⟩ = some (.slice none 0 0) := cell_of_block q5 4
        have z5 : W5.cell? ⟨b7, 5, none⟩ = some (.slice none 0 0) := cell_of_block q5 5
        have z6 : W5.cell? ⟨b7, 6, none⟩ = some (.slice none 0 0) := cell_of_block q5 6
        have z7 : W5.cell? ⟨b7, 7, none⟩ = some (.string ⟨#[]⟩) := cell_of_block q5 7
        have z8 : W5.cell? ⟨b7, 8, none⟩ = some (.int .i64 0) := cell_of_block q5 8
        have z9 : W5.cell? ⟨b7, 9, none⟩ = some (.string ⟨#[]⟩) := cell_of_block q5 9
        have z10 : W5.cell? ⟨b7, 10, none⟩ = some (.string ⟨#[]⟩) := cell_of_block q5 10
        have z11 : W5.cell? ⟨b7, 11, none⟩ = some (.int .i64 0) := cell_of_block q5 11
        go_wp2_with (at_builtin; refine wpList_append_own _ rfl _ _ 37 rfl w1.heap.size 46 i0 (.agg #[.string ByteArray.empty, .int .i64 0, .slice none 0 0, .slice none 0 0, .slice none 0 0, .slice none 0 0, .slice none 0 0, .string ByteArray.empty, .int .i64 0, .string ByteArray.empty, .string ByteArray.empty, .int .i64 0]) 12 208 Tryz.underlying37 hi0 hz0 hz1 hz2 rfl (by decide) _ _ _ rfl (hown5.alloc _) ⟨W5.heap.size, 0, none⟩ 1 1 [.string pp, .int .i64 x.index, .slice none 0 0, .slice none 0 0, .slice none 0 0, .slice none 0 0, .slice none 0 0, .string ⟨#[]⟩, .int .i64 0, .string ⟨#[]⟩, .string ⟨#[]⟩, .int .i64 0] rfl rfl (cells_new _ _ _ rfl) (rvals_one (rec0 (pp) (x.index))) (by unfold maxLen; omega) (by omega) (by simp; omega) ?_; intro v' w7 hown7 hgrow7 _; obtain ⟨av', cv', rfl⟩ := ownsRow_slice hown7)
        have hg7 : Fr (From w1.heap.size) W5 w7 := grown_fr hown5 hgrow7
        have Hg7 := Lib.hid (((Hfc4.out.step hf5 (fun b hb h => by unfold Is at h; unfold TB; omega)).step hg7 (fun b hb h => by unfold From at h; unfold TB; omega)))
        have Hown7 : Hid (w7.ownsRow w1.heap.size 46 12 (.slice av' (R ++ [rec0 (pp) (x.index)]).length cv') (R ++ [rec0 (pp) (x.index)]).length (rflat (R ++ [rec0 (pp) (x.index)]))) := by
          unfold Hid; rw [rflat_snoc, List.length_append]; exact hown7
        have hll : R.length + 1 = (R ++ [rec0 (pp) (x.index)]).length := by simp
        have Hok7 : Hid (Rok (R ++ [rec0 (pp) (x.index)])) := Rok.snoc HR.out (by omega) (by omega)
        have Ht7 : Hid (Tape w7 B tb (kk + 1)) := (ht4.fr hf5 (fun b hb h => by unfold Is at h; omega) (fun h => by unfold Is at h; omega)).fr hg7 (fun b hb h => by unfold From at h; omega) (fun h => by unfold From at h; omega)
        clear hg7 hown7 hgrow7 hown5 hf5 q5 ht4 z0 z1 z2 z3 z4 z5 z6 z7 z8 z9 z10 z11
        go_roundw
        case rel => exact ⟨k + 1, R ++ [rec0 (pp) (x.index)], av', cv', kk + 1, by omega, by rw [← hll], by go_num, by omega, Hok7, by rw [← hll]; omega, Ht7.out, Hown7.out, Hg7.out⟩
        case measure => simp [intOf]; omega
    · obtain rfl : k = ds.length := by omega
      obtain ⟨a', c', hv', hI', hfresh⟩ := Recs.of_own hown (HR.out.ok _)
      cases hv'
      have H := Lib.hid (And.intro hI' (And.intro (show ∀ ad, av = some ad → w.heap.size ≤ ad.block ∧ ad.block < W2.heap.size from fun ad e => by have h1 := own_in hown ad e; exact ⟨by omega, h1.2⟩) ((Hfx.out.mono (T := Is tb) (fun _ _ h => h.elim)).step hfr (fun b hb h => by unfold TB at h; unfold Is; omega))))
      clear hown hfr hI' hfresh
      go_wp2_with fail
      go_ret
      exact ⟨⟨_, _, R, kk, rfl, H.out.1, by omega, HR.out, by omega, htr, H.out.2.1⟩, H.out.2.2⟩
end Go.Proofs.YtanaompgapiikaaGreatDoor
