/- tree.Origin, the view's find. -/
import Derived.Test.YtanaompgapiikaaGreatDoorL2
import Derived.Test.YtanaompgapiikaaGreatDoorT5
import Derived.Test.YtanaompgapiikaaGreatDoorStrs
namespace Go.Proofs.YtanaompgapiikaaGreatDoor
open Go.RowKit Go.Maps
set_option linter.unusedVariables false

set_option maxRecDepth 100000 in
set_option maxHeartbeats 1000000 in
theorem tree_origin (a : Option Addr) (cap : Nat) (ds : List Dev) (n : Int) (w : World) (hl : Devs w a cap ds) (hT : TreeOk ds) (hn : ds.length ≤ 1000) (hx : (Lit.int .i64 n).wf = true) :
    Calls Tryz.prog 60 #[.agg #[.slice a ds.length cap], .int .i64 n] w fun e w' => e = .returned (.tuple #[.string (((look ds n).map fun _ => pathOf (origin ds n)).getD ⟨#[]⟩), .bool (look ds n).isSome]) ∧ Fr No w w' := by
  have h0 : Fr No w (w.alloc (.cells #[.slice a ds.length cap] 25)) := (Fr.refl _ _).alloc _
  have ho : ogs ds n = (look ds n).map fun _ => pathOf (origin ds n) := by
    have := ogs_eq hT ds.length (Nat.le_refl _) n
    rw [List.take_of_length_le (Nat.le_refl _)] at this
    exact this
  have hfd : ∀ (m1 m2 : Nat) (W : World), (Instr.field 160 (.agg #[.slice a ds.length cap, .map (some m1), .map (some m2)]) 2).run Tryz.prog W = .ok (.map (some m2)) W := fun _ _ _ => by kernel_rfl
  have Ho := Lib.hid ho
  have H0 := Lib.hid h0
  clear ho h0
  go_enter Tryz.func60, Tryz.ntmps60
  go_wp2_with fail
  refine (tree_look a cap ds _ (hl.no H0.out (fun _ => id)) hT hn).mono ?_
  rintro e w1 ⟨⟨m1, m2, rfl, _, _, _, _, hS⟩, hf1⟩
  go_wp2_with (at_lookup; refine wp_smap_ok rfl _ _ 105 rfl rfl m2 _ _ n hx rfl hS rfl ?_)
  refine bodyPost_ret (v := .tuple #[.string ((ogs ds n).getD ⟨#[]⟩), .bool (ogs ds n).isSome]) (by simp [results, Tryz.results60, go_sem]) rfl ?_
  refine ⟨?_, H0.out.step hf1 (fun _ _ h => h)⟩
  rw [Ho.out]
  cases look ds n <;> rfl

/-- Block a view's parts stand for the tree ds. -/
def VAt (w : World) (m1 m2 : Nat) (ds : List Dev) : Prop := IMap w m1 (plcs ds ds.length) ds.length ∧ SMap w m2 (ogs ds) ds.length
theorem VAt.fr {S : Nat → Prop} {w w' : World} {m1 m2 : Nat} {ds : List Dev} (h : VAt w m1 m2 ds) (hf : Fr S w w') (h1 : ¬ S m1) (h2 : ¬ S m2) : VAt w' m1 m2 ds := ⟨h.1.fr hf h1, h.2.fr hf h2⟩
theorem plcs_all (ds : List Dev) (n : Int) : plcs ds ds.length n = (look ds n).map fun _ => place ds n := by unfold plcs; rw [List.take_of_length_le (Nat.le_refl _)]

def FindIs (ds : List Dev) (n : Int) (e : Ending) : Prop := (look ds n = none ∧ e = .returned (.tuple #[.agg Dev.zero.vals, .bool false])) ∨ ∃ d, look ds n = some d ∧ e = .returned (.tuple #[.agg d.vals, .bool true])

set_option maxRecDepth 100000 in
set_option maxHeartbeats 2000000 in
theorem view_find (a : Option Addr) (cap : Nat) (ds : List Dev) (m1 m2 : Nat) (n : Int) (w : World) (hl : Devs w a cap ds) (hV : VAt w m1 m2 ds) (hx : (Lit.int .i64 n).wf = true) :
    Calls Tryz.prog 159 #[.agg #[.slice a ds.length cap, .map (some m1), .map (some m2)], .int .i64 n] w fun e w' =>
      FindIs ds n e ∧ Fr No w w' := by
  have hm := hl.lenmax
  have h0 : Fr No w ((w.alloc (.cells #[.slice a ds.length cap, .map (some m1), .map (some m2)] 160)).alloc (.cells #[.int .i64 0, .int .i64 0, .string ⟨#[]⟩, .string ⟨#[]⟩, .string ⟨#[]⟩, .string ⟨#[]⟩, .string ⟨#[]⟩, .int .i64 0, .int .i64 0, .slice none 0 0] 36)) := ((Fr.refl _ _).alloc _).alloc _
  have q0 := block_alloc1 w (.cells #[.slice a ds.length cap, .map (some m1), .map (some m2)] 160) (.cells #[.int .i64 0, .int .i64 0, .string ⟨#[]⟩, .string ⟨#[]⟩, .string ⟨#[]⟩, .string ⟨#[]⟩, .string ⟨#[]⟩, .int .i64 0, .int .i64 0, .slice none 0 0] 36)
  have p2 := block_alloc2 w (.cells #[.slice a ds.length cap, .map (some m1), .map (some m2)] 160) (.cells #[.int .i64 0, .int .i64 0, .string ⟨#[]⟩, .string ⟨#[]⟩, .string ⟨#[]⟩, .string ⟨#[]⟩, .string ⟨#[]⟩, .int .i64 0, .int .i64 0, .slice none 0 0] 36)
  go_enter Tryz.func159, Tryz.ntmps159
  go_upto_region 1 with (fail)
  generalize (w.alloc (.cells #[.slice a ds.length cap, .map (some m1), .map (some m2)] 160)).alloc (.cells #[.int .i64 0, .int .i64 0, .string ⟨#[]⟩, .string ⟨#[]⟩, .string ⟨#[]⟩, .string ⟨#[]⟩, .string ⟨#[]⟩, .int .i64 0, .int .i64 0, .slice none 0 0] 36) = w2 at *
  have t0 : w2.cell? ⟨w.heap.size, 0, none⟩ = some (.slice a ds.length cap) := cell_of_block q0 0
  have t1 : w2.cell? ⟨w.heap.size, 1, none⟩ = some (.map (some m1)) := cell_of_block q0 1
  have z0 : w2.cell? ⟨w.heap.size + 1, 0, none⟩ = some (.int .i64 0) := cell_of_block p2 0
  have z1 : w2.cell? ⟨w.heap.size + 1, 1, none⟩ = some (.int .i64 0) := cell_of_block p2 1
  have z2 : w2.cell? ⟨w.heap.size + 1, 2, none⟩ = some (.string ⟨#[]⟩) := cell_of_block p2 2
  have z3 : w2.cell? ⟨w.heap.size + 1, 3, none⟩ = some (.string ⟨#[]⟩) := cell_of_block p2 3
  have z4 : w2.cell? ⟨w.heap.size + 1, 4, none⟩ = some (.string ⟨#[]⟩) := cell_of_block p2 4
  have z5 : w2.cell? ⟨w.heap.size + 1, 5, none⟩ = some (.string ⟨#[]⟩) := cell_of_block p2 5
  have z6 : w2.cell? ⟨w.heap.size + 1, 6, none⟩ = some (.string ⟨#[]⟩) := cell_of_block p2 6
  have z7 : w2.cell? ⟨w.heap.size + 1, 7, none⟩ = some (.int .i64 0) := cell_of_block p2 7
  have z8 : w2.cell? ⟨w.heap.size + 1, 8, none⟩ = some (.int .i64 0) := cell_of_block p2 8
  have z9 : w2.cell? ⟨w.heap.size + 1, 9, none⟩ = some (.slice none 0 0) := cell_of_block p2 9
  have y0 : w2.frozen? ⟨w.heap.size + 1, 0, none⟩ = false := free_of_block p2 0
  have y1 : w2.frozen? ⟨w.heap.size + 1, 1, none⟩ = false := free_of_block p2 1
  have y2 : w2.frozen? ⟨w.heap.size + 1, 2, none⟩ = false := free_of_block p2 2
  have y3 : w2.frozen? ⟨w.heap.size + 1, 3, none⟩ = false := free_of_block p2 3
  have y4 : w2.frozen? ⟨w.heap.size + 1, 4, none⟩ = false := free_of_block p2 4
  have y5 : w2.frozen? ⟨w.heap.size + 1, 5, none⟩ = false := free_of_block p2 5
  have y6 : w2.frozen? ⟨w.heap.size + 1, 6, none⟩ = false := free_of_block p2 6
  have y7 : w2.frozen? ⟨w.heap.size + 1, 7, none⟩ = false := free_of_block p2 7
  have y8 : w2.frozen? ⟨w.heap.size + 1, 8, none⟩ = false := free_of_block p2 8
  have y9 : w2.frozen? ⟨w.heap.size + 1, 9, none⟩ = false := free_of_block p2 9
  have hI := hV.1.fr h0 id
  have hl2 := hl.no h0 (fun _ => id)
  have hg := plcs_all ds n
  rcases place_look ds n with ⟨h1, h2⟩ | ⟨k, d, h1, h2, h3⟩
  · have g0 : plcs ds ds.length n = none := by rw [hg, h1]; rfl
    have h10 := set10 p2 rfl Dev.zero
    have hfin := Lib.hid (And.intro h1 (h0.step h10.2 (fun b hb e => by unfold Is at e; omega)))
    have h1' : look ds n = none := h1
    clear h10 p2 q0 hg h2 h0 h1 hV hl hl2
    have H1 := Lib.hid h1'
    clear h1'
    go_wp2_with (at_lookup; refine wp_imap_ok rfl _ _ 158 rfl rfl m1 _ _ n hx rfl hI rfl ?_; rw [g0]; simp only [Option.getD_none, Option.isSome_none])
    refine bodyPost_ret (v := .tuple #[.agg Dev.zero.vals, .bool false]) (by simp [results, Tryz.results159, go_sem, Dev.vals, Dev.zero, z0, z1, z2, z3, z4, z5, z6, z7, z8, z9]; try rfl) rfl ?_
    exact ⟨.inl ⟨H1.out, rfl⟩, hfin.out.2⟩
  · have g0 : plcs ds ds.length n = some (k : Int) := by rw [hg, h1, h2]; rfl
    have hlt : k < ds.length := (List.getElem?_eq_some_iff.1 h3).1
    have hlt' : (k : Int) < ds.length := by omega
    obtain ⟨bb, off, d', rfl, hd, c0, c1, c2, c3, c4, c5, c6, c7, c8, c9⟩ := hl2.dev hlt
    rw [h3] at hd; cases hd
    have h10 := set10 p2 rfl d
    have hfin := Lib.hid (And.intro h1 (h0.step h10.2 (fun b hb e => by unfold Is at e; omega)))
    have H1 := Lib.hid h1
    clear h10 p2 q0 hg h2 h3 h0 h1 hV hl hl2
    go_wp2_with (at_lookup; refine wp_imap_ok rfl _ _ 158 rfl rfl m1 _ _ n hx rfl hI rfl ?_; rw [g0]; simp only [Option.getD_some, Option.isSome_some])
    refine bodyPost_ret (v := .tuple #[.agg d.vals, .bool true]) (by simp [results, Tryz.results159, go_sem, Dev.vals, z0, z1, z2, z3, z4, z5, z6, z7, z8, z9]) rfl ?_
    exact ⟨.inr ⟨d, H1.out, rfl⟩, hfin.out.2⟩
end Go.Proofs.YtanaompgapiikaaGreatDoor
/- The view's up; the reference's ancestors. -/
namespace Go.Proofs.YtanaompgapiikaaGreatDoor
open Go.RowKit Go.Maps
set_option linter.unusedVariables false

theorem view_up (u v x : Value) (n : Int) (w : World) :
    Calls Tryz.prog 115 #[.agg #[u, v, x], .int .i64 n] w fun e w' => e = .returned (.func (.func 158) #[] #[.pointer (some ⟨w.heap.size, 0, none⟩), .pointer (some ⟨w.heap.size + 1, 0, none⟩)]) ∧ w' = (w.alloc (.cells #[u, v, x] 160)).alloc (.cells #[.int .i64 n] 3) := by
  go_enter Tryz.func115, Tryz.ntmps115
  go_wp2_with fail
  go_ret
  exact ⟨rfl, rfl⟩

theorem Devs.tail {w : World} {b off cap : Nat} {x : Dev} {l : List Dev} (h : Devs w (some ⟨b, off, none⟩) cap (x :: l)) : Devs w (some ⟨b, off + 10, none⟩) (cap - 1) l := by
  have h1 := h.len
  have h2 := h.max
  simp only [List.length_cons] at h1
  refine ⟨by omega, by omega, (fun e => by cases e), fun ad e hne => ?_⟩
  cases e
  obtain ⟨_, h3, h4⟩ := h.cell _ rfl (by simp)
  refine ⟨rfl, h3, fun i d hi j hj => ?_⟩
  have := h4 (i + 1) d (by simpa using hi) j hj
  rw [show off + 10 + (i * 10 + j) = off + ((i + 1) * 10 + j) by omega]
  exact this

set_option maxRecDepth 100000 in
set_option maxHeartbeats 1000000 in
theorem ref_ancestors (a : Option Addr) (cap : Nat) (ds : List Dev) (n : Int) (w : World) (hl : Devs w a cap ds) (hb : ds.length ≤ 1000000) :
    Calls Tryz.prog 20 #[.agg #[.slice a ds.length cap], .int .i64 n] w fun e w' => (∃ a' c', e = .returned (.slice a' (chain ds n).tail.length c') ∧ Devs w' a' c' (chain ds n).tail ∧ ∀ ad, a' = some ad → w.heap.size ≤ ad.block) ∧ Fr No w w' := by
  have hx : Fr No w (w.alloc (.cells #[.slice a ds.length cap] 25)) := (Fr.refl _ _).alloc _
  have hlx := hl.no hx (fun _ => id)
  go_enter Tryz.func20, Tryz.ntmps20
  go_wp2_with fail
  refine (ref_chain a cap ds n _ hlx hb).mono ?_
  rintro e w1 ⟨⟨v, rfl, hown⟩, hf1⟩
  have hw1 : w.heap.size + 1 ≤ w1.heap.size := by have := hf1.size; rwa [World.size_alloc] at this
  have hch : (chain ds n).length ≤ 1000000 := by have := chain_len ds n; omega
  obtain ⟨ac, cc, rfl, hD, hfresh⟩ := Devs.of_own hown
  have hfr1 := hx.step hf1 (fun _ _ h => h)
  clear hown hx hlx hl
  obtain ⟨c, hc⟩ : ∃ c, c = chain ds n := ⟨_, rfl⟩
  have Hc := Lib.hid hc
  rw [← hc] at hD hch
  rw [← hc]
  clear hc
  rcases c with _ | ⟨x, t⟩
  · go_wp2_with fail
    go_ret
    rw [← Hc.out]
    exact ⟨⟨none, 0, rfl, Devs.nil _, fun _ e => by cases e⟩, hfr1⟩
  · obtain ⟨b, off, d, rfl, _, _⟩ := hD.dev (k := 0) (by simp)
    have hcl := hD.len
    have hcm := hD.max
    simp only [List.length_cons] at hcl hch
    unfold maxLen at hcm
    have hT := Lib.hid hD.tail
    have hfs : w.heap.size ≤ b := by have := hfresh _ rfl; simp only [World.size_alloc] at this; omega
    clear hD
    have hlen : ((x :: t).length : Int) = (t.length : Int) + 1 := by simp
    by_cases hcc : cc = 1
    · subst hcc
      obtain rfl : t = [] := List.eq_nil_of_length_eq_zero (by omega)
      clear hcl hch hcm hlen
      go_wp2_with fail
      go_ret
      rw [← Hc.out]
      exact ⟨⟨some ⟨b, off, none⟩, 0, rfl, ⟨by simp, by simp, (fun e => by cases e), fun ad e hne => absurd rfl hne⟩, fun _ e => by cases e; exact hfs⟩, hfr1⟩
    · have hc1 : ¬ cc - 1 = 0 := by omega
      have hc2 : ¬ cc ≤ 1 := by omega
      go_wp2_with fail
      go_ret
      rw [← Hc.out]
      exact ⟨⟨some ⟨b, off + 10, none⟩, _, rfl, hT.out, fun _ e => by cases e; exact hfs⟩, hfr1⟩
end Go.Proofs.YtanaompgapiikaaGreatDoor
/- The reference's place: a path of names. -/
namespace Go.Proofs.YtanaompgapiikaaGreatDoor
open Go.RowKit Go.Maps
set_option linter.unusedVariables false

theorem fold_bytes : ∀ (l : List ByteArray) (s : ByteArray), (l.foldl (fun s x => s ++ ⟨#[47]⟩ ++ x) s).data.toList = s.data.toList ++ Lib.joinTail [47] (l.map (·.data.toList))
  | [], s => by simp [Lib.joinTail]
  | x :: t, s => by
    rw [List.foldl_cons, fold_bytes t]
    simp [Lib.joinTail]
theorem path_bytes (l : List ByteArray) : (pathOf l).data.toList = Lib.joinTail [47] (l.map (·.data.toList)) := by
  unfold pathOf; rw [fold_bytes]; rfl
theorem path_join {l : List ByteArray} (h : l ≠ []) : (⟨#[47]⟩ : ByteArray) ++ ⟨(Lib.join (l.map (·.data.toList)) [47]).toArray⟩ = pathOf l := by
  refine bytes_eq ?_
  rw [path_bytes]
  cases l with
  | nil => exact absurd rfl h
  | cons x t => simp [Lib.join_cons, Lib.joinTail]
theorem tail_le : ∀ (l : List ByteArray), (∀ x ∈ l, x.size ≤ 32) → (Lib.joinTail [47] (l.map (·.data.toList))).length ≤ 33 * l.length
  | [], _ => by simp [Lib.joinTail]
  | x :: t, h => by
    have h1 := tail_le t (fun y hy => h y (List.mem_cons_of_mem _ hy))
    have h2 := h x (List.mem_cons_self ..)
    have h3 : x.data.toList.length = x.size := by simp
    simp only [Lib.joinTail, List.map_cons, List.flatten_cons, List.length_append, List.length_cons, List.length_nil, List.map_map] at h1 ⊢
    omega
theorem join_le {l : List ByteArray} (h : ∀ x ∈ l, x.size ≤ 32) : (Lib.join (l.map (·.data.toList)) [47]).length ≤ 33 * l.length := by
  cases l with
  | nil => simp [Lib.join, List.intercalate]
  | cons x t =>
    have := tail_le (x :: t) h
    simp only [List.map_cons, Lib.join_cons, Lib.joinTail, List.flatten_cons, List.length_append, List.length_cons, List.length_nil] at this ⊢
    omega

set_option maxRecDepth 100000 in
set_option maxHeartbeats 1000000 in
theorem ref_join (a : Option Addr) (cap : Nat) (l : List ByteArray) (w : World) (hl : Strs w a cap l) (hne : l ≠ []) (hs : ∀ x ∈ l, x.size ≤ 32) (hn : l.length ≤ 1000000) :
    Calls Tryz.prog 71 #[.slice a l.length cap] w fun e w' => e = .returned (.string (pathOf l)) ∧ Fr No w w' := by
  have h1 : l.length ≠ 0 := fun h => hne (List.eq_nil_of_length_eq_zero h)
  obtain ⟨b, off, x, rfl, _, _⟩ := hl.at (k := 0) (by omega)
  obtain ⟨_, hb, hc⟩ := hl.cell _ rfl hne
  have hj := join_le hs
  have hcap := hl.len
  have hp := Lib.hid (path_join hne)
  go_enter Tryz.func71, Tryz.ntmps71
  go_wp2_with fail
  refine (Tryz.strings_Join b off cap l ⟨#[47]⟩ _ (fun j x hx => hc j x hx) hb (by omega) hcap (by show (Lib.join _ [47]).length ≤ _; omega)).mono ?_
  rintro e w1 ⟨rfl, hf⟩
  have hf1 := Fr.of_below_size hf
  have hsz : (Lib.join (l.map (·.data.toList)) [47]).length ≤ 33000000 := by omega
  have e47 : (⟨#[47]⟩ : ByteArray).data.toList = [47] := rfl
  rw [e47]
  go_wp2_with fail
  go_ret
  refine ⟨?_, hf1⟩
  rw [← hp.out]; rfl

theorem origin_sz {ds : List Dev} (hT : TreeOk ds) (n : Int) : ∀ x ∈ origin ds n, x.size ≤ 32 := by
  intro x hx
  unfold origin at hx
  rw [List.mem_reverse] at hx
  obtain ⟨d, hd, rfl⟩ := List.mem_map.1 hx
  exact hT.sz d (chain_mem hd)

set_option maxRecDepth 100000 in
set_option maxHeartbeats 1000000 in
theorem ref_place (a : Option Addr) (cap : Nat) (ds : List Dev) (n : Int) (w : World) (hl : Devs w a cap ds) (hT : TreeOk ds) (hb : ds.length ≤ 1000000) :
    Calls Tryz.prog 22 #[.agg #[.slice a ds.length cap], .int .i64 n] w fun e w' => e = .returned (.string (pathOf (origin ds n))) ∧ Fr No w w' := by
  have hx : Fr No w (w.alloc (.cells #[.slice a ds.length cap] 25)) := (Fr.refl _ _).alloc _
  have hlx := hl.no hx (fun _ => id)
  have hol : (origin ds n).length ≤ 1000000 := by unfold origin; simp; have := chain_len ds n; omega
  have hz := Lib.hid (origin_sz hT n)
  go_enter Tryz.func22, Tryz.ntmps22
  go_wp2_with fail
  refine (ref_origin a cap ds n _ hlx hb).mono ?_
  rintro e w1 ⟨⟨v, rfl, hown⟩, hf1⟩
  obtain ⟨ac, cc, rfl, hS, hfresh⟩ := Strs.of_own hown
  have hfr1 := hx.step hf1 (fun _ _ h => h)
  clear hown hx hlx hl
  by_cases hne : origin ds n = []
  · have Hne := Lib.hid hne
    have h0 : (origin ds n).length = 0 := by rw [hne]; rfl
    clear hne hol hS
    go_wp2_with fail
    go_ret
    refine ⟨?_, hfr1⟩
    rw [Hne.out]; rfl
  · have h0 : 0 < (origin ds n).length := List.length_pos_iff.2 hne
    have h0' : (0 : Int) < (origin ds n).length := by omega
    have Hne := Lib.hid hne
    clear hne
    go_wp2_with fail
    refine (ref_join ac cc (origin ds n) _ hS Hne.out hz.out hol).mono ?_
    rintro e w2 ⟨rfl, hf2⟩
    go_wp2_with fail
    go_ret
    exact ⟨rfl, hfr1.step hf2 (fun _ _ h => h)⟩
end Go.Proofs.YtanaompgapiikaaGreatDoor
