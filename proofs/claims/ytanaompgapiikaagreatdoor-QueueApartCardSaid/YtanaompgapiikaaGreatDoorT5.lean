/- Chain, Origin of the reference. -/
import Derived.Test.YtanaompgapiikaaGreatDoorTr
import Derived.Test.YtanaompgapiikaaGreatDoorReg
import Derived.Maps.AppendAt
namespace Go.Proofs.YtanaompgapiikaaGreatDoor
open Go.RowKit Go.Maps
set_option linter.unusedVariables false

theorem infoD : (Tryz.prog.info? 36).map (fun i => (i.zero, i.size, i.bytes)) = some (some (.agg #[.int .i64 0, .int .i64 0, .string ByteArray.empty, .string ByteArray.empty, .string ByteArray.empty, .string ByteArray.empty, .string ByteArray.empty, .int .i64 0, .int .i64 0, .slice none 0 0]), 10, 136) := by kernel_rfl
theorem infoS : (Tryz.prog.info? 9).map (fun i => (i.zero, i.size, i.bytes)) = some (some (.string ByteArray.empty), 1, 16) := by kernel_rfl

theorem ownsRow_blk {w : World} {base : Nat} {e : TypeId} {size : Nat} {v : Value} {n : Nat} {xs : List Value} (h : w.ownsRow base e size v n xs) {b : Nat} (hb : v.ownBlock = some b) : From base b := by
  obtain ⟨_, ⟨rfl, _⟩ | ⟨g, cap, cur, rfl, hg, _⟩⟩ := h
  · cases hb
  · cases hb; exact hg
theorem ownsRow_slice {w : World} {base : Nat} {e : TypeId} {size : Nat} {v : Value} {n : Nat} {xs : List Value} (h : w.ownsRow base e size v n xs) : ∃ a c, v = .slice a n c := by
  obtain ⟨_, ⟨rfl, rfl⟩ | ⟨g, cap, cur, rfl, hg, _⟩⟩ := h
  · exact ⟨_, _, rfl⟩
  · exact ⟨_, _, rfl⟩
theorem ownsRow_base {w : World} {base base' : Nat} {e : TypeId} {size : Nat} {v : Value} {n : Nat} {xs : List Value} (h : w.ownsRow base e size v n xs) (hb : base' ≤ base) : w.ownsRow base' e size v n xs := by
  obtain ⟨h0, h | ⟨g, cap, cur, h, hg, r⟩⟩ := h
  · exact ⟨h0, .inl h⟩
  · exact ⟨h0, .inr ⟨g, cap, cur, h, Nat.le_trans hb hg, r⟩⟩
theorem ownsRow_lt {w : World} {base : Nat} {e : TypeId} {size : Nat} {v : Value} {n : Nat} {xs : List Value} (h : w.ownsRow base e size v n xs) {b : Nat} (hb : v.ownBlock = some b) : b < w.heap.size := by
  obtain ⟨_, ⟨rfl, _⟩ | ⟨g, cap, cur, rfl, hg, hbl, _⟩⟩ := h
  · cases hb
  · cases hb; exact lt_of_block hbl
theorem grown_fr {w w1 : World} {base : Nat} {e : TypeId} {size : Nat} {v : Value} {n : Nat} {xs : List Value} (h : w.ownsRow base e size v n xs) {o : Obj} (hg : (w.alloc o).grownBy w1 v.ownBlock) : Fr (From base) w w1 :=
  ((Fr.refl _ _).alloc o).step (Fr.of_grown hg) (fun b _ e => ownsRow_blk h e)
theorem ownsRow_fr {w w1 : World} {base : Nat} {e : TypeId} {size : Nat} {v : Value} {n : Nat} {xs : List Value} (h : w.ownsRow base e size v n xs) {S : Nat → Prop} (hf : Fr S w w1) (hS : ∀ b, base ≤ b → ¬ S b) : w1.ownsRow base e size v n xs := by
  obtain ⟨h0, ⟨rfl, h2⟩ | ⟨g, cap, cur, rfl, hg, hb, h1, h2, h3, h4⟩⟩ := h
  · exact ⟨h0, .inl ⟨rfl, h2⟩⟩
  · exact ⟨h0, .inr ⟨g, cap, cur, rfl, hg, hf.heap hb (hS g hg), h1, h2, h3, h4⟩⟩

theorem cells_new (w : World) (xs : Array Value) (t : TypeId) {b : Nat} (hb : w.heap.size = b) : ∀ j u, xs.toList[j]? = some u → (w.alloc (.cells xs t)).cell? ((⟨b, 0, none⟩ : Addr).add j) = some u := by
  intro j u hj
  subst hb
  rw [Addr.add_lit, cell_of_block (block_alloc w (.cells xs t))]
  simpa using hj

def flat (l : List Dev) : List Value := l.flatMap (fun d => d.vals.toList)
theorem flat_snoc (l : List Dev) (d : Dev) : flat (l ++ [d]) = flat l ++ d.vals.toList := by simp [flat]
theorem flat_len (l : List Dev) : (flat l).length = l.length * 10 := by
  induction l with
  | nil => rfl
  | cons d t ih =>
    have : flat (d :: t) = d.vals.toList ++ flat t := by simp [flat]
    rw [this, List.length_append, ih]
    simp [Dev.vals]; omega
theorem vals_at (d : Dev) (j : Nat) (hj : j < 10) : d.vals.toList[j]? = some (d.cell j) := by
  unfold Dev.vals
  match j, hj with
  | 0, _ => rfl
  | 1, _ => rfl
  | 2, _ => rfl
  | 3, _ => rfl
  | 4, _ => rfl
  | 5, _ => rfl
  | 6, _ => rfl
  | 7, _ => rfl
  | 8, _ => rfl
  | 9, _ => rfl
theorem flat_at : ∀ (l : List Dev) (i : Nat) (d : Dev), l[i]? = some d → ∀ j, j < 10 → (flat l)[i * 10 + j]? = some (d.cell j)
  | [], i, d, h, j, hj => by simp at h
  | x :: t, 0, d, h, j, hj => by
    simp at h; subst h
    have : flat (x :: t) = x.vals.toList ++ flat t := by simp [flat]
    rw [this, List.getElem?_append_left (by simp [Dev.vals]; omega)]
    simpa using vals_at x j hj
  | x :: t, i + 1, d, h, j, hj => by
    have : flat (x :: t) = x.vals.toList ++ flat t := by simp [flat]
    rw [this, List.getElem?_append_right (by simp [Dev.vals]; omega)]
    have h1 := flat_at t i d (by simpa using h) j hj
    rw [show (i + 1) * 10 + j - x.vals.toList.length = i * 10 + j from by simp [Dev.vals]; omega]
    exact h1
theorem vals_one (d : Dev) : ∀ u ∈ d.vals.toList, u.oneCell' = true := by
  intro u hu
  simp [Dev.vals] at hu
  rcases hu with rfl | rfl | rfl | rfl | rfl | rfl | rfl | rfl | rfl | rfl <;> rfl
theorem flat_one (l : List Dev) : ∀ u ∈ flat l, u.oneCell' = true := by
  intro u hu
  obtain ⟨d, hd, hu⟩ := List.mem_flatMap.1 hu
  exact vals_one d u hu

/-- A row of devices of the call's own, as a slice that is read. -/
theorem Devs.of_own {w : World} {base : Nat} {e : TypeId} {v : Value} {l : List Dev} (h : w.ownsRow base e 10 v l.length (flat l)) :
    ∃ a cap, v = .slice a l.length cap ∧ Devs w a cap l ∧ ∀ ad, a = some ad → base ≤ ad.block := by
  obtain ⟨_, ⟨rfl, h2⟩ | ⟨g, cap, cur, rfl, hg, hb, h1, h2, h3, h4⟩⟩ := h
  · have : l = [] := List.eq_nil_of_length_eq_zero h2
    subst this
    exact ⟨none, 0, rfl, Devs.nil w, fun _ e => by cases e⟩
  · refine ⟨some ⟨g, 0, none⟩, cap, rfl, ⟨h1, h2, (fun e => by cases e), ?_⟩, fun ad e => by cases e; exact hg⟩
    intro ad e hne
    cases e
    refine ⟨rfl, lt_of_block hb, fun i d hi j hj => ?_⟩
    rw [cell_of_block hb]
    simp only [Nat.zero_add]
    have hlt : i < l.length := (List.getElem?_eq_some_iff.1 hi).1
    have e1 : (cur.toList.take (l.length * 10))[i * 10 + j]? = (flat l)[i * 10 + j]? := by rw [h4]
    rw [List.getElem?_take_of_lt (by omega), flat_at l i d hi j hj] at e1
    rw [← Array.getElem?_toList, e1]

/-- A slice of strings: its elements are 'l'. -/
structure Strs (w : World) (a : Option Addr) (cap : Nat) (l : List ByteArray) : Prop where
  len : l.length ≤ cap
  max : cap ≤ maxLen
  isNil : a = none → l = [] ∧ cap = 0
  cell : ∀ ad, a = some ad → l ≠ [] → ad.spot = none ∧ ad.block < w.heap.size ∧ ∀ i x, l[i]? = some x → w.cell? ⟨ad.block, ad.off + i, none⟩ = some (.string x)
theorem Strs.at {w : World} {a : Option Addr} {cap : Nat} {l : List ByteArray} (h : Strs w a cap l) {k : Nat} (hk : k < l.length) :
    ∃ b off x, a = some ⟨b, off, none⟩ ∧ l[k]? = some x ∧ w.cell? ⟨b, off + k, none⟩ = some (.string x) := by
  cases a with
  | none => obtain ⟨rfl, _⟩ := h.isNil rfl; simp at hk
  | some ad =>
    obtain ⟨b, off, sp⟩ := ad
    obtain ⟨h1, h2, h3⟩ := h.cell _ rfl (by intro e; subst e; simp at hk)
    simp at h1; subst h1
    exact ⟨b, off, l[k], rfl, by simp [hk], h3 k _ (by simp [hk])⟩
theorem Strs.lenmax {w : World} {a : Option Addr} {cap : Nat} {l : List ByteArray} (h : Strs w a cap l) : l.length ≤ 9223372036854775807 := by
  have h1 := h.len; have h2 := h.max; unfold maxLen at h2; omega
theorem Strs.fr {S : Nat → Prop} {w w' : World} {a : Option Addr} {cap : Nat} {l : List ByteArray} (h : Strs w a cap l) (hf : Fr S w w') (hS : ∀ ad, a = some ad → l ≠ [] → ¬ S ad.block) : Strs w' a cap l :=
  ⟨h.len, h.max, h.isNil, fun ad e hne => by
    obtain ⟨h1, h2, h3⟩ := h.cell ad e hne
    exact ⟨h1, Nat.lt_of_lt_of_le h2 hf.size, fun i x hi => hf.cell (h3 i x hi) (hS ad e hne)⟩⟩
theorem Strs.no {S : Nat → Prop} {w w' : World} {a : Option Addr} {cap : Nat} {l : List ByteArray} (h : Strs w a cap l) (hf : Fr S w w') (hS : ∀ k, ¬ S k) : Strs w' a cap l := h.fr hf (fun _ _ _ => hS _)
theorem Strs.nil (w : World) : Strs w none 0 [] := ⟨by simp, by simp, fun _ => ⟨rfl, rfl⟩, fun _ e _ => by cases e⟩
theorem Strs.of_own {w : World} {base : Nat} {e : TypeId} {v : Value} {l : List ByteArray} (h : w.ownsRow base e 1 v l.length (l.map Value.string)) :
    ∃ a cap, v = .slice a l.length cap ∧ Strs w a cap l ∧ ∀ ad, a = some ad → base ≤ ad.block := by
  obtain ⟨_, ⟨rfl, h2⟩ | ⟨g, cap, cur, rfl, hg, hb, h1, h2, h3, h4⟩⟩ := h
  · have : l = [] := List.eq_nil_of_length_eq_zero h2
    subst this
    exact ⟨none, 0, rfl, Strs.nil w, fun _ e => by cases e⟩
  · refine ⟨some ⟨g, 0, none⟩, cap, rfl, ⟨h1, h2, (fun e => by cases e), ?_⟩, fun ad e => by cases e; exact hg⟩
    intro ad e hne
    cases e
    refine ⟨rfl, lt_of_block hb, fun i x hi => ?_⟩
    rw [cell_of_block hb]
    simp only [Nat.zero_add]
    have hlt : i < l.length := (List.getElem?_eq_some_iff.1 hi).1
    have e1 : (cur.toList.take (l.length * 1))[i]? = (l.map Value.string)[i]? := by rw [h4]
    rw [List.getElem?_take_of_lt (by omega)] at e1
    rw [← Array.getElem?_toList, e1]
    simp [hi]

theorem ref_find_none (a : Option Addr) (cap : Nat) (ds : List Dev) (n : Int) (w : World) (hl : Devs w a cap ds) (hn : look ds n = none) :
    Calls Tryz.prog 84 #[.agg #[.slice a ds.length cap], .int .i64 n] w fun e w' => e = .returned (.tuple #[.agg Dev.zero.vals, .bool false]) ∧ Fr No w w' :=
  (ref_find a cap ds n w hl).mono fun e w' ⟨h1, h2⟩ => ⟨by rw [h1, devOf_none hn, decide_eq_false (by have := place_neg.2 hn; omega)], h2⟩
theorem ref_find_some (a : Option Addr) (cap : Nat) (ds : List Dev) (n : Int) (d : Dev) (w : World) (hl : Devs w a cap ds) (hn : look ds n = some d) :
    Calls Tryz.prog 84 #[.agg #[.slice a ds.length cap], .int .i64 n] w fun e w' => e = .returned (.tuple #[.agg d.vals, .bool true]) ∧ Fr No w w' :=
  (ref_find a cap ds n w hl).mono fun e w' ⟨h1, h2⟩ => ⟨by
    rw [h1, devOf_look hn, decide_eq_true (by
      have h3 : ¬ place ds n < 0 := fun h => by rw [place_neg.1 h] at hn; cases hn
      omega)], h2⟩

theorem chainK_some {ds : List Dev} {n : Int} {d : Dev} (h : look ds n = some d) (k : Nat) : chainK ds (k + 1) n = d :: chainK ds k d.parent := by
  rw [chainK, h]

set_option maxRecDepth 100000 in
set_option maxHeartbeats 2000000 in
theorem ref_chain (a : Option Addr) (cap : Nat) (ds : List Dev) (n : Int) (w : World) (hl : Devs w a cap ds) (hb : ds.length ≤ 1000000) :
    Calls Tryz.prog 69 #[.agg #[.slice a ds.length cap], .int .i64 n] w fun e w' => (∃ v, e = .returned v ∧ w'.ownsRow w.heap.size 36 10 v (chain ds n).length (flat (chain ds n))) ∧ Fr No w w' := by
  obtain ⟨i0, hi, hz0, hz1, hz2⟩ := info_parts infoD
  have hx : Fr No w (w.alloc (.cells #[.slice a ds.length cap] 25)) := (Fr.refl _ _).alloc _
  have hlx := hl.no hx (fun _ => id)
  have hbx := block_alloc w (.cells #[.slice a ds.length cap] 25)
  have hm := hl.lenmax
  go_enter Tryz.func69, Tryz.ntmps69
  go_wp2
  generalize hW0 : w.alloc (.cells #[.slice a ds.length cap] 25) = W0 at *
  have hW1 : w.heap.size + 1 ≤ W0.heap.size := by rw [← hW0]; simp
  clear hW0
  go_loopw [1, 5] (fun i v wr => ∃ (pre : List Dev) (m : Int) (av : Option Addr) (cv : Nat), pre.length ≤ ds.length ∧ i = .int .i64 m ∧ v = .slice av pre.length cv ∧ Hid (chain ds n = pre ++ chainK ds (ds.length - pre.length) m) ∧ wr.ownsRow (w.heap.size + 1) 36 10 (.slice av pre.length cv) pre.length (flat pre) ∧ Fr (From (w.heap.size + 1)) W0 wr) (fun _ v _ => match v with | .slice _ k _ => ds.length - k | _ => 0)
  case atStart => exact ⟨[], n, none, 0, by simp, rfl, rfl, by unfold Hid chain; simp, World.ownsRow_nil _ _ _ _, Fr.refl _ _⟩
  case round =>
    obtain ⟨pre, m, av, cv, hk, rfl, rfl, HC, hown, hfr⟩ := hrel
    have hsz := hfr.size
    have hbr := hfr.heap hbx (by unfold From; omega)
    have c0 : wr.cell? ⟨w.heap.size, 0, none⟩ = some (.slice a ds.length cap) := cell_of_block hbr 0
    have hlr := hlx.fr hfr (fun ad e hne hS => by have := (hl.cell ad e hne).2.1; unfold From at hS; omega)
    by_cases hlt : pre.length < ds.length
    · cases hlk : look ds m with
      | none =>
        have Hlk := Lib.hid hlk
        clear hlk
        go_wp2_with fail
        refine (ref_find_none a cap ds m _ hlr Hlk.out).mono ?_
        rintro e w1 ⟨rfl, hf1⟩
        unfold Dev.vals Dev.zero
        go_wp2_with fail
        go_ret
        have e : chain ds n = pre := by rw [HC.out, chainK_none Hlk.out, List.append_nil]
        rw [e]
        exact ⟨⟨_, rfl, ownsRow_base ((ownsRow_fr hown hf1 (fun _ _ => id)).alloc _) (by omega)⟩, ((hx.step hfr (fun b hb h => by unfold From at h; omega)).step hf1 (fun _ _ h => h)).alloc _⟩
      | some d =>
        have Hlk := Lib.hid hlk
        clear hlk
        go_wp2_with fail
        refine (ref_find_some a cap ds m d _ hlr Hlk.out).mono ?_
        rintro e w1 ⟨rfl, hf1⟩
        unfold Dev.vals
        have hown1 := ownsRow_fr hown hf1 (fun _ _ => id)
        go_wp2_with (at_builtin; refine wpList_append_own _ rfl _ _ 23 rfl (w.heap.size + 1) 36 i0 (.agg #[.int .i64 0, .int .i64 0, .string ByteArray.empty, .string ByteArray.empty, .string ByteArray.empty, .string ByteArray.empty, .string ByteArray.empty, .int .i64 0, .int .i64 0, .slice none 0 0]) 10 136 Tryz.underlying23 hi hz0 hz1 hz2 rfl (by decide) _ _ _ rfl ((hown1.alloc _).alloc _) ⟨w1.heap.size + 1, 0, none⟩ 1 1 d.vals.toList rfl rfl (cells_new _ d.vals _ (World.size_alloc _ _)) (vals_one d) (by unfold maxLen; omega) (by omega) (by have := hf1.size; simp; omega) ?_; intro v' w2 hown2 hgrow2 _; have c1 : w2.cell? ⟨w1.heap.size, 1, none⟩ = some (.int .i64 d.parent) := (Fr.of_grown hgrow2).cell (cell_of_block (block_alloc1 w1 _ _) 1) (fun e => Nat.lt_irrefl _ (ownsRow_lt hown1 e)); obtain ⟨av', cv', rfl⟩ := ownsRow_slice hown2)
        go_roundw
        case rel =>
          refine ⟨pre ++ [d], d.parent, av', cv', by simp; omega, rfl, by simp, ?_, by rw [List.length_append, flat_snoc]; exact hown2, (hfr.step hf1 (fun _ _ h => h.elim)).step (((Fr.refl (From (w.heap.size + 1)) w1).alloc _).step (grown_fr (hown1.alloc _) hgrow2) (fun _ _ h => h)) (fun _ _ h => h)⟩
          unfold Hid
          rw [HC.out, show ds.length - pre.length = (ds.length - (pre ++ [d]).length) + 1 from by simp; omega, chainK_some Hlk.out]
          simp
        case measure => simp; omega
    · have e : chain ds n = pre := by rw [HC.out, show ds.length - pre.length = 0 from by omega]; simp [chainK]
      have He := Lib.hid e
      clear e
      go_wp2_with fail
      go_ret
      rw [He.out]
      exact ⟨⟨_, rfl, ownsRow_base hown (by omega)⟩, hx.step hfr (fun b hb h => by unfold From at h; omega)⟩

theorem strs_one (l : List ByteArray) : ∀ u ∈ l.map Value.string, u.oneCell' = true := by
  intro u hu
  obtain ⟨x, _, rfl⟩ := List.mem_map.1 hu
  rfl

set_option maxRecDepth 100000 in
set_option maxHeartbeats 2000000 in
theorem ref_origin (a : Option Addr) (cap : Nat) (ds : List Dev) (n : Int) (w : World) (hl : Devs w a cap ds) (hb : ds.length ≤ 1000000) :
    Calls Tryz.prog 70 #[.agg #[.slice a ds.length cap], .int .i64 n] w fun e w' => (∃ v, e = .returned v ∧ w'.ownsRow w.heap.size 9 1 v (origin ds n).length ((origin ds n).map Value.string)) ∧ Fr No w w' := by
  obtain ⟨i0, hi, hz0, hz1, hz2⟩ := info_parts infoS
  have hx : Fr No w (w.alloc (.cells #[.slice a ds.length cap] 25)) := (Fr.refl _ _).alloc _
  have hlx := hl.no hx (fun _ => id)
  have hol : (origin ds n).length ≤ 1000000 := by unfold origin; simp; have := chain_len ds n; omega
  go_enter Tryz.func70, Tryz.ntmps70
  go_wp2_with fail
  refine (ref_chain a cap ds n _ hlx hb).mono ?_
  rintro e w1 ⟨⟨v, rfl, hown⟩, hf1⟩
  have hch : (chain ds n).length ≤ 1000000 := by have := chain_len ds n; omega
  have hw1 : w.heap.size + 1 ≤ w1.heap.size := by have := hf1.size; rwa [World.size_alloc] at this
  obtain ⟨ac, cc, rfl, hD, hfresh⟩ := Devs.of_own hown
  have horg : Hid (origin ds n = ((chain ds n).map Dev.orig).reverse) := rfl
  have hfr1 := hx.step hf1 (fun _ _ h => h)
  clear hown hx hlx
  generalize chain ds n = c at *
  go_wp2_with fail
  go_loopw [5, 7] (fun v i wr => ∃ (k : Nat) (av : Option Addr) (cv : Nat), k ≤ c.length ∧ i = .int .i64 ((k : Int) - 1) ∧ v = .slice av (c.length - k) cv ∧ wr.ownsRow w1.heap.size 9 1 (.slice av (c.length - k) cv) (c.length - k) ((((c.drop k).map Dev.orig).reverse).map Value.string) ∧ Fr (From w1.heap.size) w1 wr) (fun _ i _ => (intOf i + 1).toNat)
  case atStart => exact ⟨c.length, none, 0, by omega, rfl, by simp, by simpa using World.ownsRow_nil _ _ _ _, Fr.refl _ _⟩
  case round =>
    obtain ⟨k, av, cv, hk, rfl, rfl, hown, hfr⟩ := hrel
    have hsz := hfr.size
    cases k with
    | zero =>
      go_wp2_with fail
      go_ret
      rw [horg.out]
      simp only [List.drop_zero, Nat.sub_zero] at hown
      exact ⟨⟨_, rfl, by rw [List.length_reverse, List.length_map]; exact ownsRow_base hown (by omega)⟩, hfr1.step hfr (fun b hb h => by unfold From at h; omega)⟩
    | succ j =>
      have hDr := hD.fr hfr (fun ad e hne hS => by have := (hD.cell ad e hne).2.1; unfold From at hS; omega)
      obtain ⟨b, off, d, rfl, hd, hc⟩ := hDr.dev (by omega : j < c.length)
      have c3 := hc.c3
      have Hd := Lib.hid hd
      clear hd hc
      rw [show ((j + 1 : Nat) : Int) - 1 = (j : Int) from by omega]
      go_wp2_with (at_builtin; refine wpList_append_own _ rfl _ _ 44 rfl w1.heap.size 9 i0 (.string ByteArray.empty) 1 16 Tryz.underlying44 hi hz0 hz1 hz2 rfl (by decide) _ _ _ rfl (hown.alloc _) ⟨wr.heap.size, 0, none⟩ 1 1 [.string d.orig] rfl rfl (cell_one_new _ _ _) (strs_one [d.orig]) (by unfold maxLen; omega) (by omega) (by simp; omega) ?_; intro v' w2 hown2 hgrow2 _; obtain ⟨av', cv', rfl⟩ := ownsRow_slice hown2)
      go_roundw
      case rel =>
        have e : c.length - (j + 1) + 1 = c.length - j := by omega
        rw [e] at hown2 ⊢
        refine ⟨j, av', cv', by omega, rfl, rfl, ?_, hfr.step (grown_fr hown hgrow2) (fun _ _ h => h)⟩
        rw [List.drop_eq_getElem_cons (by omega : j < c.length)]
        have e2 : c[j] = d := by have := Hd.out; rw [List.getElem?_eq_getElem (by omega)] at this; exact Option.some.inj this
        rw [e2]
        simpa using hown2
      case measure => simp [intOf]
end Go.Proofs.YtanaompgapiikaaGreatDoor
