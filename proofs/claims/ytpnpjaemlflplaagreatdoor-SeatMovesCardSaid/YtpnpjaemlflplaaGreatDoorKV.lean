/- The ancestors with what lies behind them (for an append); the Indexes of a row of devices. -/
import Derived.Test.YtpnpjaemlflplaaGreatDoorKO
import Derived.Test.YtpnpjaemlflplaaGreatDoorL3
import Derived.ArgAppend
namespace Go.Proofs.YtpnpjaemlflplaaGreatDoor
open Go.RowKit Go.Maps
set_option linter.unusedVariables false

/-- The cells of one more device behind a slice are there and may be written, if there is room. -/
def SpareD (w : World) (a : Option Addr) (n cap : Nat) : Prop := ∀ ad, a = some ad → ad.spot = none ∧ ad.block < w.heap.size ∧ (n < cap → ∀ j, j < 10 → (w.cell? ⟨ad.block, ad.off + n * 10 + j, none⟩).isSome = true ∧ w.frozen? ⟨ad.block, ad.off + n * 10 + j, none⟩ = false)
theorem spare_of_own {w : World} {base : Nat} {e : TypeId} {n : Nat} {xs : List Value} {b off cc : Nat} (h : w.ownsRow base e 10 (.slice (some ⟨b, off, none⟩) (n + 1) cc) (n + 1) xs) : SpareD w (some ⟨b, off + 10, none⟩) n (cc - 1) := by
  obtain ⟨_, ⟨h1, _⟩ | ⟨g, cap, cur, hv, hg, hb, h1, h2, h3, h4⟩⟩ := h
  · cases h1
  · cases hv
    intro ad e
    cases e
    refine ⟨rfl, lt_of_block hb, fun hlt j hj => ⟨?_, free_of_block hb _⟩⟩
    rw [cell_of_block hb]
    have : 0 + 10 + n * 10 + j < cur.size := by rw [h3]; omega
    simp [this]

set_option maxRecDepth 100000 in
set_option maxHeartbeats 1000000 in
theorem ref_up (a : Option Addr) (cap : Nat) (ds : List Dev) (n : Int) (w : World) (hl : Devs w a cap ds) (hb : ds.length ≤ 1000000) :
    Calls Tryz.prog 32 #[.agg #[.slice a ds.length cap], .int .i64 n] w fun e w' => (∃ a' c', e = .returned (.slice a' (chain ds n).tail.length c') ∧ Devs w' a' c' (chain ds n).tail ∧ (∀ ad, a' = some ad → w.heap.size ≤ ad.block) ∧ SpareD w' a' (chain ds n).tail.length c') ∧ Fr No w w' := by
  have hx : Fr No w (w.alloc (.cells #[.slice a ds.length cap] 25)) := (Fr.refl _ _).alloc _
  have hlx := hl.no hx (fun _ => id)
  go_enter Tryz.func32, Tryz.ntmps32
  go_wp2_with fail
  refine (ref_chain a cap ds n _ hlx hb).mono ?_
  rintro e w1 ⟨⟨v, rfl, hown⟩, hf1⟩
  have hw1 : w.heap.size + 1 ≤ w1.heap.size := by have := hf1.size; rwa [World.size_alloc] at this
  have hch : (chain ds n).length ≤ 1000000 := by have := chain_len ds n; omega
  obtain ⟨ac, cc, rfl, hD, hfresh⟩ := Devs.of_own hown
  have hfr1 := hx.step hf1 (fun _ _ h => h)
  clear hx hlx hl
  obtain ⟨c, hc⟩ : ∃ c, c = chain ds n := ⟨_, rfl⟩
  have Hc := Lib.hid hc
  rw [← hc] at hD hch hown
  rw [← hc]
  clear hc
  rcases c with _ | ⟨x, t⟩
  · clear hown
    go_wp2_with fail
    go_ret
    rw [← Hc.out]
    exact ⟨⟨none, 0, rfl, Devs.nil _, (fun _ e => by cases e), fun _ e => by cases e⟩, hfr1⟩
  · obtain ⟨b, off, d, rfl, _, _⟩ := hD.dev (k := 0) (by simp)
    have hcl := hD.len
    have hcm := hD.max
    simp only [List.length_cons] at hcl hch
    unfold maxLen at hcm
    have hT := Lib.hid hD.tail
    have hS := Lib.hid (spare_of_own hown)
    have hfs : w.heap.size ≤ b := by have := hfresh _ rfl; simp only [World.size_alloc] at this; omega
    have hbl := (hD.cell _ rfl (by simp)).2.1
    simp only at hbl
    clear hD hown
    have hlen : ((x :: t).length : Int) = (t.length : Int) + 1 := by simp
    by_cases hcc : cc = 1
    · subst hcc
      obtain rfl : t = [] := List.eq_nil_of_length_eq_zero (by omega)
      clear hcl hch hcm hlen
      go_wp2_with fail
      go_ret
      rw [← Hc.out]
      exact ⟨⟨some ⟨b, off, none⟩, 0, rfl, ⟨by simp, by simp, (fun e => by cases e), fun ad e hne => absurd rfl hne⟩, (fun _ e => by cases e; exact hfs), fun _ e => by cases e; exact ⟨rfl, hbl, fun h => by simp at h⟩⟩, hfr1⟩
    · have hc1 : ¬ cc - 1 = 0 := by omega
      have hc2 : ¬ cc ≤ 1 := by omega
      go_wp2_with fail
      go_ret
      rw [← Hc.out]
      exact ⟨⟨some ⟨b, off + 10, none⟩, _, rfl, hT.out, (fun _ e => by cases e; exact hfs), hS.out⟩, hfr1⟩

/-- A row of devices of which the Indexes are known. -/
structure IdxAt (w : World) (a : Option Addr) (cap : Nat) (U : List Int) : Prop where
  len : U.length ≤ cap
  max : cap ≤ maxLen
  cell : ∃ b off, a = some ⟨b, off, none⟩ ∧ b < w.heap.size ∧ ∀ (k : Nat) (u : Int), U[k]? = some u → w.cell? ⟨b, off + k * 10, none⟩ = some (.int .i64 u)
theorem IdxAt.keep {S : Nat → Prop} {X W : World} {a : Option Addr} {cap : Nat} {U : List Int} (h : IdxAt X a cap U) (hf : Fr S X W) (hS : ∀ b, b < X.heap.size → ¬ S b) : IdxAt W a cap U := by
  obtain ⟨b, off, e, hb, hc⟩ := h.cell
  exact ⟨h.len, h.max, b, off, e, Nat.lt_of_lt_of_le hb hf.size, fun k u hk => hf.cell (hc k u hk) (hS _ hb)⟩
theorem IdxAt.of_devs {w : World} {a : Option Addr} {cap : Nat} {l : List Dev} (h : Devs w a cap l) (hne : l ≠ []) : IdxAt w a cap (l.map Dev.index) := by
  refine ⟨by simpa using h.len, h.max, ?_⟩
  cases a with
  | none => exact absurd (h.isNil rfl).1 hne
  | some ad =>
    obtain ⟨b, off, sp⟩ := ad
    obtain ⟨h1, h2, h3⟩ := h.cell _ rfl hne
    simp at h1; subst h1
    refine ⟨b, off, rfl, h2, fun k u hk => ?_⟩
    rw [List.getElem?_map] at hk
    obtain ⟨d, hd, rfl⟩ := Option.map_eq_some_iff.1 hk
    have := h3 k d hd 0 (by omega)
    simpa [Dev.cell] using this
theorem Fr.setCells (b : Nat) : ∀ (vs : List Value) (o : Nat) (w : World), Fr (Is b) w (w.setCells b o vs)
  | [], _, _ => Fr.refl _ _
  | v :: t, o, w => (Fr.setAt (b := b) (i := o) (Fr.refl _ w) v).step (Fr.setCells b t (o + 1) _) (fun _ _ h => h)
/-- An element written behind the row. -/
theorem IdxAt.room {w : World} {b off cap : Nat} {l : List Dev} {d : Dev} (h : Devs w (some ⟨b, off, none⟩) cap l) (hb : b < w.heap.size) (hr : l.length + 1 ≤ cap) (hs : SpareD w (some ⟨b, off, none⟩) l.length cap) :
    IdxAt (w.setCells b (off + l.length * 10) d.vals.toList) (some ⟨b, off, none⟩) cap ((l ++ [d]).map Dev.index) := by
  have hvl : d.vals.toList.length = 10 := by simp [Dev.vals]
  refine ⟨by simpa using hr, h.max, b, off, rfl, Nat.lt_of_lt_of_le hb (Fr.setCells b _ _ _).size, fun k u hk => ?_⟩
  rw [List.getElem?_map] at hk
  obtain ⟨x, hx, rfl⟩ := Option.map_eq_some_iff.1 hk
  by_cases hlt : k < l.length
  · rw [List.getElem?_append_left hlt] at hx
    rw [World.cell?_setCells_out b _ _ _ _ (fun _ _ => .inl (by simp only; omega))]
    have := (h.cell _ rfl (by intro e; rw [e] at hlt; simp at hlt)).2.2 k x hx 0 (by omega)
    simpa [Dev.cell] using this
  · have hk2 : k = l.length := by
      have := (List.getElem?_eq_some_iff.1 hx).1
      simp at this; omega
    subst hk2
    rw [List.getElem?_append_right (by omega)] at hx
    simp at hx; subst hx
    have := World.cell?_setCells_in b d.vals.toList (off + l.length * 10) w (fun j hj => ((hs _ rfl).2.2 (by omega) j (by omega)).1) 0 (by omega)
    rw [Nat.add_zero] at this
    rw [this]
    simp [Dev.vals]
theorem dvals_one (d : Dev) : ∀ u ∈ d.vals.toList, u.oneCell' = true := by
  intro u hu
  simp [Dev.vals] at hu
  rcases hu with rfl | rfl | rfl | rfl | rfl | rfl | rfl | rfl | rfl | rfl <;> rfl
theorem Spare.no {S : Nat → Prop} {w w' : World} {a : Option Addr} {n cap : Nat} (h : SpareD w a n cap) (hf : Fr S w w') (hS : ∀ k, ¬ S k) : SpareD w' a n cap := by
  intro ad e
  obtain ⟨h1, h2, h3⟩ := h ad e
  refine ⟨h1, Nat.lt_of_lt_of_le h2 hf.size, fun hlt j hj => ?_⟩
  obtain ⟨h4, h5⟩ := h3 hlt j hj
  have e := hf.block ad.block h2 (hS _)
  constructor
  · unfold World.cell? at h4 ⊢
    simp only at h4 ⊢
    rw [e]; exact h4
  · unfold World.frozen? at h5 ⊢
    simp only at h5 ⊢
    rw [e]; exact h5

/-- An append of one device behind the ancestors: in place or in new memory. -/
theorem wpList_append_up {w : World} {ops : Array Oper} {rest : List Oper} {o : Oper} {act : Act} {Q : Exit → Act → World → Prop} (hg : o.guard = none) (s x : Operand)
    (hop : o.op = Op.call { callee := Callee.builtin Builtin.append, args := #[s, x], argTypes := #[23, 23] })
    {a : Option Addr} {cap : Nat} {L : List Dev} {d : Dev} (hD : Devs w a cap L) (hS : SpareD w a L.length cap) (hL : L.length ≤ 1000) (N : Nat) (hN : ∀ ad, a = some ad → N ≤ ad.block) (hNw : N ≤ w.heap.size)
    (hs : act.eval s = .slice a L.length cap) (ad : Addr) (c : Nat) (hx : act.eval x = .slice (some ad) 1 c) (hc : ∀ j u, d.vals.toList[j]? = some u → w.cell? (ad.add j) = some u)
    (hk : ∀ a' c' w', IdxAt w' a' c' ((L ++ [d]).map Dev.index) → Fr (From N) w w' → wpList Tryz.prog ops Q rest (act.put o.dst (.slice a' (L.length + 1) c')) w') :
    wpList Tryz.prog ops Q (o :: rest) act w := by
  obtain ⟨i0, hi0, hz0, hz1, hz2⟩ := info_parts infoD
  have hvl : d.vals.toList.length = 1 * 10 := by simp [Dev.vals]
  have hgr : ∀ v' w', w'.ownsRow w.heap.size 32 10 v' (L.length + 1) (flat L ++ d.vals.toList) → w.grownBy w' none → wpList Tryz.prog ops Q rest (act.put o.dst v') w' := by
    intro v' w' h1 h2
    have h3 : w'.ownsRow w.heap.size 32 10 v' (L ++ [d]).length (flat (L ++ [d])) := by
      rw [flat_snoc, List.length_append]; exact h1
    obtain ⟨a', c', rfl, hD', hf'⟩ := Devs.of_own h3
    have := hk a' c' w' (IdxAt.of_devs hD' (by simp)) ((Fr.of_grown_none h2).mono (fun _ _ h => h.elim))
    simpa [Dev.cell] using this
  by_cases hr : L.length + 1 ≤ cap
  · obtain ⟨ad0, rfl⟩ : ∃ ad0, a = some ad0 := by
      cases a with
      | none => have := (hD.isNil rfl).2; omega
      | some ad0 => exact ⟨ad0, rfl⟩
    obtain ⟨b, off, sp⟩ := ad0
    obtain ⟨h1, h2, h3⟩ := hS _ rfl
    simp only at h1; subst h1
    refine wpList_append_arg w hg s x 23 hop 32 i0 _ 10 136 Tryz.underlying23 hi0 hz0 hz1 hz2 rfl (by decide) b off L.length cap (flat L) hs (by rw [flat_len]) (fun j u hj => by have := hD.src _ rfl j u hj; rwa [Addr.add_lit] at this) ad 1 c d.vals.toList hx hvl hc (dvals_one d) (fun _ j hj => h3 (by omega) j (by omega)) (by unfold maxLen; omega) (by omega) (fun _ => ?_) (fun h => by omega)
    exact hk _ _ _ (IdxAt.room hD h2 hr hS) ((Fr.setCells b _ _ _).mono (fun b' _ e => by have := hN _ rfl; unfold Is at e; unfold From; simp only at this; omega))
  · exact wpList_append_grows w hg s x 23 hop 32 i0 _ 10 136 Tryz.underlying23 hi0 hz0 hz1 hz2 rfl (by decide) a L.length cap (flat L) hs (fun e => by obtain ⟨h1, h2⟩ := hD.isNil e; subst h1; exact ⟨rfl, h2⟩) (by rw [flat_len]) (fun b e => hD.src b e) ad 1 c d.vals.toList hx hvl hc (dvals_one d) (by omega) (by unfold maxLen; omega) (by omega) hgr
end Go.Proofs.YtpnpjaemlflplaaGreatDoor
