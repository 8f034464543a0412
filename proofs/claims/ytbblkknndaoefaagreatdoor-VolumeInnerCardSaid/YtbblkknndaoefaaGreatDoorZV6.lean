/- Arrays as the reference builds them. Plain. clash. Insert of the reference. slices.Clone of strings. coldplugref32.In, coldplugmake.SameTexts. Wanted devices in memory: slices of api.Virtual. What Open and Asks answer; the laws on it. Plain. -/
import Derived.Test.YtbblkknndaoefaaGreatDoorZV5
import Derived.Test.YtbblkknndaoefaaGreatDoorZV3
import Derived.Test.YtbblkknndaoefaaGreatDoorZV2
import Derived.Laws.AppendOwnNone
import Derived.Test.YtbblkknndaoefaaGreatDoorZV4
namespace Go.Proofs.YtbblkknndaoefaaGreatDoor
open Go.RowKit
set_option linter.unusedVariables false

def allG : Mem → Bool := fun _ => true
section
variable {good : Mem → Bool}
theorem best2_all (L : List Mem) : best2 allG (L.filter good) = best2 good L := by
  refine rev_ind (P := fun L => best2 allG (L.filter good) = best2 good L) rfl ?_ L
  intro l m ih
  rw [List.filter_append, best2_snoc]
  cases h : good m with
  | true =>
    rw [show [m].filter good = [m] from by simp [h], best2_snoc, ih]
    funext x
    unfold best2S
    rw [h]; rfl
  | false =>
    rw [show [m].filter good = [] from by simp [h], List.append_nil, ih, best2S_skip h]
theorem best2S_other {g : ByteArray × Int → Option Mem} {m : Mem} {x : ByteArray × Int} (h : ¬ (m.i = x.1 ∧ m.s = x.2)) : best2S good g m x = g x := by
  unfold best2S
  rw [if_neg]
  intro e
  simp only [Bool.and_eq_true, decide_eq_true_eq] at e
  have e2 := e.1.2
  exact h ⟨by rw [e2], by rw [e2]⟩
theorem best2S_first {g : ByteArray × Int → Option Mem} {m : Mem} (h1 : good m = true) (hg : g (m.i, m.s) = none) : best2S good g m (m.i, m.s) = some m := by
  rw [best2S_take h1 (fun o ho => by rw [hg] at ho; cases ho)]
  exact if_pos rfl
theorem ids34 (L : List Mem) : IsIds2 (best2 good L) (idsW (L.filter good)) := by
  refine ⟨asc_of (idsW_ok _).1, fun x => ?_⟩
  rw [(idsW_ok _).2.1]
  constructor
  · rintro ⟨m, hm, rfl⟩
    obtain ⟨h1, h2⟩ := List.mem_filter.1 hm
    obtain ⟨o, ho⟩ := best2_some L m h1 h2
    exact ⟨m.s, by rw [ho]; rfl⟩
  · rintro ⟨s, hs⟩
    obtain ⟨m, hm⟩ := Option.isSome_iff_exists.1 hs
    obtain ⟨h1, h2, h3⟩ := best2_mem L _ m hm
    simp only [Prod.mk.injEq] at h3
    exact ⟨m, List.mem_filter.2 ⟨h1, h2⟩, h3.1⟩
end
/-- The member at the least slot, when the slots from 16 - n + 1 on have been looked at. -/
def upM (b : ByteArray × Int → Option Mem) (id : ByteArray) : Nat → Option Mem
  | 0 => none
  | n + 1 => match b (id, 16 - (n : Int)) with
    | some m => some m
    | none => upM b id n
theorem upM_some {b : ByteArray × Int → Option Mem} {id : ByteArray} {n : Nat} {m : Mem} (h : b (id, 16 - (n : Int)) = some m) : upM b id (n + 1) = some m := by unfold upM; rw [h]
theorem upM_none {b : ByteArray × Int → Option Mem} {id : ByteArray} {n : Nat} (h : b (id, 16 - (n : Int)) = none) : upM b id (n + 1) = upM b id n := by rw [upM, h]
theorem upM_inv (b : ByteArray × Int → Option Mem) (id : ByteArray) : ∀ n : Nat, n ≤ 16 →
    (∃ k : Nat, 16 - n ≤ k ∧ k < 16 ∧ (b (id, (k : Int) + 1)).isSome = true ∧ (∀ j : Nat, 16 - n ≤ j → j < k → (b (id, (j : Int) + 1)).isSome = false) ∧ upM b id n = b (id, (k : Int) + 1)) ∨
    ((∀ k : Nat, 16 - n ≤ k → k < 16 → (b (id, (k : Int) + 1)).isSome = false) ∧ upM b id n = none)
  | 0, _ => .inr ⟨fun k h1 h2 => by omega, rfl⟩
  | n + 1, hn => by
    have ih := upM_inv b id n (by omega)
    have e : (16 - (n : Int)) = ((15 - n : Nat) : Int) + 1 := by omega
    rcases hb : b (id, 16 - (n : Int)) with _ | m
    · rw [upM_none hb]
      have hb' : (b (id, ((15 - n : Nat) : Int) + 1)).isSome = false := by rw [← e, hb]; rfl
      rcases ih with ⟨k, h1, h2, h3, h4, h5⟩ | ⟨h1, h2⟩
      · refine .inl ⟨k, by omega, h2, h3, fun j hj1 hj2 => ?_, h5⟩
        by_cases hj : j = 15 - n
        · rw [hj]; exact hb'
        · exact h4 j (by omega) hj2
      · refine .inr ⟨fun k hk1 hk2 => ?_, h2⟩
        by_cases hk : k = 15 - n
        · rw [hk]; exact hb'
        · exact h1 k (by omega) hk2
    · rw [upM_some hb]
      refine .inl ⟨15 - n, by omega, by omega, ?_, fun j h1 h2 => by omega, ?_⟩
      · rw [← e, hb]; rfl
      · rw [← e, hb]
theorem upM_first (b : ByteArray × Int → Option Mem) (id : ByteArray) : (upM b id 16).getD Mem.zero = firstOf b id := by
  rcases upM_inv b id 16 (Nat.le_refl _) with ⟨k, _, h2, h3, h4, h5⟩ | ⟨h1, h2⟩
  · have hf : (List.range 16).find? (fun (k : Nat) => (b (id, (k : Int) + 1)).isSome) = some k := by
      rw [List.find?_range_eq_some]
      exact ⟨h3, List.mem_range.2 h2, fun j hj => by rw [h4 j (by omega) hj]; rfl⟩
    rw [h5]
    unfold firstOf leastSlot
    rw [hf]; rfl
  · have hf : (List.range 16).find? (fun (k : Nat) => (b (id, (k : Int) + 1)).isSome) = none := by
      rw [List.find?_eq_none]
      intro k hk
      rw [h1 k (by omega) (List.mem_range.1 hk)]
      decide
    rw [h2]
    unfold firstOf leastSlot
    rw [hf]
    have h3 := h1 0 (by omega) (by omega)
    simp only [Option.getD_none]
    rcases hb : b (id, ((0 : Nat) : Int) + 1) with _ | m
    · rfl
    · rw [hb] at h3; cases h3
/-- Paths and count of the first n slots. -/
def pathsN (b : ByteArray × Int → Option Mem) (id : ByteArray) (n : Nat) : List ByteArray := (List.range n).map (pathAt b id)
def cntN (b : ByteArray × Int → Option Mem) (id : ByteArray) (n : Nat) : Nat := ((List.range n).filter fun (k : Nat) => (b (id, (k : Int) + 1)).isSome).length
theorem pathsN_succ (b : ByteArray × Int → Option Mem) (id : ByteArray) (n : Nat) : pathsN b id (n + 1) = pathsN b id n ++ [pathAt b id n] := by
  unfold pathsN; rw [List.range_succ, List.map_append]; rfl
theorem pathsN_len (b : ByteArray × Int → Option Mem) (id : ByteArray) (n : Nat) : (pathsN b id n).length = n := by simp [pathsN]
theorem cntN_some {b : ByteArray × Int → Option Mem} {id : ByteArray} {n : Nat} {m : Mem} (h : b (id, (n : Int) + 1) = some m) : cntN b id (n + 1) = cntN b id n + 1 := by
  unfold cntN; rw [List.range_succ, List.filter_append]; simp [h]
theorem cntN_none {b : ByteArray × Int → Option Mem} {id : ByteArray} {n : Nat} (h : b (id, (n : Int) + 1) = none) : cntN b id (n + 1) = cntN b id n := by
  unfold cntN; rw [List.range_succ, List.filter_append]; simp [h]
theorem cntN_le (b : ByteArray × Int → Option Mem) (id : ByteArray) (n : Nat) : cntN b id n ≤ n := by
  unfold cntN
  exact Nat.le_trans (List.length_filter_le _ _) (by simp)
theorem pathAt_some {b : ByteArray × Int → Option Mem} {id : ByteArray} {n : Nat} {m : Mem} (h : b (id, (n : Int) + 1) = some m) : pathAt b id n = m.p := by unfold pathAt; rw [h]
theorem pathAt_none {b : ByteArray × Int → Option Mem} {id : ByteArray} {n : Nat} (h : b (id, (n : Int) + 1) = none) : pathAt b id n = ⟨#[]⟩ := by unfold pathAt; rw [h]
theorem buildA_eq (b : ByteArray × Int → Option Mem) (id : ByteArray) {T : Nat} (hT : (firstOf b id).t = (T : Int)) : buildA b id = ⟨id, pathsN b id T, (T : Int), (firstOf b id).e, (cntN b id T : Nat), (firstOf b id).l⟩ := by
  unfold buildA pathsN cntN
  rw [hT]
  simp only [Int.toNat_natCast]
end Go.Proofs.YtbblkknndaoefaaGreatDoor
namespace Go.Proofs.YtbblkknndaoefaaGreatDoor
open Go.RowKit Go.Maps
set_option linter.unusedVariables false

end Go.Proofs.YtbblkknndaoefaaGreatDoor
namespace Go.Proofs.YtbblkknndaoefaaGreatDoor
open Go.RowKit Go.Maps
set_option linter.unusedVariables false

/-- append onto a row of the call's own, the source nil or not. -/
theorem wpList_append_src {P : Program} {w : World} {ops : Array Oper} {rest : List Oper} {o : Oper} {a : Act} {Q : Exit → Act → World → Prop} (hgd : o.guard = none) (s x : Operand) (t : TypeId)
    (ho : o.op = .call { callee := .builtin .append, args := #[s, x], argTypes := #[t, t] })
    (base : Nat) (e : TypeId) (i : TypeInfo) (z : Value) (size bytes : Nat) (ht : P.underlying t = some (.slice e)) (hi : P.info? e = some i) (hz : i.zero = some z)
    (hsize : i.size = size) (hby : i.bytes = bytes) (hzs : z.cells.size = size) (hsz : 0 < size)
    (v : Value) (n : Nat) (xs : List Value) (hs : a.eval s = v) (hown : w.ownsRow base e size v n xs)
    (A : Option Addr) (m c : Nat) (news : List Value) (hx : a.eval x = .slice A m c) (hA : A = none → m = 0 ∧ c = 0) (hl : news.length = m * size)
    (hnews : ∀ ad, A = some ad → ∀ j u, news[j]? = some u → w.cell? (ad.add j) = some u) (h1 : ∀ u ∈ news, u.oneCell' = true)
    (h63 : n + m ≤ maxLen) (hbytes : (n + m) * bytes ≤ 140737488355328) (hbase : base ≤ w.heap.size)
    (h : ∀ v' w', w'.ownsRow base e size v' (n + m) (xs ++ news) → w.grownBy w' v.ownBlock → wpList P ops Q rest (a.put o.dst v') w') : wpList P ops Q (o :: rest) a w := by
  cases A with
  | none =>
    obtain ⟨rfl, rfl⟩ := hA rfl
    have hn : news = [] := List.eq_nil_of_length_eq_zero (by simpa using hl)
    subst hn
    exact wpList_append_own_none hgd s x t ho base e i size ht hi v n xs hs hown hx (h v w (by simpa using hown) (World.grownBy.refl w _))
  | some ad =>
    exact wpList_append_own w hgd s x t ho base e i z size bytes ht hi hz hsize hby hzs hsz v n xs hs hown ad m c news hx hl (hnews ad rfl) h1 h63 hbytes hbase (fun v' w' h2 h3 _ => h v' w' h2 h3)

theorem one_cell {w : World} {b : Nat} {v : Value} (h : w.cell? ⟨b, 0, none⟩ = some v) : ∀ j u, [v][j]? = some u → w.cell? ((⟨b, 0, none⟩ : Addr).add j) = some u := by
  intro j u hj
  match j, hj with
  | 0, hj => simp at hj; subst hj; rw [Addr.add_lit]; exact h

theorem flat_inv : ∀ (l : List Dev) (j : Nat) (u : Value), (flat l)[j]? = some u → ∃ i d jj, l[i]? = some d ∧ jj < 10 ∧ j = i * 10 + jj ∧ u = d.cell jj := by
  intro l j u h
  have hlt : j < (flat l).length := (List.getElem?_eq_some_iff.1 h).1
  rw [flat_len] at hlt
  have hi : j / 10 < l.length := by omega
  refine ⟨j / 10, l[j / 10], j % 10, List.getElem?_eq_getElem hi, by omega, by omega, ?_⟩
  have h1 := flat_at l (j / 10) l[j / 10] (List.getElem?_eq_getElem hi) (j % 10) (by omega)
  rw [show j / 10 * 10 + j % 10 = j from by omega, h] at h1
  exact Option.some.inj h1
theorem Devs.cell_of {W : World} {ad : Addr} {cap : Nat} {ds : List Dev} (h : Devs W (some ad) cap ds) {i : Nat} {d : Dev} (hd : ds[i]? = some d) {j : Nat} (hj : j < 10) : W.cell? (ad.add (i * 10 + j)) = some (d.cell j) := by
  obtain ⟨h1, _, h3⟩ := h.cell ad rfl (by intro e; subst e; simp at hd)
  obtain ⟨b, o, sp⟩ := ad
  simp at h1; subst h1
  rw [Addr.add_lit]; exact h3 i d hd j hj
theorem Devs.src_take {W : World} {a : Option Addr} {cap : Nat} {ds : List Dev} (h : Devs W a cap ds) (k : Nat) : ∀ ad, a = some ad → ∀ j u, (flat (ds.take k))[j]? = some u → W.cell? (ad.add j) = some u := by
  intro ad e j u hu
  subst e
  obtain ⟨i, d, jj, h1, h2, rfl, rfl⟩ := flat_inv _ _ _ hu
  refine h.cell_of ?_ h2
  rw [List.getElem?_take] at h1
  split at h1
  · exact h1
  · cases h1
theorem Devs.src_drop {W : World} {a : Option Addr} {cap : Nat} {ds : List Dev} (h : Devs W a cap ds) (k : Nat) : ∀ ad, a = some ad → ∀ j u, (flat (ds.drop k))[j]? = some u → W.cell? ((ad.add (k * 10)).add j) = some u := by
  intro ad e j u hu
  subst e
  obtain ⟨i, d, jj, h1, h2, rfl, rfl⟩ := flat_inv _ _ _ hu
  rw [List.getElem?_drop] at h1
  have h3 := h.cell_of h1 h2
  obtain ⟨hsp, _, _⟩ := h.cell ad rfl (by intro e; subst e; simp at h1)
  obtain ⟨b, o, sp⟩ := ad
  simp only at hsp
  subst hsp
  rw [Addr.add_lit] at h3
  rw [Addr.add_lit, Addr.add_lit, ← h3]
  congr 2
  omega

theorem own_fr {W w1 : World} {base : Nat} {e : TypeId} {size : Nat} {v : Value} {n : Nat} {xs : List Value} (h : W.ownsRow base e size v n xs) (hg : W.grownBy w1 v.ownBlock) : Fr (From base) W w1 :=
  (Fr.of_grown hg).mono (fun b _ e => ownsRow_blk h e)
theorem Devs.keep {W W' : World} {a : Option Addr} {cap : Nat} {ds : List Dev} (h : Devs W a cap ds) (hf : Fr (From W.heap.size) W W') : Devs W' a cap ds :=
  h.fr hf (fun ad e hne hS => by have := (h.cell ad e hne).2.1; unfold From at hS; omega)
theorem cells_fr {W W' : World} {b : Nat} {xs : List Value} (h : ∀ j u, xs[j]? = some u → W.cell? ((⟨b, 0, none⟩ : Addr).add j) = some u) (hf : Fr No W W') : ∀ j u, xs[j]? = some u → W'.cell? ((⟨b, 0, none⟩ : Addr).add j) = some u :=
  fun j u hu => hf.cell (h j u hu) id
theorem flat_ins (ds : List Dev) (q : Nat) (d : Dev) : flat (ds.take q) ++ d.vals.toList ++ flat (ds.drop q) = flat (insAt ds q d) := by
  unfold flat insAt
  rw [List.flatMap_append, List.flatMap_cons, List.append_assoc]
theorem ins_end {wr w0 W : World} {a' : Option Addr} {n c' : Nat} {xs : List Value} {T E : TypeId} (h0 : Fr No wr w0) (hf : Fr (From w0.heap.size) w0 W) (hb : W.heap[wr.heap.size]? = some (.cells #[.slice none 0 0] T)) (ho : W.ownsRow w0.heap.size E 10 (.slice a' n c') n xs) (hs : wr.heap.size < w0.heap.size) :
    (W.setCell ⟨wr.heap.size, 0, none⟩ (.slice a' n c')).heap[wr.heap.size]? = some (.cells #[.slice a' n c'] T) ∧ (W.setCell ⟨wr.heap.size, 0, none⟩ (.slice a' n c')).ownsRow wr.heap.size E 10 (.slice a' n c') n xs ∧ Fr (From wr.heap.size) wr (W.setCell ⟨wr.heap.size, 0, none⟩ (.slice a' n c')) := by
  have hx : Fr (Is wr.heap.size) W (W.setCell ⟨wr.heap.size, 0, none⟩ (.slice a' n c')) := Fr.setCell (S := Is wr.heap.size) (p := ⟨wr.heap.size, 0, none⟩) (Fr.refl _ _) (fun _ => rfl) _
  refine ⟨block_setCell hb 0 _, ownsRow_base (ownsRow_fr ho hx (fun b hb e => by unfold Is at e; omega)) (by omega), ?_⟩
  have h1 : Fr (From wr.heap.size) wr w0 := h0.mono (fun _ _ h => h.elim)
  exact (h1.step hf (fun b hb h => by unfold From at *; omega)).step hx (fun b hb e => by unfold Is at e; unfold From; omega)

section
variable {w W W' : World} {a : Option Addr} {n cap : Nat} {d : Dev}
end

end Go.Proofs.YtbblkknndaoefaaGreatDoor
namespace Go.Proofs.YtbblkknndaoefaaGreatDoor
open Go.RowKit Go.Maps
set_option linter.unusedVariables false
theorem eql_nilS (W : World) (a : Option Addr) (n c : Nat) : (binOp .eql 33 (.slice a n c) (.slice none 0 0)).run Tryz.prog W = .ok (.bool a.isNone) W := Lib.run_eql_slice_nil W 33 9 a n c 0 0 Tryz.underlying33
theorem Strs.src' {W : World} {a : Option Addr} {cap : Nat} {l : List ByteArray} (h : Strs W a cap l) : ∀ ad, a = some ad → ∀ j u, (l.map Value.string)[j]? = some u → W.cell? (ad.add j) = some u := by
  intro ad e j u hu
  rw [List.getElem?_map] at hu
  obtain ⟨x, hx, rfl⟩ := Option.map_eq_some_iff.1 hu
  obtain ⟨h1, _, h3⟩ := h.cell ad e (by intro e; subst e; simp at hx)
  obtain ⟨b, o, sp⟩ := ad
  simp only at h1; subst h1
  rw [Addr.add_lit]
  exact h3 j x hx
set_option maxRecDepth 100000 in
set_option maxHeartbeats 1000000 in
theorem strs_clone (a : Option Addr) (cap : Nat) (l : List ByteArray) (w : World) (hl : Strs w a cap l) (hb : l.length ≤ 1000000) :
    Calls Tryz.prog 77 #[.slice a l.length cap] w fun e w' => (∃ a' c', e = .returned (.slice a' l.length c') ∧ Strs w' a' c' l ∧ BlkT w' a' 9 ∧ ∀ ad, a' = some ad → w.heap.size ≤ ad.block) ∧ Fr No w w' := by
  obtain ⟨i0, hi, hz0, hz1, hz2⟩ := info_parts infoS
  cases a with
  | none =>
    obtain ⟨rfl, rfl⟩ := hl.isNil rfl
    have hq := eql_nilS
    go_enter Tryz.func77, Tryz.ntmps77
    go_wp2_with fail
    go_ret
    exact ⟨⟨none, 0, rfl, Strs.nil _, BlkT.none _ _, fun _ e => by cases e⟩, Fr.refl _ _⟩
  | some ad =>
    have hx : Fr No w (w.alloc (.cells #[] 9)) := (Fr.refl _ _).alloc _
    have hlx := hl.no hx (fun _ => id)
    have hq := eql_nilS
    go_enter Tryz.func77, Tryz.ntmps77
    have own0 : (w.alloc (.cells #[] 9)).ownsRow w.heap.size 9 1 (.slice (some ⟨w.heap.size, 0, none⟩) 0 0) 0 [] :=
      ⟨rfl, .inr ⟨w.heap.size, 0, #[], rfl, Nat.le_refl _, block_alloc _ _, Nat.le_refl _, by unfold maxLen; omega, rfl, rfl⟩⟩
    go_wp2_with (at_builtin; refine wpList_append_src rfl _ _ 33 rfl w.heap.size 9 i0 (.string ByteArray.empty) 1 16 Tryz.underlying33 hi hz0 hz1 hz2 rfl (by decide) _ 0 [] rfl own0 (some ad) l.length _ (l.map Value.string) rfl (fun e => by cases e) (by simp) (fun ad' e => hlx.src' ad' e) (strs_one l) (by unfold maxLen; omega) (by omega) (by first | omega | (simp; done) | (simp; omega)) ?_; intro v' w1 own1 gr1)
    go_ret
    simp only [Nat.zero_add, List.nil_append] at own1
    obtain ⟨a', c', hv, h1, h2⟩ := Strs.of_own own1
    subst hv
    exact ⟨⟨a', c', rfl, h1, own_typ own1, h2⟩, ((Fr.refl No w).alloc _).step (own_fr own0 gr1) (fun b hb h => by unfold From at h; omega)⟩
end Go.Proofs.YtbblkknndaoefaaGreatDoor
namespace Go.Proofs.YtbblkknndaoefaaGreatDoor
open Go.RowKit Go.Maps
set_option linter.unusedVariables false

def hasS (l : List ByteArray) (s : ByteArray) : Bool := l.any fun x => x.toList == s.toList
def IdxS (l : List ByteArray) (s : ByteArray) (e : Ending) : Prop := ∃ i : Int, e = .returned (.int .i64 i) ∧ decide (0 ≤ i) = hasS l s

theorem hasS_at {l : List ByteArray} {s : ByteArray} {k : Nat} {x : ByteArray} (h : l[k]? = some x) (h2 : (x.toList == s.toList) = true) : hasS l s = true := by
  unfold hasS; rw [List.any_eq_true]; exact ⟨x, List.mem_of_getElem? h, h2⟩
theorem hasS_no {l : List ByteArray} {s : ByteArray} (h : ∀ x ∈ l, (x.toList == s.toList) = false) : hasS l s = false := by
  unfold hasS; rw [List.any_eq_false]; intro x hx; simp [h x hx]

set_option maxHeartbeats 1000000 in
theorem ref_in32 (a : Option Addr) (cap : Nat) (l : List ByteArray) (s : ByteArray) (w : World) (hl : Strs w a cap l) :
    Calls Tryz.prog 81 #[.slice a l.length cap, .string s] w fun e w' => e = .returned (.bool (hasS l s)) ∧ Fr No w w' := by
  have hm := hl.lenmax
  go_enter Tryz.func81, Tryz.ntmps81
  go_wp2_with fail
  go_loop [5] (fun i => ∃ k : Nat, k ≤ l.length ∧ i = .int .i64 k ∧ Hid (∀ x ∈ l.take k, (x.toList == s.toList) = false)) (fun i => l.length - (intOf i).toNat)
  case atStart => exact ⟨0, by omega, rfl, by unfold Hid; simp⟩
  case round =>
    obtain ⟨k, hk, rfl, hno⟩ := hrel
    by_cases hlt : k < l.length
    · have hlt' : (k : Int) < l.length := by omega
      obtain ⟨b, off, x, rfl, hx, hc⟩ := hl.at hlt
      have Hx := Lib.hid hx
      clear hx
      rcases he : (x.toList == s.toList) with _ | _
      · go_wp2_with fail
        go_round
        case rel =>
          refine ⟨k + 1, by omega, by go_num, ?_⟩
          unfold Hid
          intro y hy
          rw [List.take_add_one, Hx.out] at hy
          rcases List.mem_append.1 hy with h | h
          · exact hno.out y h
          · simp at h; subst h; exact he
        case measure => simp [intOf]; omega
      · have Hg : Hid (hasS l s = true) := hasS_at Hx.out he
        go_wp2_with fail
        go_ret
        exact ⟨ret_bool Hg.out.symm, Fr.refl _ _⟩
    · obtain rfl : k = l.length := by omega
      have h := hno.out
      rw [List.take_of_length_le (by omega)] at h
      have Hg : Hid (hasS l s = false) := hasS_no h
      go_wp2_with fail
      go_ret
      exact ⟨ret_bool Hg.out.symm, Fr.refl _ _⟩

def sameT (l l' : List ByteArray) : Bool := decide (l.map (·.toList) = l'.map (·.toList))

set_option maxHeartbeats 1000000 in
theorem same_texts (a a' : Option Addr) (cap cap' : Nat) (l l' : List ByteArray) (w : World) (hl : Strs w a cap l) (hl' : Strs w a' cap' l') :
    Calls Tryz.prog 25 #[.slice a l.length cap, .slice a' l'.length cap'] w fun e w' => e = .returned (.bool (sameT l l')) ∧ Fr No w w' := by
  have hm := hl.lenmax
  have hm' := hl'.lenmax
  by_cases hlen : l.length = l'.length
  · have hlb : ((l.length : Int) != l'.length) = false := by simp [hlen]
    have Hlen := Lib.hid hlen
    clear hlen
    go_enter Tryz.func25, Tryz.ntmps25
    go_wp2_with fail
    go_loopw [5] (fun i wr => ∃ k : Nat, k ≤ l.length ∧ i = .int .i64 (k : Int) ∧ Hid ((l.take k).map (·.toList) = (l'.take k).map (·.toList)) ∧ Fr No w wr) (fun i _ => l.length - (intOf i).toNat)
    case atStart => exact ⟨0, by omega, rfl, by unfold Hid; simp, Fr.refl _ _⟩
    case round =>
      obtain ⟨k, hk, rfl, hp, hf⟩ := hrel
      by_cases hlt : k < l.length
      · have hlt1 : (k : Int) < l.length := by omega
        have hlt2 : (k : Int) < l'.length := by have := Hlen.out; omega
        have hlt3 : k < l'.length := by omega
        go_wp2_with fail
        refine region_sig No [(0, false), (1, false), (2, false), (3, false), (4, false), (5, false), (6, false), (7, false), (8, false)] (by kernel_rfl) (by kernel_rfl) (fun w0 hf0 => ?_)
        have hf1 := hf.step hf0 (fun _ _ h => h)
        obtain ⟨b, off, x, rfl, hx, c0⟩ := (hl.no hf1 (fun _ => id)).at hlt
        obtain ⟨b', off', x', rfl, hx', c1⟩ := (hl'.no hf1 (fun _ => id)).at hlt3
        have g0 : ∀ g : Gr No w0, g.W.cell? ⟨b, off + k, none⟩ = some (.string x) := fun g => g.fr.cell c0 id
        have g1 : ∀ g : Gr No w0, g.W.cell? ⟨b', off' + k, none⟩ = some (.string x') := fun g => g.fr.cell c1 id
        have Hx := Lib.hid hx
        have Hx' := Lib.hid hx'
        clear c0 c1 hx hx'
        repeat (apply sig_q; exact rfl; exact rfl; exact rfl; intro K hK; go_big_quiet_op; go_big_quiet_on)
        refine sig_end ?_
        rcases he : (x.toList == x'.toList) with _ | _
        · have Hs : Hid (sameT l l' = false) := by
            unfold Hid sameT
            rw [decide_eq_false_iff_not]
            intro h
            have h1 : (l.map (·.toList))[k]? = (l'.map (·.toList))[k]? := by rw [h]
            rw [List.getElem?_map, List.getElem?_map, Hx.out, Hx'.out] at h1
            simp at h1
            rw [h1] at he
            simp at he
          go_wp2_with fail
          go_ret
          exact ⟨ret_bool Hs.out.symm, hf1⟩
        · have He := Lib.hid he
          go_wp2_with fail
          go_roundw
          case rel =>
            refine ⟨k + 1, by omega, by go_num, ?_, hf1⟩
            unfold Hid
            rw [List.take_add_one, List.take_add_one, Hx.out, Hx'.out, List.map_append, List.map_append, hp.out]
            have := He.out
            simp at this
            simp [this]
          case measure => simp [intOf]; omega
      · obtain rfl : k = l.length := by omega
        have Hs : Hid (sameT l l' = true) := by
          unfold Hid sameT
          have h := hp.out
          rw [List.take_length, Hlen.out, List.take_length] at h
          simpa using h
        go_wp2_with fail
        go_ret
        exact ⟨ret_bool Hs.out.symm, hf⟩
  · have hlb : ((l.length : Int) != l'.length) = true := by simp; omega
    have Hs : Hid (sameT l l' = false) := by
      unfold Hid sameT
      rw [decide_eq_false_iff_not]
      intro h
      have := congrArg List.length h
      simp at this
      exact hlen this
    clear hlen
    go_enter Tryz.func25, Tryz.ntmps25
    go_wp2_with fail
    go_ret
    exact ⟨ret_bool Hs.out.symm, Fr.refl _ _⟩
end Go.Proofs.YtbblkknndaoefaaGreatDoor
namespace Go.Proofs.YtbblkknndaoefaaGreatDoor
open Go.RowKit Go.Maps
set_option linter.unusedVariables false

structure Vir where
  q : ByteArray
  o : ByteArray
  c : ByteArray
  r : Int
def Vir.vals (v : Vir) : Array Value := #[.string v.q, .string v.o, .string v.c, .int .i64 v.r]
structure Virs (w : World) (a : Option Addr) (cap : Nat) (L : List Vir) : Prop where
  len : L.length ≤ cap
  max : cap ≤ maxLen
  isNil : a = none → L = [] ∧ cap = 0
  cell : ∀ ad, a = some ad → L ≠ [] → ad.spot = none ∧ ad.block < w.heap.size ∧ ∀ i m, L[i]? = some m → ∀ j, j < 4 → w.cell? ⟨ad.block, ad.off + (i * 4 + j), none⟩ = m.vals[j]?
/-- The four cells of a wanted device at (b, o). -/
structure VirAt (w : World) (b o : Nat) (m : Vir) : Prop where
  c0 : w.cell? ⟨b, o, none⟩ = some (.string m.q)
  c1 : w.cell? ⟨b, o + 1, none⟩ = some (.string m.o)
  c2 : w.cell? ⟨b, o + 2, none⟩ = some (.string m.c)
  c3 : w.cell? ⟨b, o + 3, none⟩ = some (.int .i64 m.r)
theorem Virs.elem {w : World} {a : Option Addr} {cap : Nat} {L : List Vir} (h : Virs w a cap L) {k : Nat} (hk : k < L.length) :
    ∃ b off m, a = some ⟨b, off, none⟩ ∧ L[k]? = some m ∧ VirAt w b (off + k * 4) m ∧ b < w.heap.size := by
  cases a with
  | none => obtain ⟨rfl, _⟩ := h.isNil rfl; simp at hk
  | some ad =>
    obtain ⟨b, off, sp⟩ := ad
    obtain ⟨h1, h2, h3⟩ := h.cell _ rfl (by intro e; subst e; simp at hk)
    simp at h1; subst h1
    have hc := h3 k _ (List.getElem?_eq_getElem hk)
    exact ⟨b, off, L[k], rfl, List.getElem?_eq_getElem hk, ⟨hc 0 (by omega), hc 1 (by omega), hc 2 (by omega), hc 3 (by omega)⟩, h2⟩
theorem Virs.lenmax {w : World} {a : Option Addr} {cap : Nat} {L : List Vir} (h : Virs w a cap L) : L.length ≤ 9223372036854775807 := by
  have h1 := h.len; have h2 := h.max; unfold maxLen at h2; omega
theorem Virs.fr {S : Nat → Prop} {w w' : World} {a : Option Addr} {cap : Nat} {L : List Vir} (h : Virs w a cap L) (hf : Fr S w w') (hS : ∀ ad, a = some ad → L ≠ [] → ¬ S ad.block) : Virs w' a cap L :=
  ⟨h.len, h.max, h.isNil, fun ad e hne => by
    obtain ⟨h1, h2, h3⟩ := h.cell ad e hne
    refine ⟨h1, Nat.lt_of_lt_of_le h2 hf.size, fun i m hi j hj => ?_⟩
    rw [← h3 i m hi j hj]
    exact World.cell?_of_block (hf.block _ h2 (hS ad e hne))⟩
theorem Virs.no {S : Nat → Prop} {w w' : World} {a : Option Addr} {cap : Nat} {L : List Vir} (h : Virs w a cap L) (hf : Fr S w w') (hS : ∀ k, ¬ S k) : Virs w' a cap L := h.fr hf (fun _ _ _ => hS _)
theorem Virs.nil (w : World) : Virs w none 0 [] := ⟨by simp, by simp, fun _ => ⟨rfl, rfl⟩, fun _ e _ => by cases e⟩
theorem infoV : (Tryz.prog.info? 64).map (fun i => (i.zero, i.size, i.bytes)) = some (some (.agg #[.string ByteArray.empty, .string ByteArray.empty, .string ByteArray.empty, .int .i64 0]), 4, 56) := by kernel_rfl
def vflat (L : List Vir) : List Value := L.flatMap (fun m => m.vals.toList)
theorem vflat_snoc (L : List Vir) (m : Vir) : vflat (L ++ [m]) = vflat L ++ m.vals.toList := by simp [vflat]
theorem vvals_one (m : Vir) : ∀ u ∈ m.vals.toList, u.oneCell' = true := by
  intro u hu
  simp [Vir.vals] at hu
  rcases hu with rfl | rfl | rfl | rfl <;> rfl
theorem vflat_at : ∀ (L : List Vir) (i : Nat) (m : Vir), L[i]? = some m → ∀ j, j < 4 → (vflat L)[i * 4 + j]? = m.vals[j]?
  | [], i, m, h, j, hj => by simp at h
  | x :: t, 0, m, h, j, hj => by
    simp at h; subst h
    have : vflat (x :: t) = x.vals.toList ++ vflat t := by simp [vflat]
    rw [this, List.getElem?_append_left (by simp [Vir.vals]; omega)]
    simp
  | x :: t, i + 1, m, h, j, hj => by
    have : vflat (x :: t) = x.vals.toList ++ vflat t := by simp [vflat]
    rw [this, List.getElem?_append_right (by simp [Vir.vals]; omega), show (i + 1) * 4 + j - x.vals.toList.length = i * 4 + j from by simp [Vir.vals]; omega]
    exact vflat_at t i m (by simpa using h) j hj
theorem Virs.of_own {w : World} {base : Nat} {e : TypeId} {v : Value} {L : List Vir} (h : w.ownsRow base e 4 v L.length (vflat L)) :
    ∃ a cap, v = .slice a L.length cap ∧ Virs w a cap L ∧ ∀ ad, a = some ad → base ≤ ad.block := by
  obtain ⟨_, ⟨rfl, h2⟩ | ⟨g, cap, cur, rfl, hg, hb, h1, h2, h3, h4⟩⟩ := h
  · have : L = [] := List.eq_nil_of_length_eq_zero h2
    subst this
    exact ⟨none, 0, rfl, Virs.nil w, fun _ e => by cases e⟩
  · refine ⟨some ⟨g, 0, none⟩, cap, rfl, ⟨h1, h2, (fun e => by cases e), ?_⟩, fun ad e => by cases e; exact hg⟩
    intro ad e hne
    cases e
    refine ⟨rfl, lt_of_block hb, fun i m hi j hj => ?_⟩
    rw [cell_of_block hb]
    simp only [Nat.zero_add]
    have hlt : i < L.length := (List.getElem?_eq_some_iff.1 hi).1
    have e1 : (cur.toList.take (L.length * 4))[i * 4 + j]? = (vflat L)[i * 4 + j]? := by rw [h4]
    rw [List.getElem?_take_of_lt (by omega), vflat_at L i m hi j hj] at e1
    rw [← Array.getElem?_toList, e1]
end Go.Proofs.YtbblkknndaoefaaGreatDoor
namespace Go.Proofs.YtbblkknndaoefaaGreatDoor
open Go.RowKit
set_option linter.unusedVariables false

theorem hasS_iff {l : List ByteArray} {s : ByteArray} : hasS l s = true ↔ s ∈ l := by
  unfold hasS
  rw [List.any_eq_true]
  constructor
  · rintro ⟨x, hx, h⟩
    rw [strEq] at h
    rw [← of_decide_eq_true h]; exact hx
  · intro h
    exact ⟨s, h, by rw [strEq]; simp⟩
def openT : ByteArray := ⟨#[111, 112, 101, 110, 45]⟩
theorem append_inj {a x y : ByteArray} (h : a ++ x = a ++ y) : x = y := by
  have h1 := congrArg (fun b : ByteArray => b.data.toList) h
  simp at h1
  cases x; cases y
  simp only at h1
  rw [h1]
/-- The content of the layer of an ID. -/
def inner0 (L : List Mem) (x : ByteArray) : ByteArray := ((best L (kb x)).getD Mem.zero).l.headD ⟨#[]⟩
def virOf (L : List Mem) (r : Int) (x : ByteArray) : Vir := ⟨⟨#[]⟩, openT ++ x, inner0 L x, r⟩
def opened (ids K : List ByteArray) : List ByteArray := ids.filter (hasS K)
def asked (ids K : List ByteArray) : List ByteArray := ids.filter fun x => !hasS K x
def cntO (V : List Vir) (s : ByteArray) : Nat := (V.filter fun v => v.o.toList == s.toList).length
def cntS (l : List ByteArray) (s : ByteArray) : Nat := (l.filter fun x => x.toList == s.toList).length
theorem cntO_snoc (V : List Vir) (v : Vir) (s : ByteArray) : cntO (V ++ [v]) s = cntO V s + (if (v.o.toList == s.toList) = true then 1 else 0) := by
  unfold cntO
  rw [List.filter_append, List.length_append]
  congr 1
  rw [List.filter_cons]
  split <;> rfl
theorem cntS_snoc (l : List ByteArray) (x s : ByteArray) : cntS (l ++ [x]) s = cntS l s + (if (x.toList == s.toList) = true then 1 else 0) := by
  unfold cntS
  rw [List.filter_append, List.length_append]
  congr 1
  rw [List.filter_cons]
  split <;> rfl
theorem cntO_le (V : List Vir) (s : ByteArray) : cntO V s ≤ V.length := List.length_filter_le _ _
theorem cntS_le (l : List ByteArray) (s : ByteArray) : cntS l s ≤ l.length := List.length_filter_le _ _
theorem cntS_count (l : List ByteArray) (s : ByteArray) : cntS l s = (l.filter fun x => decide (x = s)).length := by
  unfold cntS
  congr 1
  refine List.filter_congr (fun x _ => ?_)
  rw [strEq]
theorem cntO_open (L : List Mem) (r : Int) (l : List ByteArray) (x : ByteArray) : cntO (l.map (virOf L r)) (openT ++ x) = cntS l x := by
  unfold cntO cntS
  rw [List.filter_map, List.length_map]
  congr 1
  refine List.filter_congr (fun y _ => ?_)
  show ((openT ++ y).toList == (openT ++ x).toList) = (y.toList == x.toList)
  rw [strEq, strEq, decide_eq_decide]
  exact ⟨append_inj, fun e => by rw [e]⟩
theorem AscS.nodup {l : List ByteArray} (h : AscS (l.map kb)) : l.Nodup := by
  have h1 := List.pairwise_map.1 h
  exact h1.imp (fun {a b} h e => h.2 (by rw [e]))
theorem filter_one {l : List ByteArray} (h : l.Nodup) {x : ByteArray} (hx : x ∈ l) : (l.filter fun y => decide (y = x)).length = 1 := by
  induction l with
  | nil => cases hx
  | cons y t ih =>
    obtain ⟨h1, h2⟩ := List.nodup_cons.1 h
    by_cases e : y = x
    · subst e
      have : t.filter (fun z => decide (z = y)) = [] := by
        rw [List.filter_eq_nil_iff]
        intro z hz
        simp
        rintro rfl
        exact h1 hz
      simp [this]
    · have hx' : x ∈ t := by
        rcases List.mem_cons.1 hx with h3 | h3
        · exact absurd h3.symm e
        · exact h3
      simp [e, ih h2 hx']
/-- Each layer is opened or asked for, and never both. -/
theorem shares {L : List Mem} {ids : List ByteArray} (h : IsIds L ids) (K : List ByteArray) (r : Int) {x : ByteArray} (hx : x ∈ ids) : cntO ((opened ids K).map (virOf L r)) (openT ++ x) + cntS (asked ids K) x = 1 := by
  rw [cntO_open, cntS_count, cntS_count]
  unfold opened asked
  have hn := AscS.nodup h.asc
  cases hk : hasS K x with
  | true =>
    have h1 : x ∈ ids.filter (hasS K) := List.mem_filter.2 ⟨hx, hk⟩
    rw [filter_one (hn.filter _) h1]
    have : (ids.filter fun y => !hasS K y).filter (fun y => decide (y = x)) = [] := by
      rw [List.filter_eq_nil_iff]
      intro z hz
      simp
      rintro rfl
      have := (List.mem_filter.1 hz).2
      simp [hk] at this
    rw [this]; rfl
  | false =>
    have h1 : x ∈ ids.filter (fun y => !hasS K y) := List.mem_filter.2 ⟨hx, by simp [hk]⟩
    rw [filter_one (hn.filter _) h1]
    have : (ids.filter (hasS K)).filter (fun y => decide (y = x)) = [] := by
      rw [List.filter_eq_nil_iff]
      intro z hz
      simp
      rintro rfl
      have := (List.mem_filter.1 hz).2
      simp [hk] at this
    rw [this]; rfl
theorem opened_asked_len (ids K : List ByteArray) : (opened ids K).length + (asked ids K).length = ids.length := by
  unfold opened asked
  induction ids with
  | nil => rfl
  | cons x t ih =>
    rw [List.filter_cons, List.filter_cons]
    cases hasS K x <;> simp <;> omega
/-- IDs ascend strictly, bytewise. -/
theorem leS_less (x y : List UInt8) : leS x y = (Op.bytesLess x y || decide (x = y)) := by
  unfold leS
  induction x generalizing y with
  | nil => cases y <;> simp [Op.bytesLess]
  | cons a s ih =>
    cases y with
    | nil => simp [Op.bytesLess]
    | cons b t =>
      have h := ih t
      by_cases h1 : a < b
      · have h4 : (a :: s ≤ b :: t) := List.cons_le_cons_iff.2 (.inl h1)
        simp [Op.bytesLess, h1, h4]
      · by_cases h2 : b < a
        · have h3 : a ≠ b := fun e => by subst e; exact absurd h2 (UInt8.lt_irrefl _)
          have h4 : ¬ (a :: s ≤ b :: t) := fun h5 => by
            rcases List.cons_le_cons_iff.1 h5 with h6 | ⟨h6, _⟩
            · exact h1 h6
            · exact h3 h6
          simp [Op.bytesLess, h1, h3, h4]
        · have h3 : a = b := UInt8.le_antisymm (UInt8.not_lt.1 h2) (UInt8.not_lt.1 h1)
          subst h3
          have h4 : (a :: s ≤ a :: t) ↔ s ≤ t := by
            rw [List.cons_le_cons_iff]
            constructor
            · rintro (h6 | ⟨_, h6⟩)
              · exact absurd h6 h1
              · exact h6
            · intro h6; exact .inr ⟨rfl, h6⟩
          simp only [h4, h, Op.bytesLess]
          simp

/-! ### one more key -/
/-- What one more key makes of what was opened. -/
theorem opened_key {ids K : List ByteArray} (hn : ids.Nodup) (key : ByteArray) :
    (hasS (asked ids K) key = false ∧ opened ids (K ++ [key]) = opened ids K) ∨
    (hasS (asked ids K) key = true ∧ opened ids K = (opened ids (K ++ [key])).filter (fun x => !decide (x = key)) ∧ (opened ids (K ++ [key])).length = (opened ids K).length + 1) := by
  have hk : ∀ x, hasS (K ++ [key]) x = (hasS K x || decide (x = key)) := fun x => by
    unfold hasS
    rw [List.any_append]
    simp only [List.any_cons, List.any_nil, Bool.or_false]
    congr 1
    rw [strEq]
    by_cases e : key = x
    · simp [e]
    · simp [e, Ne.symm e]
  cases ha : hasS (asked ids K) key with
  | false =>
    refine .inl ⟨rfl, ?_⟩
    unfold opened
    refine List.filter_congr (fun x hx => ?_)
    rw [hk]
    by_cases e : x = key
    · subst e
      cases hK : hasS K x with
      | true => rfl
      | false =>
        exfalso
        have : x ∈ asked ids K := List.mem_filter.2 ⟨hx, by simp [hK]⟩
        rw [hasS_iff.2 this] at ha; cases ha
    · simp [e]
  | true =>
    have hm := List.mem_filter.1 (hasS_iff.1 ha)
    have hK : hasS K key = false := by simpa using hm.2
    have e1 : opened ids K = (opened ids (K ++ [key])).filter (fun x => !decide (x = key)) := by
      unfold opened
      rw [List.filter_filter]
      refine List.filter_congr (fun x hx => ?_)
      rw [hk]
      by_cases e : x = key
      · subst e; simp [hK]
      · simp [e]
    refine .inr ⟨rfl, e1, ?_⟩
    have hx : key ∈ opened ids (K ++ [key]) := List.mem_filter.2 ⟨hm.1, by rw [hk]; simp⟩
    have h2 := filter_one (l := opened ids (K ++ [key])) (hn.filter _) hx
    have h3 : ∀ l : List ByteArray, (l.filter fun x => !decide (x = key)).length + (l.filter fun x => decide (x = key)).length = l.length := by
      intro l
      induction l with
      | nil => rfl
      | cons y t ih =>
        rw [List.filter_cons, List.filter_cons]
        by_cases e : y = key <;> simp [e] <;> omega
    have h4 := h3 (opened ids (K ++ [key]))
    rw [← e1, h2] at h4
    exact h4.symm
theorem filter_at {α : Type} (p : α → Bool) : ∀ (l : List α) (j : Nat) (x : α), l[j]? = some x → p x = true → (l.filter p)[((l.take j).filter p).length]? = some x
  | [], j, x, h, _ => by simp at h
  | y :: t, 0, x, h, hp => by
    simp at h; subst h
    simp [hp]
  | y :: t, j + 1, x, h, hp => by
    have ih := filter_at p t j x (by simpa using h) hp
    rw [List.take_succ_cons, List.filter_cons, List.filter_cons]
    split
    · simpa using ih
    · exact ih
end Go.Proofs.YtbblkknndaoefaaGreatDoor
