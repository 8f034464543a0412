/- The groups of a range over places: plain; look-ups by their runs. What gather.Arrays answers. array's good members. -/
import Derived.Test.YtcibciippghooaaGreatDoorZP2
import Derived.Maps.AppendAt
import Derived.Test.YtcibciippghooaaGreatDoorZL20
import Derived.Laws.EntriesVeiled
namespace Go.Proofs.YtcibciippghooaaGreatDoor
open Go.RowKit Go.Maps Go.Sort Go.Shelf
set_option linter.unusedVariables false

theorem wp_look_run {w : World} {ops : Array Oper} {rest : List Oper} {o : Oper} {a : Act} {Q : Exit → Act → World → Prop} (hg : o.guard = none) (m x : Operand) (t : TypeId) (hop : o.op = Op.lookup t m x false)
    (mv xv v : Value) (hm : a.eval m = mv) (hx : a.eval x = xv) (hrun : (Instr.lookup t mv xv false).run Tryz.prog w = .ok v w)
    (hK : wpList Tryz.prog ops Q rest (a.put o.dst v) w) : wpList Tryz.prog ops Q (o :: rest) a w := by
  refine wpList_plain hg fun K' hK' => ?_
  unfold Oper.wp
  simp [execOp, hop, hm, hx, hrun, Result.andThen]
  exact hK' _ _ hK
theorem wp_upd_run {w : World} {ops : Array Oper} {rest : List Oper} {o : Oper} {a : Act} {Q : Exit → Act → World → Prop} (hg : o.guard = none) (m x v : Operand) (t : TypeId) (hop : o.op = Op.mapUpdate t m x v)
    (mv xv vv : Value) (hm : a.eval m = mv) (hx : a.eval x = xv) (hv : a.eval v = vv) {w2 : World} (hrun : (Instr.mapUpdate t mv xv vv).run Tryz.prog w = .ok () w2)
    (hK : wpList Tryz.prog ops Q rest (a.put o.dst undef) w2) : wpList Tryz.prog ops Q (o :: rest) a w := by
  refine wpList_plain hg fun K' hK' => ?_
  unfold Oper.wp
  simp [execOp, hop, hm, hx, hv, hrun, Result.andThen]
  exact hK' _ _ hK
theorem quiet_look {o : Oper} {a : Act} {S : World → Prop} {K : Act → Prop} (hg : o.guard = none) (m x : Operand) (t : TypeId) (hop : o.op = Op.lookup t m x false) (mv xv v : Value) (hm : a.eval m = mv) (hx : a.eval x = xv)
    (hrun : ∀ W, S W → (Instr.lookup t mv xv false).run Tryz.prog W = .ok v W) (hK : K (a.put o.dst v)) : o.quiet Tryz.prog a S K := by
  refine ⟨v, fun W hW => ?_, hK⟩
  unfold Oper.quietAt
  simp [execOp, hop, hm, hx, hrun W hW, Result.andThen, Oper.quietUpon]
set_option maxRecDepth 100000 in
theorem hfdM : ∀ (p i : ByteArray) (r s t e : Int) (a : Option Addr) (n c : Nat) (W : World), (Instr.field 31 (.agg #[.string p, .string i, .int .i64 r, .int .i64 s, .int .i64 t, .int .i64 e, .slice a n c]) 0).run Tryz.prog W = .ok (.string p) W := by intros; kernel_rfl
theorem Fr.grownF {w w' : World} (h : Fr (From w.heap.size) w w') : w.grownBy w' none := ⟨h.os, h.tape, h.output, h.size, fun k hk _ => h.block k hk (by unfold From; omega)⟩

def mapP (g : ByteArray × Int → Option Mem) : ByteArray × Int → Option Value := fun x => (g x).map Mem.v
theorem mapP_upd (g : ByteArray × Int → Option Mem) (x : ByteArray × Int) (m : Mem) : updP (mapP g) x m.v = mapP (fun y => if y = x then some m else g y) := by
  funext y
  unfold updP mapP
  by_cases h : y = x <;> simp [h]
theorem infoI2 : (Tryz.prog.info? 3).map (fun i => (i.zero, i.size, i.bytes)) = some (some (.int .i64 0), 1, 8) := by kernel_rfl
/-- What of a map of places has been handed out, grouped. -/
structure Grp (D : DataW Value) (left : Lit → Bool) (f : List UInt8 → List Int) : Prop where
  mem : ∀ (x : ByteArray) (s : Int), s ∈ f (kb x) ↔ (x.size ≤ maxLen ∧ (Lit.int .i64 s).wf = true ∧ has D (plL (x, s)) = true ∧ left (plL (x, s)) = false)
  nodup : ∀ x : ByteArray, (f (kb x)).Nodup
theorem Grp.start (D : DataW Value) : Grp D (has D) (fun _ => []) := by
  constructor
  · intro x s
    simp only [List.not_mem_nil, false_iff]
    rintro ⟨_, _, h1, h2⟩
    rw [h1] at h2; cases h2
  · exact fun _ => List.nodup_nil
theorem Grp.step {D : DataW Value} {left : Lit → Bool} {f : List UInt8 → List Int} (h : Grp D left f) {x : ByteArray} {s : Int} (hx : x.size ≤ maxLen) (hs : (Lit.int .i64 s).wf = true) (hl : left (plL (x, s)) = true) (hD : has D (plL (x, s)) = true) :
    Grp D (fun z => left z && !z.sameKey (plL (x, s))) (fun z => if z = kb x then f (kb x) ++ [s] else f z) := by
  constructor
  · intro y r
    by_cases e : y = x
    · subst e
      rw [if_pos rfl, List.mem_append, h.mem]
      by_cases e2 : r = s
      · subst e2
        rw [WideAt.sameKey_self (isKeyPl _)]
        simp [hx, hs, hD]
      · constructor
        · rintro (⟨a, b, c, d⟩ | h1)
          · exact ⟨a, b, c, by rw [d]; rfl⟩
          · simp at h1; exact absurd h1 e2
        · rintro ⟨a, b, c, d⟩
          refine .inl ⟨a, b, c, ?_⟩
          cases hk : (plL (y, r)).sameKey (plL (y, s)) with
          | true =>
            have := plL_inj a b hx hs (WideAt.sameKey_eq hk)
            simp at this; exact absurd this e2
          | false => rw [hk] at d; simpa using d
    · rw [if_neg (fun he => e (kb_inj he)), h.mem]
      constructor
      · rintro ⟨a, b, c, d⟩
        exact ⟨a, b, c, by rw [d]; rfl⟩
      · rintro ⟨a, b, c, d⟩
        refine ⟨a, b, c, ?_⟩
        cases hk : (plL (y, r)).sameKey (plL (x, s)) with
        | true =>
          have := plL_inj a b hx hs (WideAt.sameKey_eq hk)
          simp at this; exact absurd this.1 e
        | false => rw [hk] at d; simpa using d
  · intro y
    by_cases e : y = x
    · subst e
      rw [if_pos rfl]
      refine List.nodup_append.2 ⟨h.nodup y, by simp, fun a ha b hb => ?_⟩
      obtain rfl : b = s := by simpa using hb
      intro hab
      subst hab
      obtain ⟨_, _, _, h4⟩ := (h.mem y a).1 ha
      rw [hl] at h4; cases h4
    · rw [if_neg (fun he => e (kb_inj he))]; exact h.nodup y
theorem has_of_at {D : DataW Value} {kl : Lit} {d : DataW Value} (h : ∀ zd, D.atKey kl zd = d) : has D kl = true := by
  cases hk : has D kl with
  | true => rfl
  | false =>
    have h1 := h (.held (.bool true))
    have h2 := h (.held (.bool false))
    rw [atKey_of_not_has hk] at h1 h2
    rw [← h2] at h1
    cases h1
theorem Grp.slots {D : DataW Value} {left : Lit → Bool} {f : List UInt8 → List Int} (h : Grp D left f) (hl : ∀ kl, left kl = false) {b : ByteArray × Int → Option Mem}
    (hh : ∀ x : ByteArray × Int, x.1.size ≤ maxLen → (Lit.int .i64 x.2).wf = true → has D (plL x) = (mapP b x).isSome) (hb : ∀ x s m, b (x, s) = some m → x.size ≤ maxLen ∧ (Lit.int .i64 s).wf = true) (x : ByteArray) : IsSlots b x (f (kb x)) := by
  refine ⟨h.nodup x, fun s => ?_⟩
  rw [h.mem]
  constructor
  · rintro ⟨a, b', c, _⟩
    rw [hh (x, s) a b'] at c
    simpa [mapP] using c
  · intro hs
    obtain ⟨m, hm⟩ := Option.isSome_iff_exists.1 hs
    obtain ⟨h1, h2⟩ := hb x s m hm
    exact ⟨h1, h2, by rw [hh (x, s) h1 h2]; simp [mapP, hm], hl _⟩
theorem IsIds2.of_slots {b : ByteArray × Int → Option Mem} {ids : List ByteArray} {f : List UInt8 → List Int} (ha : AscS (ids.map kb)) (hm : ∀ x : ByteArray, x ∈ ids ↔ f (kb x) ≠ []) (hs : ∀ x : ByteArray, IsSlots b x (f (kb x))) : IsIds2 b ids := by
  refine ⟨ha, fun x => ?_⟩
  rw [hm]
  constructor
  · intro hne
    obtain ⟨s, hs'⟩ := List.exists_mem_of_ne_nil _ hne
    exact ⟨s, ((hs x).mem s).1 hs'⟩
  · rintro ⟨s, hs'⟩ e
    have := ((hs x).mem s).2 hs'
    rw [e] at this; cases this
/-- Six cells stored one by one. -/
theorem set6 {W : World} {b : Nat} {cs : Array Value} {T : TypeId} (h : W.heap[b]? = some (.cells cs T)) (hs : cs.size = 6) (v0 v1 v2 v3 v4 v5 : Value) :
    (((((((W.setCell ⟨b, 0, none⟩ v0).setCell ⟨b, 1, none⟩ v1).setCell ⟨b, 2, none⟩ v2).setCell ⟨b, 3, none⟩ v3).setCell ⟨b, 4, none⟩ v4).setCell ⟨b, 5, none⟩ v5)).heap[b]? = some (.cells #[v0, v1, v2, v3, v4, v5] T) ∧ Fr (Is b) W ((((((W.setCell ⟨b, 0, none⟩ v0).setCell ⟨b, 1, none⟩ v1).setCell ⟨b, 2, none⟩ v2).setCell ⟨b, 3, none⟩ v3).setCell ⟨b, 4, none⟩ v4).setCell ⟨b, 5, none⟩ v5) := by
  have fs : ∀ {a w : World} (h : Fr (Is b) a w) (i : Nat) (v : Value), Fr (Is b) a (w.setCell ⟨b, i, none⟩ v) := fun h i v => h.setCell (p := ⟨b, i, none⟩) (fun _ => rfl) v
  refine ⟨?_, fs (fs (fs (fs (fs (fs (Fr.refl _ _) _ _) _ _) _ _) _ _) _ _) _ _⟩
  obtain ⟨l⟩ := cs
  match l, hs with
  | [_, _, _, _, _, _], _ =>
    have h0 := block_setCell h 0 v0
    have h1 := block_setCell h0 1 v1
    have h2 := block_setCell h1 2 v2
    have h3 := block_setCell h2 3 v3
    have h4 := block_setCell h3 4 v4
    have h5 := block_setCell h4 5 v5
    simp only [List.setIfInBounds_toArray, List.set_cons_zero, List.set_cons_succ] at h5
    exact h5
theorem made_block {W : World} {base T P : Nat} (h : W.ownsRow base 9 1 (.slice (some ⟨P, 0, none⟩) T T) T (madeCells (Value.string ByteArray.empty).cells (T * 1)).toList) :
    W.heap[P]? = some (.cells ((List.replicate T (⟨#[]⟩ : ByteArray)).map Value.string).toArray 9) := by
  obtain ⟨_, ⟨h1, _⟩ | ⟨g, cap, cur, h1, hg, hb, h2, h3, h4, h5⟩⟩ := h
  · cases h1
  · cases h1
    rw [hb]
    have e1 : cur.toList = (madeCells (Value.string ByteArray.empty).cells (T * 1)).toList := by
      rw [← h5, List.take_of_length_le]
      rw [Array.length_toList, h4]; exact Nat.le_refl _
    have e2 : (madeCells (Value.string ByteArray.empty).cells (T * 1)).toList = (List.replicate T (⟨#[]⟩ : ByteArray)).map Value.string := by
      apply List.ext_getElem?
      intro i
      by_cases hi : i < T
      · rw [List.getElem?_map, List.getElem?_replicate, if_pos hi]
        simp [madeCells, Value.cells, hi, Nat.mod_one]
        rfl
      · rw [List.getElem?_eq_none (by simp [madeCells]; omega), List.getElem?_eq_none (by simp; omega)]
    rw [show cur = ((List.replicate T (⟨#[]⟩ : ByteArray)).map Value.string).toArray by rw [← e2, ← e1]]
theorem strs_of_block {W : World} {P : Nat} {l : List ByteArray} (h : W.heap[P]? = some (.cells (l.map Value.string).toArray 9)) (hm : l.length ≤ maxLen) : Strs W (some ⟨P, 0, none⟩) l.length l := by
  refine ⟨Nat.le_refl _, hm, (fun e => by cases e), fun ad e _ => ?_⟩
  cases e
  refine ⟨rfl, lt_of_block h, fun i x hi => ?_⟩
  rw [cell_of_block h]
  simp [hi]
end Go.Proofs.YtcibciippghooaaGreatDoor
namespace Go.Proofs.YtcibciippghooaaGreatDoor
open Go.RowKit Go.Maps Go.Sort Go.Shelf
set_option linter.unusedVariables false

theorem block_alloc13 (w : World) (o o' o'' : Obj) : (((w.alloc o).alloc o').alloc o'').heap[w.heap.size]? = some o := ((Fr.refl No _).alloc o'').heap (block_alloc1 w o o') id
theorem block_alloc23 (w : World) (o o' o'' : Obj) : (((w.alloc o).alloc o').alloc o'').heap[w.heap.size + 1]? = some o' := ((Fr.refl No _).alloc o'').heap (block_alloc2 w o o') id
theorem block_alloc33 (w : World) (o o' o'' : Obj) : (((w.alloc o).alloc o').alloc o'').heap[w.heap.size + 1 + 1]? = some o'' := by
  have h := block_alloc ((w.alloc o).alloc o') o''
  have e : ((w.alloc o).alloc o').heap.size = w.heap.size + 1 + 1 := by simp
  rw [e] at h; exact h
def zeroMem2 : Value := .agg #[.string ⟨#[]⟩, .string ⟨#[]⟩, .int .i64 0, .int .i64 0, .int .i64 0, .int .i64 0, .slice none 0 0]
theorem zeroM2 (w : World) : (zeroValue 31).run Tryz.prog w = .ok zeroMem2 w := by kernel_rfl

/-- The sizes of a list of members with slots. -/
structure MemSmall2 (L : List Mem) : Prop where
  len : L.length ≤ 1000
  p : ∀ m ∈ L, m.p.size ≤ 1000000
  i : ∀ m ∈ L, m.i.size ≤ 1000000
  l : ∀ m ∈ L, m.l.length ≤ 1000000
  s : ∀ m ∈ L, (Lit.int .i64 m.s).wf = true
/-- What Arrays answers. -/
def ArrRes (w : World) (b : ByteArray × Int → Option Mem) (e : Ending) (w' : World) : Prop :=
  ∃ (a' : Option Addr) (c' : Nat) (O : List ArrM) (ids : List ByteArray), e = .returned (.slice a' O.length c') ∧ Arrs w' a' c' O ∧ (∀ ad, a' = some ad → w.heap.size ≤ ad.block) ∧ AFresh w' w.heap.size O ∧ IsIds2 b ids ∧ O.map ArrM.toArr = ids.map (buildA b) ∧ ids.length ≤ 1000 ∧ w'.ownsRow w.heap.size 58 6 (.slice a' O.length c') O.length (arflat O)
end Go.Proofs.YtcibciippghooaaGreatDoor
namespace Go.Proofs.YtcibciippghooaaGreatDoor
open Go.RowKit Go.Maps
set_option linter.unusedVariables false

/-- A sound member with one inner text. -/
def soundA (m : Mem) : Bool := soundB m && decide (m.l.length = 1)
theorem soundA_sound {m : Mem} (h : soundA m = true) : soundB m = true := by
  unfold soundA at h
  rw [Bool.and_eq_true] at h
  exact h.1
theorem soundA_one {m : Mem} (h : soundA m = true) : m.l.length = 1 := by
  unfold soundA at h
  rw [Bool.and_eq_true, decide_eq_true_iff] at h
  exact h.2

set_option maxRecDepth 100000 in
set_option maxHeartbeats 1000000 in
theorem a_good (p i : ByteArray) (r s t e : Int) (a : Option Addr) (l : List ByteArray) (c : Nat) (w : World) :
    Calls Tryz.prog 53 #[.agg #[.string p, .string i, .int .i64 r, .int .i64 s, .int .i64 t, .int .i64 e, .slice a l.length c]] w fun en w' => en = .returned (.bool (soundA ⟨p, i, r, s, t, e, a, l, c⟩)) ∧ Fr No w w' := by
  have hx : Fr No w (w.alloc (.cells #[.string p, .string i, .int .i64 r, .int .i64 s, .int .i64 t, .int .i64 e, .slice a l.length c] 31)) := (Fr.refl _ _).alloc _
  have hs := g_sound p i r s t e (.slice a l.length c) (w.alloc (.cells #[.string p, .string i, .int .i64 r, .int .i64 s, .int .i64 t, .int .i64 e, .slice a l.length c] 31))
  obtain ⟨ra, hra⟩ : ∃ ra, ra = soundA ⟨p, i, r, s, t, e, a, l, c⟩ := ⟨_, rfl⟩
  rw [← hra]
  have Hra : Hid (ra = ((!p.toList.isEmpty && (decide (1 ≤ s) && decide (s ≤ 16)) && (decide (1 ≤ t) && decide (t ≤ 16))) && decide (l.length = 1))) := hra
  clear hra
  have q1 := block_alloc w (.cells #[.string p, .string i, .int .i64 r, .int .i64 s, .int .i64 t, .int .i64 e, .slice a l.length c] 31)
  have Hx := Lib.hid hx
  clear hx
  go_enter Tryz.func53, Tryz.ntmps53
  go_wp2_with fail
  refine hs.mono ?_
  rintro en w1 ⟨rfl, hf1⟩
  have H := Lib.hid (Hx.out.step hf1 (fun _ _ h => h))
  have q6 : w1.cell? ⟨w.heap.size, 6, none⟩ = some (.slice a l.length c) := hf1.cell (cell_of_block q1 6) id
  clear hf1 hs q1
  obtain ⟨b, hb⟩ : ∃ b, b = (!p.toList.isEmpty && (decide (1 ≤ s) && decide (s ≤ 16)) && (decide (1 ≤ t) && decide (t ≤ 16))) := ⟨_, rfl⟩
  rw [← hb]
  have Hb : Hid (ra = (b && decide (l.length = 1))) := by unfold Hid; rw [Hra.out, hb]
  clear hb Hra
  cases b with
  | false =>
    have Hr : Hid (ra = false) := by unfold Hid; rw [Hb.out]; rfl
    go_wp2_with fail
    go_ret
    exact ⟨by rw [Hr.out]; rfl, H.out⟩
  | true =>
    by_cases h1 : l.length = 1
    · have hq : ((l.length : Int) == 1) = true := by simp [h1]
      have Hr : Hid (ra = true) := by unfold Hid; rw [Hb.out]; simp [h1]
      have H1 := Lib.hid h1
      clear h1
      go_wp2_with fail
      go_ret
      exact ⟨by rw [Hr.out]; rfl, H.out⟩
    · have hq : ((l.length : Int) == 1) = false := by simp; omega
      have Hr : Hid (ra = false) := by unfold Hid; rw [Hb.out]; simp [h1]
      have H1 := Lib.hid h1
      clear h1
      go_wp2_with fail
      go_ret
      exact ⟨by rw [Hr.out]; rfl, H.out⟩
end Go.Proofs.YtcibciippghooaaGreatDoor
