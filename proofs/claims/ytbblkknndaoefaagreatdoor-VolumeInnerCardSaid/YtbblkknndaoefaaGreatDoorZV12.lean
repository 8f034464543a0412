/- Sound; volume's good members. Arrays in memory: slices of api.Array. The groups of a range over places: plain; look-ups by their runs. What gather.Arrays answers. coldplugref32.Build. -/
import Derived.Test.YtbblkknndaoefaaGreatDoorZV11
import Derived.Test.YtbblkknndaoefaaGreatDoorZV5
import Derived.Maps.AppendAt
import Derived.Test.YtbblkknndaoefaaGreatDoorZV6
import Derived.Laws.EntriesVeiled
namespace Go.Proofs.YtbblkknndaoefaaGreatDoor
open Go.RowKit Go.Maps
set_option linter.unusedVariables false

set_option maxRecDepth 100000 in
set_option maxHeartbeats 2000000 in
theorem g_sound (p i : ByteArray) (r s t e : Int) (v : Value) (w : World) :
    Calls Tryz.prog 90 #[.agg #[.string p, .string i, .int .i64 r, .int .i64 s, .int .i64 t, .int .i64 e, v]] w fun en w' => en = .returned (.bool (!p.toList.isEmpty && (decide (1 ≤ s) && decide (s ≤ 16)) && (decide (1 ≤ t) && decide (t ≤ 16)))) ∧ Fr No w w' := by
  have hx : Fr No w (w.alloc (.cells #[.string p, .string i, .int .i64 r, .int .i64 s, .int .i64 t, .int .i64 e, v] 58)) := (Fr.refl _ _).alloc _
  have Hx := Lib.hid hx
  clear hx
  obtain ⟨b, hb⟩ : ∃ b, b = (!p.toList.isEmpty && (decide (1 ≤ s) && decide (s ≤ 16)) && (decide (1 ≤ t) && decide (t ≤ 16))) := ⟨_, rfl⟩
  rw [← hb]
  have Hb := Lib.hid hb
  clear hb
  go_enter Tryz.func90, Tryz.ntmps90
  rcases h1 : p.toList.isEmpty with _ | _
  · by_cases h2 : 1 ≤ s
    · by_cases h3 : s ≤ 16
      · by_cases h4 : 1 ≤ t
        · by_cases h5 : t ≤ 16
          · go_wp2_with fail
            go_ret
            exact ⟨by rw [Hb.out, h1]; simp [h2, h3, h4, h5], Hx.out⟩
          · go_wp2_with fail
            go_ret
            exact ⟨by rw [Hb.out, h1]; simp [h5], Hx.out⟩
        · go_wp2_with fail
          go_ret
          exact ⟨by rw [Hb.out, h1]; simp; omega, Hx.out⟩
      · go_wp2_with fail
        go_ret
        exact ⟨by rw [Hb.out, h1]; simp; omega, Hx.out⟩
    · go_wp2_with fail
      go_ret
      exact ⟨by rw [Hb.out, h1]; simp; omega, Hx.out⟩
  · go_wp2_with fail
    go_ret
    exact ⟨by rw [Hb.out, h1]; simp, Hx.out⟩

set_option maxRecDepth 100000 in
set_option maxHeartbeats 1000000 in
theorem v_good (p i : ByteArray) (r s t e : Int) (v : Value) (w : World) :
    Calls Tryz.prog 89 #[.agg #[.string p, .string i, .int .i64 r, .int .i64 s, .int .i64 t, .int .i64 e, v]] w fun en w' => en = .returned (.bool (!p.toList.isEmpty && (decide (1 ≤ s) && decide (s ≤ 16)) && (decide (1 ≤ t) && decide (t ≤ 16)))) ∧ Fr No w w' := by
  have hx : Fr No w (w.alloc (.cells #[.string p, .string i, .int .i64 r, .int .i64 s, .int .i64 t, .int .i64 e, v] 58)) := (Fr.refl _ _).alloc _
  have hs := g_sound p i r s t e v (w.alloc (.cells #[.string p, .string i, .int .i64 r, .int .i64 s, .int .i64 t, .int .i64 e, v] 58))
  have Hx := Lib.hid hx
  clear hx
  go_enter Tryz.func89, Tryz.ntmps89
  go_wp2_with fail
  refine hs.mono ?_
  rintro en w1 ⟨rfl, hf1⟩
  have H := Lib.hid (Hx.out.step hf1 (fun _ _ h => h))
  clear hf1 hs
  obtain ⟨b, hb⟩ : ∃ b, b = (!p.toList.isEmpty && (decide (1 ≤ s) && decide (s ≤ 16)) && (decide (1 ≤ t) && decide (t ≤ 16))) := ⟨_, rfl⟩
  rw [← hb]
  have Hb := Lib.hid hb
  clear hb
  go_wp2_with fail
  go_ret
  exact ⟨by rw [← Hb.out]; rfl, H.out⟩
end Go.Proofs.YtbblkknndaoefaaGreatDoor
namespace Go.Proofs.YtbblkknndaoefaaGreatDoor
open Go.RowKit Go.Maps
set_option linter.unusedVariables false

/-- An array with the places of its paths and its inner texts. -/
structure ArrM extends Arr where
  pa : Option Addr
  pc : Nat
  la : Option Addr
  lc : Nat
def ArrM.vals (m : ArrM) : Array Value := #[.string m.i, .slice m.pa m.ps.length m.pc, .int .i64 m.t, .int .i64 m.e, .int .i64 m.n, .slice m.la m.l.length m.lc]
structure Arrs (w : World) (a : Option Addr) (cap : Nat) (L : List ArrM) : Prop where
  len : L.length ≤ cap
  max : cap ≤ maxLen
  isNil : a = none → L = [] ∧ cap = 0
  ok : ∀ m ∈ L, Strs w m.pa m.pc m.ps ∧ Strs w m.la m.lc m.l
  cell : ∀ ad, a = some ad → L ≠ [] → ad.spot = none ∧ ad.block < w.heap.size ∧ ∀ i m, L[i]? = some m → ∀ j, j < 6 → w.cell? ⟨ad.block, ad.off + (i * 6 + j), none⟩ = m.vals[j]?
/-- The seven cells of a member at (b, o). -/
structure ArrAt (w : World) (b o : Nat) (m : ArrM) : Prop where
  c0 : w.cell? ⟨b, o, none⟩ = some (.string m.i)
  c1 : w.cell? ⟨b, o + 1, none⟩ = some (.slice m.pa m.ps.length m.pc)
  c2 : w.cell? ⟨b, o + 2, none⟩ = some (.int .i64 m.t)
  c3 : w.cell? ⟨b, o + 3, none⟩ = some (.int .i64 m.e)
  c4 : w.cell? ⟨b, o + 4, none⟩ = some (.int .i64 m.n)
  c5 : w.cell? ⟨b, o + 5, none⟩ = some (.slice m.la m.l.length m.lc)
theorem Arrs.elem {w : World} {a : Option Addr} {cap : Nat} {L : List ArrM} (h : Arrs w a cap L) {k : Nat} (hk : k < L.length) :
    ∃ b off m, a = some ⟨b, off, none⟩ ∧ L[k]? = some m ∧ (Strs w m.pa m.pc m.ps ∧ Strs w m.la m.lc m.l) ∧ ArrAt w b (off + k * 6) m ∧ b < w.heap.size := by
  cases a with
  | none => obtain ⟨rfl, _⟩ := h.isNil rfl; simp at hk
  | some ad =>
    obtain ⟨b, off, sp⟩ := ad
    obtain ⟨h1, h2, h3⟩ := h.cell _ rfl (by intro e; subst e; simp at hk)
    simp at h1; subst h1
    have hc := h3 k _ (List.getElem?_eq_getElem hk)
    exact ⟨b, off, L[k], rfl, List.getElem?_eq_getElem hk, h.ok _ (List.getElem_mem hk), ⟨hc 0 (by omega), hc 1 (by omega), hc 2 (by omega), hc 3 (by omega), hc 4 (by omega), hc 5 (by omega)⟩, h2⟩
theorem Arrs.lenmax {w : World} {a : Option Addr} {cap : Nat} {L : List ArrM} (h : Arrs w a cap L) : L.length ≤ 9223372036854775807 := by
  have h1 := h.len; have h2 := h.max; unfold maxLen at h2; omega
theorem Arrs.fr {S : Nat → Prop} {w w' : World} {a : Option Addr} {cap : Nat} {L : List ArrM} (h : Arrs w a cap L) (hf : Fr S w w') (hS : ∀ ad, a = some ad → L ≠ [] → ¬ S ad.block) (hM : ∀ m ∈ L, (∀ ad, m.pa = some ad → m.ps ≠ [] → ¬ S ad.block) ∧ ∀ ad, m.la = some ad → m.l ≠ [] → ¬ S ad.block) : Arrs w' a cap L :=
  ⟨h.len, h.max, h.isNil, fun m hm => ⟨(h.ok m hm).1.fr hf (hM m hm).1, (h.ok m hm).2.fr hf (hM m hm).2⟩, fun ad e hne => by
    obtain ⟨h1, h2, h3⟩ := h.cell ad e hne
    refine ⟨h1, Nat.lt_of_lt_of_le h2 hf.size, fun i m hi j hj => ?_⟩
    rw [← h3 i m hi j hj]
    exact World.cell?_of_block (hf.block _ h2 (hS ad e hne))⟩
theorem Arrs.no {S : Nat → Prop} {w w' : World} {a : Option Addr} {cap : Nat} {L : List ArrM} (h : Arrs w a cap L) (hf : Fr S w w') (hS : ∀ k, ¬ S k) : Arrs w' a cap L := h.fr hf (fun _ _ _ => hS _) (fun _ _ => ⟨fun _ _ _ => hS _, fun _ _ _ => hS _⟩)
theorem Arrs.keep {S : Nat → Prop} {w w' : World} {a : Option Addr} {cap : Nat} {L : List ArrM} (h : Arrs w a cap L) (hf : Fr S w w') (hS : ∀ b, b < w.heap.size → ¬ S b) : Arrs w' a cap L :=
  h.fr hf (fun ad e hne => hS _ (h.cell ad e hne).2.1) (fun m hm => ⟨fun ad e hne => hS _ ((h.ok m hm).1.cell ad e hne).2.1, fun ad e hne => hS _ ((h.ok m hm).2.cell ad e hne).2.1⟩)
theorem Arrs.nil (w : World) : Arrs w none 0 [] := ⟨by simp, by simp, fun _ => ⟨rfl, rfl⟩, by simp, fun _ e _ => by cases e⟩
theorem infoAr : (Tryz.prog.info? 42).map (fun i => (i.zero, i.size, i.bytes)) = some (some (.agg #[.string ByteArray.empty, .slice none 0 0, .int .i64 0, .int .i64 0, .int .i64 0, .slice none 0 0]), 6, 88) := by kernel_rfl
def arflat (L : List ArrM) : List Value := L.flatMap (fun m => m.vals.toList)
theorem arflat_snoc (L : List ArrM) (m : ArrM) : arflat (L ++ [m]) = arflat L ++ m.vals.toList := by simp [arflat]
theorem arvals_one (m : ArrM) : ∀ u ∈ m.vals.toList, u.oneCell' = true := by
  intro u hu
  simp [ArrM.vals] at hu
  rcases hu with rfl | rfl | rfl | rfl | rfl | rfl <;> rfl
theorem arflat_at : ∀ (L : List ArrM) (i : Nat) (m : ArrM), L[i]? = some m → ∀ j, j < 6 → (arflat L)[i * 6 + j]? = m.vals[j]?
  | [], i, m, h, j, hj => by simp at h
  | x :: t, 0, m, h, j, hj => by
    simp at h; subst h
    have : arflat (x :: t) = x.vals.toList ++ arflat t := by simp [arflat]
    rw [this, List.getElem?_append_left (by simp [ArrM.vals]; omega)]
    simp
  | x :: t, i + 1, m, h, j, hj => by
    have : arflat (x :: t) = x.vals.toList ++ arflat t := by simp [arflat]
    rw [this, List.getElem?_append_right (by simp [ArrM.vals]; omega), show (i + 1) * 6 + j - x.vals.toList.length = i * 6 + j from by simp [ArrM.vals]; omega]
    exact arflat_at t i m (by simpa using h) j hj
theorem arflat_len (L : List ArrM) : (arflat L).length = L.length * 6 := by
  induction L with
  | nil => rfl
  | cons d t ih =>
    have : arflat (d :: t) = d.vals.toList ++ arflat t := by simp [arflat]
    rw [this, List.length_append, ih]
    simp [ArrM.vals]; omega
theorem Arrs.of_own {w : World} {base : Nat} {e : TypeId} {v : Value} {L : List ArrM} (h : w.ownsRow base e 6 v L.length (arflat L)) (hok : ∀ m ∈ L, Strs w m.pa m.pc m.ps ∧ Strs w m.la m.lc m.l) :
    ∃ a cap, v = .slice a L.length cap ∧ Arrs w a cap L ∧ ∀ ad, a = some ad → base ≤ ad.block := by
  obtain ⟨_, ⟨rfl, h2⟩ | ⟨g, cap, cur, rfl, hg, hb, h1, h2, h3, h4⟩⟩ := h
  · have : L = [] := List.eq_nil_of_length_eq_zero h2
    subst this
    exact ⟨none, 0, rfl, Arrs.nil w, fun _ e => by cases e⟩
  · refine ⟨some ⟨g, 0, none⟩, cap, rfl, ⟨h1, h2, (fun e => by cases e), hok, ?_⟩, fun ad e => by cases e; exact hg⟩
    intro ad e hne
    cases e
    refine ⟨rfl, lt_of_block hb, fun i m hi j hj => ?_⟩
    rw [cell_of_block hb]
    simp only [Nat.zero_add]
    have hlt : i < L.length := (List.getElem?_eq_some_iff.1 hi).1
    have e1 : (cur.toList.take (L.length * 6))[i * 6 + j]? = (arflat L)[i * 6 + j]? := by rw [h4]
    rw [List.getElem?_take_of_lt (by omega), arflat_at L i m hi j hj] at e1
    rw [← Array.getElem?_toList, e1]
/-- Arrays of the call's own: their texts lie in new blocks of texts. -/
def AFresh (w : World) (base : Nat) (L : List ArrM) : Prop := ∀ m ∈ L, (Strs w m.pa m.pc m.ps ∧ Strs w m.la m.lc m.l) ∧ (BlkT w m.pa 9 ∧ BlkT w m.la 9) ∧ (∀ ad, m.pa = some ad → base ≤ ad.block) ∧ ∀ ad, m.la = some ad → base ≤ ad.block
theorem AFresh.fr {S : Nat → Prop} {w w' : World} {base : Nat} {L : List ArrM} (h : AFresh w base L) (hf : Fr S w w') (hS : ∀ b, base ≤ b → b < w.heap.size → ¬ S b) : AFresh w' base L := fun m hm => by
  obtain ⟨⟨h1, h2⟩, ⟨h3, h4⟩, h5, h6⟩ := h m hm
  have hk : ∀ ad, m.pa = some ad → ¬ S ad.block := fun ad e => by obtain ⟨cs, hc⟩ := h3 ad e; exact hS _ (h5 ad e) (lt_of_block hc)
  have hk2 : ∀ ad, m.la = some ad → ¬ S ad.block := fun ad e => by obtain ⟨cs, hc⟩ := h4 ad e; exact hS _ (h6 ad e) (lt_of_block hc)
  exact ⟨⟨h1.fr hf (fun ad e _ => hk ad e), h2.fr hf (fun ad e _ => hk2 ad e)⟩, ⟨h3.fr hf hk, h4.fr hf hk2⟩, h5, h6⟩
theorem AFresh.own {w w' : World} {base b0 : Nat} {L : List ArrM} {v : Value} {n : Nat} {xs : List Value} (h : AFresh w base L) (ho : w.ownsRow b0 42 6 v n xs) (hf : Fr (fun b => v.ownBlock = some b) w w') : AFresh w' base L := fun m hm => by
  obtain ⟨⟨h1, h2⟩, ⟨h3, h4⟩, h5, h6⟩ := h m hm
  have hk := BlkT.ne ho h3 (by decide)
  have hk2 := BlkT.ne ho h4 (by decide)
  exact ⟨⟨h1.fr hf (fun ad e _ => hk ad e), h2.fr hf (fun ad e _ => hk2 ad e)⟩, ⟨h3.fr hf hk, h4.fr hf hk2⟩, h5, h6⟩
theorem AFresh.snoc {w : World} {base : Nat} {L : List ArrM} {m : ArrM} (h : AFresh w base L) (h1 : Strs w m.pa m.pc m.ps ∧ Strs w m.la m.lc m.l) (h2 : BlkT w m.pa 9 ∧ BlkT w m.la 9) (h3 : (∀ ad, m.pa = some ad → base ≤ ad.block) ∧ ∀ ad, m.la = some ad → base ≤ ad.block) : AFresh w base (L ++ [m]) := fun x hx => by
  rcases List.mem_append.1 hx with hx | hx
  · exact h x hx
  · obtain rfl : x = m := by simpa using hx
    exact ⟨h1, h2, h3⟩
end Go.Proofs.YtbblkknndaoefaaGreatDoor
namespace Go.Proofs.YtbblkknndaoefaaGreatDoor
open Go.RowKit Go.Maps Go.Sort Go.Shelf
set_option linter.unusedVariables false

theorem wp_look_run {w : World} {ops : Array Oper} {rest : List Oper} {o : Oper} {a : Act} {Q : Exit → Act → World → Prop} (hg : o.guard = none) (m x : Operand) (t : TypeId) (hop : o.op = Op.lookup t m x false)
    (mv xv v : Value) (hm : a.eval m = mv) (hx : a.eval x = xv) (hrun : (Instr.lookup t mv xv false).run Tryz.prog w = .ok v w)
    (hK : wpList Tryz.prog ops Q rest (a.put o.dst v) w) : wpList Tryz.prog ops Q (o :: rest) a w := by
  refine wpList_plain hg fun K' hK' => ?_
  unfold Oper.wp
  simp [execOp, hop, hm, hx, hrun, Result.andThen]
  exact hK' _ _ hK
theorem wp_upd_run {w : World} {ops : Array Oper} {rest : List Oper} {o : Oper} {a : Act} {Q : Exit → Act → World → Prop} (hg : o.guard = none) (m x v : Operand) (t : TypeId) (hop : o.op = Op.mapUpdate t m x v)
    (mv xv vv : Value) (hm : a.eval m = mv) (hx : a.eval x = xv) (hv : a.eval v = vv) {w2 : World} (hrun : (Instr.mapUpdate t mv xv vv).run Tryz.prog w = .ok () w2)
    (hK : wpList Tryz.prog ops Q rest (a.put o.dst undef) w2) : wpList Tryz.prog ops Q (o :: rest) a w := by
  refine wpList_plain hg fun K' hK' => ?_
  unfold Oper.wp
  simp [execOp, hop, hm, hx, hv, hrun, Result.andThen]
  exact hK' _ _ hK
theorem quiet_look {o : Oper} {a : Act} {S : World → Prop} {K : Act → Prop} (hg : o.guard = none) (m x : Operand) (t : TypeId) (hop : o.op = Op.lookup t m x false) (mv xv v : Value) (hm : a.eval m = mv) (hx : a.eval x = xv)
    (hrun : ∀ W, S W → (Instr.lookup t mv xv false).run Tryz.prog W = .ok v W) (hK : K (a.put o.dst v)) : o.quiet Tryz.prog a S K := by
  refine ⟨v, fun W hW => ?_, hK⟩
  unfold Oper.quietAt
  simp [execOp, hop, hm, hx, hrun W hW, Result.andThen, Oper.quietUpon]
set_option maxRecDepth 100000 in
theorem hfdM : ∀ (p i : ByteArray) (r s t e : Int) (a : Option Addr) (n c : Nat) (W : World), (Instr.field 58 (.agg #[.string p, .string i, .int .i64 r, .int .i64 s, .int .i64 t, .int .i64 e, .slice a n c]) 0).run Tryz.prog W = .ok (.string p) W := by intros; kernel_rfl
theorem Fr.grownF {w w' : World} (h : Fr (From w.heap.size) w w') : w.grownBy w' none := ⟨h.os, h.tape, h.output, h.size, fun k hk _ => h.block k hk (by unfold From; omega)⟩

def mapP (g : ByteArray × Int → Option Mem) : ByteArray × Int → Option Value := fun x => (g x).map Mem.v
theorem mapP_upd (g : ByteArray × Int → Option Mem) (x : ByteArray × Int) (m : Mem) : updP (mapP g) x m.v = mapP (fun y => if y = x then some m else g y) := by
  funext y
  unfold updP mapP
  by_cases h : y = x <;> simp [h]
theorem infoI2 : (Tryz.prog.info? 3).map (fun i => (i.zero, i.size, i.bytes)) = some (some (.int .i64 0), 1, 8) := by kernel_rfl
/-- What of a map of places has been handed out, grouped. -/
structure Grp (D : DataW Value) (left : Lit → Bool) (f : List UInt8 → List Int) : Prop where
  mem : ∀ (x : ByteArray) (s : Int), s ∈ f (kb x) ↔ (x.size ≤ maxLen ∧ (Lit.int .i64 s).wf = true ∧ has D (plL (x, s)) = true ∧ left (plL (x, s)) = false)
  nodup : ∀ x : ByteArray, (f (kb x)).Nodup
theorem Grp.start (D : DataW Value) : Grp D (has D) (fun _ => []) := by
  constructor
  · intro x s
    simp only [List.not_mem_nil, false_iff]
    rintro ⟨_, _, h1, h2⟩
    rw [h1] at h2; cases h2
  · exact fun _ => List.nodup_nil
theorem Grp.step {D : DataW Value} {left : Lit → Bool} {f : List UInt8 → List Int} (h : Grp D left f) {x : ByteArray} {s : Int} (hx : x.size ≤ maxLen) (hs : (Lit.int .i64 s).wf = true) (hl : left (plL (x, s)) = true) (hD : has D (plL (x, s)) = true) :
    Grp D (fun z => left z && !z.sameKey (plL (x, s))) (fun z => if z = kb x then f (kb x) ++ [s] else f z) := by
  constructor
  · intro y r
    by_cases e : y = x
    · subst e
      rw [if_pos rfl, List.mem_append, h.mem]
      by_cases e2 : r = s
      · subst e2
        rw [WideAt.sameKey_self (isKeyPl _)]
        simp [hx, hs, hD]
      · constructor
        · rintro (⟨a, b, c, d⟩ | h1)
          · exact ⟨a, b, c, by rw [d]; rfl⟩
          · simp at h1; exact absurd h1 e2
        · rintro ⟨a, b, c, d⟩
          refine .inl ⟨a, b, c, ?_⟩
          cases hk : (plL (y, r)).sameKey (plL (y, s)) with
          | true =>
            have := plL_inj a b hx hs (WideAt.sameKey_eq hk)
            simp at this; exact absurd this e2
          | false => rw [hk] at d; simpa using d
    · rw [if_neg (fun he => e (kb_inj he)), h.mem]
      constructor
      · rintro ⟨a, b, c, d⟩
        exact ⟨a, b, c, by rw [d]; rfl⟩
      · rintro ⟨a, b, c, d⟩
        refine ⟨a, b, c, ?_⟩
        cases hk : (plL (y, r)).sameKey (plL (x, s)) with
        | true =>
          have := plL_inj a b hx hs (WideAt.sameKey_eq hk)
          simp at this; exact absurd this.1 e
        | false => rw [hk] at d; simpa using d
  · intro y
    by_cases e : y = x
    · subst e
      rw [if_pos rfl]
      refine List.nodup_append.2 ⟨h.nodup y, by simp, fun a ha b hb => ?_⟩
      obtain rfl : b = s := by simpa using hb
      intro hab
      subst hab
      obtain ⟨_, _, _, h4⟩ := (h.mem y a).1 ha
      rw [hl] at h4; cases h4
    · rw [if_neg (fun he => e (kb_inj he))]; exact h.nodup y
theorem has_of_at {D : DataW Value} {kl : Lit} {d : DataW Value} (h : ∀ zd, D.atKey kl zd = d) : has D kl = true := by
  cases hk : has D kl with
  | true => rfl
  | false =>
    have h1 := h (.held (.bool true))
    have h2 := h (.held (.bool false))
    rw [atKey_of_not_has hk] at h1 h2
    rw [← h2] at h1
    cases h1
theorem Grp.slots {D : DataW Value} {left : Lit → Bool} {f : List UInt8 → List Int} (h : Grp D left f) (hl : ∀ kl, left kl = false) {b : ByteArray × Int → Option Mem}
    (hh : ∀ x : ByteArray × Int, x.1.size ≤ maxLen → (Lit.int .i64 x.2).wf = true → has D (plL x) = (mapP b x).isSome) (hb : ∀ x s m, b (x, s) = some m → x.size ≤ maxLen ∧ (Lit.int .i64 s).wf = true) (x : ByteArray) : IsSlots b x (f (kb x)) := by
  refine ⟨h.nodup x, fun s => ?_⟩
  rw [h.mem]
  constructor
  · rintro ⟨a, b', c, _⟩
    rw [hh (x, s) a b'] at c
    simpa [mapP] using c
  · intro hs
    obtain ⟨m, hm⟩ := Option.isSome_iff_exists.1 hs
    obtain ⟨h1, h2⟩ := hb x s m hm
    exact ⟨h1, h2, by rw [hh (x, s) h1 h2]; simp [mapP, hm], hl _⟩
theorem IsIds2.of_slots {b : ByteArray × Int → Option Mem} {ids : List ByteArray} {f : List UInt8 → List Int} (ha : AscS (ids.map kb)) (hm : ∀ x : ByteArray, x ∈ ids ↔ f (kb x) ≠ []) (hs : ∀ x : ByteArray, IsSlots b x (f (kb x))) : IsIds2 b ids := by
  refine ⟨ha, fun x => ?_⟩
  rw [hm]
  constructor
  · intro hne
    obtain ⟨s, hs'⟩ := List.exists_mem_of_ne_nil _ hne
    exact ⟨s, ((hs x).mem s).1 hs'⟩
  · rintro ⟨s, hs'⟩ e
    have := ((hs x).mem s).2 hs'
    rw [e] at this; cases this
/-- Six cells stored one by one. -/
theorem set6 {W : World} {b : Nat} {cs : Array Value} {T : TypeId} (h : W.heap[b]? = some (.cells cs T)) (hs : cs.size = 6) (v0 v1 v2 v3 v4 v5 : Value) :
    (((((((W.setCell ⟨b, 0, none⟩ v0).setCell ⟨b, 1, none⟩ v1).setCell ⟨b, 2, none⟩ v2).setCell ⟨b, 3, none⟩ v3).setCell ⟨b, 4, none⟩ v4).setCell ⟨b, 5, none⟩ v5)).heap[b]? = some (.cells #[v0, v1, v2, v3, v4, v5] T) ∧ Fr (Is b) W ((((((W.setCell ⟨b, 0, none⟩ v0).setCell ⟨b, 1, none⟩ v1).setCell ⟨b, 2, none⟩ v2).setCell ⟨b, 3, none⟩ v3).setCell ⟨b, 4, none⟩ v4).setCell ⟨b, 5, none⟩ v5) := by
  have fs : ∀ {a w : World} (h : Fr (Is b) a w) (i : Nat) (v : Value), Fr (Is b) a (w.setCell ⟨b, i, none⟩ v) := fun h i v => h.setCell (p := ⟨b, i, none⟩) (fun _ => rfl) v
  refine ⟨?_, fs (fs (fs (fs (fs (fs (Fr.refl _ _) _ _) _ _) _ _) _ _) _ _) _ _⟩
  obtain ⟨l⟩ := cs
  match l, hs with
  | [_, _, _, _, _, _], _ =>
    have h0 := block_setCell h 0 v0
    have h1 := block_setCell h0 1 v1
    have h2 := block_setCell h1 2 v2
    have h3 := block_setCell h2 3 v3
    have h4 := block_setCell h3 4 v4
    have h5 := block_setCell h4 5 v5
    simp only [List.setIfInBounds_toArray, List.set_cons_zero, List.set_cons_succ] at h5
    exact h5
theorem made_block {W : World} {base T P : Nat} (h : W.ownsRow base 9 1 (.slice (some ⟨P, 0, none⟩) T T) T (madeCells (Value.string ByteArray.empty).cells (T * 1)).toList) :
    W.heap[P]? = some (.cells ((List.replicate T (⟨#[]⟩ : ByteArray)).map Value.string).toArray 9) := by
  obtain ⟨_, ⟨h1, _⟩ | ⟨g, cap, cur, h1, hg, hb, h2, h3, h4, h5⟩⟩ := h
  · cases h1
  · cases h1
    rw [hb]
    have e1 : cur.toList = (madeCells (Value.string ByteArray.empty).cells (T * 1)).toList := by
      rw [← h5, List.take_of_length_le]
      rw [Array.length_toList, h4]; exact Nat.le_refl _
    have e2 : (madeCells (Value.string ByteArray.empty).cells (T * 1)).toList = (List.replicate T (⟨#[]⟩ : ByteArray)).map Value.string := by
      apply List.ext_getElem?
      intro i
      by_cases hi : i < T
      · rw [List.getElem?_map, List.getElem?_replicate, if_pos hi]
        simp [madeCells, Value.cells, hi, Nat.mod_one]
        rfl
      · rw [List.getElem?_eq_none (by simp [madeCells]; omega), List.getElem?_eq_none (by simp; omega)]
    rw [show cur = ((List.replicate T (⟨#[]⟩ : ByteArray)).map Value.string).toArray by rw [← e2, ← e1]]
theorem strs_of_block {W : World} {P : Nat} {l : List ByteArray} (h : W.heap[P]? = some (.cells (l.map Value.string).toArray 9)) (hm : l.length ≤ maxLen) : Strs W (some ⟨P, 0, none⟩) l.length l := by
  refine ⟨Nat.le_refl _, hm, (fun e => by cases e), fun ad e _ => ?_⟩
  cases e
  refine ⟨rfl, lt_of_block h, fun i x hi => ?_⟩
  rw [cell_of_block h]
  simp [hi]
end Go.Proofs.YtbblkknndaoefaaGreatDoor
namespace Go.Proofs.YtbblkknndaoefaaGreatDoor
open Go.RowKit Go.Maps Go.Sort Go.Shelf
set_option linter.unusedVariables false

theorem block_alloc13 (w : World) (o o' o'' : Obj) : (((w.alloc o).alloc o').alloc o'').heap[w.heap.size]? = some o := ((Fr.refl No _).alloc o'').heap (block_alloc1 w o o') id
theorem block_alloc23 (w : World) (o o' o'' : Obj) : (((w.alloc o).alloc o').alloc o'').heap[w.heap.size + 1]? = some o' := ((Fr.refl No _).alloc o'').heap (block_alloc2 w o o') id
theorem block_alloc33 (w : World) (o o' o'' : Obj) : (((w.alloc o).alloc o').alloc o'').heap[w.heap.size + 1 + 1]? = some o'' := by
  have h := block_alloc ((w.alloc o).alloc o') o''
  have e : ((w.alloc o).alloc o').heap.size = w.heap.size + 1 + 1 := by simp
  rw [e] at h; exact h
def zeroMem2 : Value := .agg #[.string ⟨#[]⟩, .string ⟨#[]⟩, .int .i64 0, .int .i64 0, .int .i64 0, .int .i64 0, .slice none 0 0]
theorem zeroM2 (w : World) : (zeroValue 58).run Tryz.prog w = .ok zeroMem2 w := by kernel_rfl

/-- The sizes of a list of members with slots. -/
structure MemSmall2 (L : List Mem) : Prop where
  len : L.length ≤ 1000
  p : ∀ m ∈ L, m.p.size ≤ 1000000
  i : ∀ m ∈ L, m.i.size ≤ 1000000
  l : ∀ m ∈ L, m.l.length ≤ 1000000
  s : ∀ m ∈ L, (Lit.int .i64 m.s).wf = true
/-- What Arrays answers. -/
def ArrRes (w : World) (b : ByteArray × Int → Option Mem) (e : Ending) (w' : World) : Prop :=
  ∃ (a' : Option Addr) (c' : Nat) (O : List ArrM) (ids : List ByteArray), e = .returned (.slice a' O.length c') ∧ Arrs w' a' c' O ∧ (∀ ad, a' = some ad → w.heap.size ≤ ad.block) ∧ AFresh w' w.heap.size O ∧ IsIds2 b ids ∧ O.map ArrM.toArr = ids.map (buildA b) ∧ ids.length ≤ 1000 ∧ w'.ownsRow w.heap.size 42 6 (.slice a' O.length c') O.length (arflat O)
end Go.Proofs.YtbblkknndaoefaaGreatDoor
namespace Go.Proofs.YtbblkknndaoefaaGreatDoor
open Go.RowKit Go.Maps
set_option linter.unusedVariables false

theorem block_alloc_old {w : World} {b : Nat} {o x : Obj} (h : w.heap[b]? = some x) : (w.alloc o).heap[b]? = some x := ((Fr.refl No w).alloc o).heap h id
/-- What Build answers. -/
def BuildR (w : World) (b : ByteArray × Int → Option Mem) (di : ByteArray) (e : Ending) (w' : World) : Prop :=
  ∃ A : ArrM, e = .returned (.agg A.vals) ∧ A.toArr = buildA b di ∧ Strs w' A.pa A.pc A.ps ∧ BlkT w' A.pa 9 ∧ (∀ ad, A.pa = some ad → w.heap.size ≤ ad.block) ∧ A.la = (firstOf b di).a ∧ A.lc = (firstOf b di).c

set_option maxRecDepth 100000 in
set_option maxHeartbeats 8000000 in
theorem ref_build (a : Option Addr) (cap : Nat) (G : List Mem) (di : ByteArray) (m0 : Int) (w : World) (hl : Mems w a cap G) (hb : MemSmall G) (ht : ∀ m ∈ G, 1 ≤ m.t ∧ m.t ≤ 16) (hm0 : w.cell? ⟨1, 0, none⟩ = some (.int .i64 m0)) (hw0 : 1 < w.heap.size) :
    Calls Tryz.prog 93 #[.slice a G.length cap, .string di] w fun e w' => BuildR w (best2 allG G) di e w' ∧ Fr No w w' := by
  obtain ⟨i0, hi0, hz0, hz1, hz2⟩ := info_parts infoS
  have hlm := hb.len
  have hx1 : Fr No w ((w.alloc (.cells #[.string ⟨#[]⟩, .slice none 0 0, .int .i64 0, .int .i64 0, .int .i64 0, .slice none 0 0] 42)).alloc (.cells #[.string di, .slice none 0 0, .int .i64 0, .int .i64 0, .int .i64 0, .slice none 0 0] 42)) := ((Fr.refl _ _).alloc _).alloc _
  have q4' := block_alloc1 w (.cells #[.string ⟨#[]⟩, .slice none 0 0, .int .i64 0, .int .i64 0, .int .i64 0, .slice none 0 0] 42) (.cells #[.string di, .slice none 0 0, .int .i64 0, .int .i64 0, .int .i64 0, .slice none 0 0] 42)
  have q5' := block_alloc2 w (.cells #[.string ⟨#[]⟩, .slice none 0 0, .int .i64 0, .int .i64 0, .int .i64 0, .slice none 0 0] 42) (.cells #[.string di, .slice none 0 0, .int .i64 0, .int .i64 0, .int .i64 0, .slice none 0 0] 42)
  have hs0 : ((w.alloc (.cells #[.string ⟨#[]⟩, .slice none 0 0, .int .i64 0, .int .i64 0, .int .i64 0, .slice none 0 0] 42)).alloc (.cells #[.string di, .slice none 0 0, .int .i64 0, .int .i64 0, .int .i64 0, .slice none 0 0] 42)).heap.size = w.heap.size + 2 := by simp
  have hx : Fr (From w.heap.size) w ((w.alloc (.cells #[.string ⟨#[]⟩, .slice none 0 0, .int .i64 0, .int .i64 0, .int .i64 0, .slice none 0 0] 42)).alloc (.cells #[.string di, .slice none 0 0, .int .i64 0, .int .i64 0, .int .i64 0, .slice none 0 0] 42)) := hx1.mono (fun _ _ h => h.elim)
  obtain ⟨W0, hW0⟩ : ∃ W0, W0 = (w.alloc (.cells #[.string ⟨#[]⟩, .slice none 0 0, .int .i64 0, .int .i64 0, .int .i64 0, .slice none 0 0] 42)).alloc (.cells #[.string di, .slice none 0 0, .int .i64 0, .int .i64 0, .int .i64 0, .slice none 0 0] 42) := ⟨_, rfl⟩
  rw [← hW0] at hx q4' q5' hs0
  have hlk : ∀ W : World, Fr (From w.heap.size) w W → Mems W a cap G := fun W hf => hl.keep hf (fun b hb h => by unfold From at h; omega)
  have hmk : ∀ W : World, Fr (From w.heap.size) w W → W.cell? ⟨1, 0, none⟩ = some (.int .i64 m0) := fun W hf => hf.cell hm0 (by intro h; unfold From at h; simp only at h; omega)
  have Hlk := Lib.hid hlk
  have Hmk := Lib.hid hmk
  have Hb := Lib.hid hb
  have Ht := Lib.hid ht
  have Hx := Lib.hid hx
  have Hq4 := Lib.hid q4'
  have Hq5 := Lib.hid q5'
  have hlmax := hl.lenmax
  have hs2 : w.heap.size + 2 ≤ W0.heap.size := by omega
  have hon : ∀ (s : Int) (W : World), Fr (From w.heap.size) w W → Calls Tryz.prog 127 #[.slice a G.length cap, .string di, .int .i64 s] W fun e w' => OwnerR (best2 allG G (di, s)) e ∧ Fr No W w' := fun s W hf => ref_owner a cap G di s m0 W (Hlk.out W hf) Hb.out (Hmk.out W hf) (by have := hf.size; omega)
  have Hon := Lib.hid hon
  have Hw0 := Lib.hid hw0
  obtain ⟨g, hg⟩ : ∃ g, g = best2 allG G := ⟨_, rfl⟩
  have hgm : ∀ s m, g (di, s) = some m → m ∈ G := fun s m h => (best2_mem G _ m (by rw [← hg]; exact h)).1
  have Hgm := Lib.hid hgm
  rw [← hg] at Hon ⊢
  have Hg := Lib.hid hg
  clear hb ht hx hl hm0 hs0 hlk hmk hx1 q4' q5' hon hgm hg hw0
  go_enter Tryz.func93, Tryz.ntmps93
  go_upto_region 2 with (fail)
  rw [← hW0]
  clear hW0
  go_wp2_with fail
  go_loopw [6] (fun i wr => ∃ n : Nat, n ≤ 16 ∧ i = .int .i64 (16 - (n : Int)) ∧ wr.heap[w.heap.size + 1]? = some (.cells #[.string di, .slice none 0 0, .int .i64 ((upM g di n).getD Mem.zero).t, .int .i64 ((upM g di n).getD Mem.zero).e, .int .i64 0, .slice ((upM g di n).getD Mem.zero).a ((upM g di n).getD Mem.zero).l.length ((upM g di n).getD Mem.zero).c] 42) ∧ wr.heap[w.heap.size]? = some (.cells #[.string ⟨#[]⟩, .slice none 0 0, .int .i64 0, .int .i64 0, .int .i64 0, .slice none 0 0] 42) ∧ Fr (From w.heap.size) w wr ∧ w.heap.size + 2 ≤ wr.heap.size) (fun i _ => (intOf i).toNat)
  case atStart => exact ⟨0, by omega, rfl, Hq5.out, Hq4.out, Hx.out, hs2⟩
  case round =>
    obtain ⟨n, hn, rfl, hq5, hq4, hf, hsr⟩ := hrel
    by_cases hlt : n < 16
    · have hge : (1 : Int) ≤ 16 - (n : Int) := by omega
      have how := Hon.out (16 - (n : Int)) wr hf
      rcases hgn : g (di, 16 - (n : Int)) with _ | ⟨mp, mi, mr, ms, mt, me, ma, ml, mc⟩
      · have hu := upM_none hgn
        rw [← hu] at hq5
        have Hq5 := Lib.hid hq5
        have Hq4 := Lib.hid hq4
        have Hf := Lib.hid hf
        have Hgn := Lib.hid hgn
        clear hq5 hq4 hf hu hgn
        go_wp2_with fail
        refine how.mono ?_
        rintro e w2 ⟨ho, hf2⟩
        unfold OwnerR at ho
        rw [Hgn.out] at ho
        have ho' : e = .returned (.tuple #[.agg #[.string ⟨#[]⟩, .string ⟨#[]⟩, .int .i64 0, .int .i64 0, .int .i64 0, .int .i64 0, .slice none 0 0], .bool false]) := ho
        subst ho'
        have hfa : Fr No w2 (w2.alloc (.cells #[.string ⟨#[]⟩, .string ⟨#[]⟩, .int .i64 0, .int .i64 0, .int .i64 0, .int .i64 0, .slice none 0 0] 58)) := (Fr.refl _ _).alloc _
        have qa := block_alloc w2 (.cells #[.string ⟨#[]⟩, .string ⟨#[]⟩, .int .i64 0, .int .i64 0, .int .i64 0, .int .i64 0, .slice none 0 0] 58)
        have hs2 := hf2.size
        have HR := Lib.hid (And.intro ((hf2.step hfa (fun _ _ h => h)).heap Hq5.out id) (And.intro ((hf2.step hfa (fun _ _ h => h)).heap Hq4.out id) ((Hf.out.step (hf2.step hfa (fun _ _ h => h)) (fun _ _ h => h.elim)))))
        have hsa := hfa.size
        clear qa hfa hf2 how
        go_wp2_with fail
        go_roundw
        case rel => exact ⟨n + 1, by omega, by go_num, HR.out.1, HR.out.2.1, HR.out.2.2, by omega⟩
        case measure => simp [intOf]; omega
      · have hu := upM_some hgn
        have Hu := Lib.hid hu
        have Hq5 := Lib.hid hq5
        have Hq4 := Lib.hid hq4
        have Hf := Lib.hid hf
        have Hgn := Lib.hid hgn
        clear hq5 hq4 hf hu hgn
        go_wp2_with fail
        refine how.mono ?_
        rintro e w2 ⟨ho, hf2⟩
        unfold OwnerR at ho
        rw [Hgn.out] at ho
        have ho' : e = .returned (.tuple #[.agg #[.string mp, .string mi, .int .i64 mr, .int .i64 ms, .int .i64 mt, .int .i64 me, .slice ma ml.length mc], .bool true]) := ho
        subst ho'
        have hfa : Fr No w2 (w2.alloc (.cells #[.string mp, .string mi, .int .i64 mr, .int .i64 ms, .int .i64 mt, .int .i64 me, .slice ma ml.length mc] 58)) := (Fr.refl _ _).alloc _
        have qa := block_alloc w2 (.cells #[.string mp, .string mi, .int .i64 mr, .int .i64 ms, .int .i64 mt, .int .i64 me, .slice ma ml.length mc] 58)
        have hs2 := hf2.size
        have hsa := hfa.size
        have HR := Lib.hid (And.intro ((hf2.step hfa (fun _ _ h => h)).heap Hq5.out id) (And.intro ((hf2.step hfa (fun _ _ h => h)).heap Hq4.out id) ((Hf.out.step (hf2.step hfa (fun _ _ h => h)) (fun _ _ h => h.elim)))))
        obtain ⟨W5, hW5⟩ : ∃ W5, W5 = w2.alloc (.cells #[.string mp, .string mi, .int .i64 mr, .int .i64 ms, .int .i64 mt, .int .i64 me, .slice ma ml.length mc] 58) := ⟨_, rfl⟩
        rw [← hW5] at HR hsa qa
        have hq7 := qa
        clear qa hfa hf2 how
        go_upto_region 7 with (fail)
        rw [← hW5]
        clear hW5
        refine region_sig (Is (w.heap.size + 1)) [(0, false), (1, false), (2, false), (3, false), (4, false), (5, false), (6, false), (7, true), (8, false), (9, true), (10, false), (11, true)] (by kernel_rfl) (by kernel_rfl) (fun w0 hf0 => ?_)
        have qm := hf0.heap hq7 id
        have g4 : ∀ g : Gr (Is (w.heap.size + 1)) w0, g.W.cell? ⟨w2.heap.size, 4, none⟩ = some (.int .i64 mt) := fun g => g.fr.cell (cell_of_block qm 4) (by intro h; unfold Is at h; simp only at h; omega)
        have g5 : ∀ g : Gr (Is (w.heap.size + 1)) w0, g.W.cell? ⟨w2.heap.size, 5, none⟩ = some (.int .i64 me) := fun g => g.fr.cell (cell_of_block qm 5) (by intro h; unfold Is at h; simp only at h; omega)
        have g6 : ∀ g : Gr (Is (w.heap.size + 1)) w0, g.W.cell? ⟨w2.heap.size, 6, none⟩ = some (.slice ma ml.length mc) := fun g => g.fr.cell (cell_of_block qm 6) (by intro h; unfold Is at h; simp only at h; omega)
        have qA := hf0.heap HR.out.1 id
        have Hq4' := Lib.hid (hf0.heap HR.out.2.1 id)
        have Hfx := Lib.hid (HR.out.2.2.step hf0 (fun _ _ h => h.elim))
        have hsz0 := hf0.size
        obtain ⟨tt, htt⟩ : ∃ tt, tt = ((upM g di n).getD Mem.zero).t := ⟨_, rfl⟩
        obtain ⟨ee, hee⟩ : ∃ ee, ee = ((upM g di n).getD Mem.zero).e := ⟨_, rfl⟩
        obtain ⟨sl, hsl⟩ : ∃ sl, sl = Value.slice ((upM g di n).getD Mem.zero).a ((upM g di n).getD Mem.zero).l.length ((upM g di n).getD Mem.zero).c := ⟨_, rfl⟩
        rw [← htt, ← hee, ← hsl] at qA
        clear qm hq7 hf0 HR Hq4 Hq5 Hf htt hee hsl
        repeat (first | (apply sig_q; exact rfl; exact rfl; exact rfl; intro K hK; go_big_quiet_op; go_big_quiet_on) | (apply sig_skip; exact rfl; exact rfl; exact rfl; intro K hK; go_big_quiet_op; go_big_quiet_on))
        apply sig_m
        exact rfl
        have y2 := cell_of_block qA 2
        have z2 := free_of_block qA 2
        go_wp2_with fail
        clear y2 z2
        have qB := block_setCell qA 2 (.int .i64 mt)
        simp at qB
        have hs1 : Fr (Is (w.heap.size + 1)) w0 (w0.setCell ⟨w.heap.size + 1, 2, none⟩ (.int .i64 mt)) := Fr.setCell (S := Is (w.heap.size + 1)) (p := ⟨w.heap.size + 1, 2, none⟩) (Fr.refl _ _) (fun _ => rfl) _
        refine OnlyN.mk ⟨hs1, ?_⟩
        generalize w0.setCell ⟨w.heap.size + 1, 2, none⟩ (.int .i64 mt) = X1 at *
        repeat (first | (apply sig_q; exact rfl; exact rfl; exact rfl; intro K hK; go_big_quiet_op; go_big_quiet_on) | (apply sig_skip; exact rfl; exact rfl; exact rfl; intro K hK; go_big_quiet_op; go_big_quiet_on))
        apply sig_m
        exact rfl
        have y3 := cell_of_block qB 3
        have z3 := free_of_block qB 3
        go_wp2_with fail
        clear y3 z3
        have qC := block_setCell qB 3 (.int .i64 me)
        simp at qC
        have hs2' : Fr (Is (w.heap.size + 1)) X1 (X1.setCell ⟨w.heap.size + 1, 3, none⟩ (.int .i64 me)) := Fr.setCell (S := Is (w.heap.size + 1)) (p := ⟨w.heap.size + 1, 3, none⟩) (Fr.refl _ _) (fun _ => rfl) _
        refine OnlyN.mk ⟨hs2', ?_⟩
        generalize X1.setCell ⟨w.heap.size + 1, 3, none⟩ (.int .i64 me) = X2 at *
        repeat (first | (apply sig_q; exact rfl; exact rfl; exact rfl; intro K hK; go_big_quiet_op; go_big_quiet_on) | (apply sig_skip; exact rfl; exact rfl; exact rfl; intro K hK; go_big_quiet_op; go_big_quiet_on))
        apply sig_m
        exact rfl
        have y5 := cell_of_block qC 5
        have z5 := free_of_block qC 5
        go_wp2_with fail
        clear y5 z5
        have qD := block_setCell qC 5 (.slice ma ml.length mc)
        simp at qD
        have hs3' : Fr (Is (w.heap.size + 1)) X2 (X2.setCell ⟨w.heap.size + 1, 5, none⟩ (.slice ma ml.length mc)) := Fr.setCell (S := Is (w.heap.size + 1)) (p := ⟨w.heap.size + 1, 5, none⟩) (Fr.refl _ _) (fun _ => rfl) _
        refine OnlyN.mk ⟨hs3', ?_⟩
        generalize X2.setCell ⟨w.heap.size + 1, 5, none⟩ (.slice ma ml.length mc) = X3 at *
        have hf03 := (hs1.step hs2' (fun _ _ h => h)).step hs3' (fun _ _ h => h)
        have HE := Lib.hid (And.intro qD (And.intro (hf03.heap Hq4'.out (fun e => by unfold Is at e; omega)) (Hfx.out.step hf03 (fun b _ h => by unfold Is at h; unfold From; omega))))
        have hsz4 := hf03.size
        clear qA qB qC qD hs1 hs2' hs3' hf03 g4 g5 g6
        repeat (first | (apply sig_q; exact rfl; exact rfl; exact rfl; intro K hK; go_big_quiet_op; go_big_quiet_on) | (apply sig_skip; exact rfl; exact rfl; exact rfl; intro K hK; go_big_quiet_op; go_big_quiet_on))
        refine sig_end ?_
        go_wp2_with fail
        go_roundw
        case rel => exact ⟨n + 1, by omega, by go_num, by rw [Hu.out]; exact HE.out.1, HE.out.2.1, HE.out.2.2, by omega⟩
        case measure => simp [intOf]; omega
    · obtain rfl : n = 16 := by omega
      have hge : ¬ (1 : Int) ≤ 16 - ((16 : Nat) : Int) := by omega
      rw [upM_first] at hq5
      obtain ⟨F, hF⟩ : ∃ F, F = firstOf g di := ⟨_, rfl⟩
      rw [← hF] at hq5
      have hFt : 0 ≤ F.t ∧ F.t ≤ 16 := by
        rw [hF]; unfold firstOf
        rcases hg1 : g (di, leastSlot g di) with _ | m
        · exact ⟨Int.le_refl _, by decide⟩
        · have := Ht.out m (Hgm.out _ _ hg1)
          simp only [Option.getD_some]
          omega
      have HF := Lib.hid hF
      obtain ⟨fp, fi, fr, fs, ft, fe, fa, fl, fc⟩ := F
      simp only at hq5 hFt
      obtain ⟨T, rfl⟩ : ∃ T : Nat, ft = (T : Int) := ⟨ft.toNat, by omega⟩
      have hT16 : T ≤ 16 := by omega
      have hbA := buildA_eq g di (T := T) (by rw [← HF.out])
      rw [← HF.out] at hbA
      simp only at hbA
      have HbA := Lib.hid hbA
      have Hq5 := Lib.hid hq5
      have Hq4 := Lib.hid hq4
      have Hf := Lib.hid hf
      obtain ⟨B2, hB2⟩ : ∃ B2, B2 = wr.heap.size := ⟨_, rfl⟩
      have hB2a : w.heap.size + 2 ≤ B2 := by omega
      have hB2b : B2 ≤ wr.heap.size := by omega
      clear hq5 hq4 hf hF hbA hFt hB2
      go_wp2_with fail
      go_loopw [9] (fun i wi => ∃ (n : Nat) (P : List ByteArray) (pa : Option Addr) (pc : Nat), n ≤ T ∧ P.length ≤ n ∧ n ≤ P.length ∧ i = .int .i64 ((n : Int) + 1) ∧ Hid (P = pathsN g di n) ∧ wi.heap[w.heap.size + 1]? = some (.cells #[.string di, .slice pa P.length pc, .int .i64 (T : Int), .int .i64 fe, .int .i64 ((cntN g di n : Nat) : Int), .slice fa fl.length fc] 42) ∧ wi.heap[w.heap.size]? = some (.cells #[.string ⟨#[]⟩, .slice none 0 0, .int .i64 0, .int .i64 0, .int .i64 0, .slice none 0 0] 42) ∧ wi.ownsRow B2 9 1 (.slice pa P.length pc) P.length (P.map Value.string) ∧ Fr (From w.heap.size) w wi ∧ B2 ≤ wi.heap.size) (fun i _ => (T + 1 - (intOf i).toNat))
      case atStart => exact ⟨0, [], none, 0, by omega, by simp, by simp, rfl, by unfold Hid; rfl, Hq5.out, Hq4.out, World.ownsRow_nil _ _ _ _, Hf.out, hB2b⟩
      case round =>
        obtain ⟨n, P, pa, pc, hn, hP1, hP2, rfl, HP, hq5, hq4, hown, hf, hsr2⟩ := hrel
        have hcn := cntN_le g di n
        by_cases hlt : n < T
        · have hle : (n : Int) + 1 ≤ T := by omega
          have x2 : wr.cell? ⟨w.heap.size + 1, 2, none⟩ = some (.int .i64 (T : Int)) := cell_of_block hq5 2
          have how := Hon.out ((n : Int) + 1) wr hf
          have Hq5 := Lib.hid hq5
          have Hq4 := Lib.hid hq4
          have Hf := Lib.hid hf
          rcases hgn : g (di, (n : Int) + 1) with _ | ⟨mp, mi, mr, ms, mt, me, ma, ml, mc⟩
          · have HP' : Hid (P ++ [⟨#[]⟩] = pathsN g di (n + 1)) := by unfold Hid; rw [pathsN_succ, pathAt_none hgn, HP.out]
            have Hcn : Hid (cntN g di (n + 1) = cntN g di n) := cntN_none hgn
            have Hgn := Lib.hid hgn
            clear hq5 hq4 hf hgn
            go_wp2_with fail
            refine how.mono ?_
            rintro e w2 ⟨ho, hf2⟩
            unfold OwnerR at ho
            rw [Hgn.out] at ho
            have ho' : e = .returned (.tuple #[.agg #[.string ⟨#[]⟩, .string ⟨#[]⟩, .int .i64 0, .int .i64 0, .int .i64 0, .int .i64 0, .slice none 0 0], .bool false]) := ho
            subst ho'
            have hfa : Fr No w2 (w2.alloc (.cells #[.string ⟨#[]⟩, .string ⟨#[]⟩, .int .i64 0, .int .i64 0, .int .i64 0, .int .i64 0, .slice none 0 0] 58)) := (Fr.refl _ _).alloc _
            have qa := block_alloc w2 (.cells #[.string ⟨#[]⟩, .string ⟨#[]⟩, .int .i64 0, .int .i64 0, .int .i64 0, .int .i64 0, .slice none 0 0] 58)
            have hs2 := hf2.size
            clear x2
            have hsa := hfa.size
            have hstep := hf2.step hfa (fun _ _ h => h)
            have Hown := Lib.hid (ownsRow_at hown hstep (fun _ _ h => h))
            have HR := Lib.hid (And.intro (hstep.heap Hq5.out id) (And.intro (hstep.heap Hq4.out id) (Hf.out.step hstep (fun _ _ h => h.elim))))
            obtain ⟨W5, hW5⟩ : ∃ W5, W5 = w2.alloc (.cells #[.string ⟨#[]⟩, .string ⟨#[]⟩, .int .i64 0, .int .i64 0, .int .i64 0, .int .i64 0, .slice none 0 0] 58) := ⟨_, rfl⟩
            rw [← hW5] at HR hsa qa Hown
            have hm0' : W5.cell? ⟨w2.heap.size, 0, none⟩ = some (.string ⟨#[]⟩) := cell_of_block qa 0
            have y1 : W5.cell? ⟨w.heap.size + 1, 1, none⟩ = some (.slice pa P.length pc) := cell_of_block HR.out.1 1
            clear qa hfa hf2 how hstep hown
            go_upto_region 14 with (fail)
            rw [← hW5]
            clear hW5
            have hal : Fr No W5 (W5.alloc (.cells #[.string ⟨#[]⟩] 9)) := (Fr.refl _ _).alloc _
            go_wp2_with (at_builtin; refine wpList_append_own _ rfl _ _ 33 rfl B2 9 i0 (.string ByteArray.empty) 1 16 Tryz.underlying33 hi0 hz0 hz1 hz2 rfl (by decide) _ _ _ rfl (Hown.out.alloc _) ⟨W5.heap.size, 0, none⟩ 1 1 [.string ⟨#[]⟩] rfl rfl (cell_one_new _ _ _) (strs_one [⟨#[]⟩]) (by unfold maxLen; omega) (by omega) (by first | omega | (simp; done) | (simp; omega)) ?_; intro v' w9 hown9 hgrow9 _; obtain ⟨av', cv', rfl⟩ := ownsRow_slice hown9; have hgf : Fr (fun b => (Value.slice pa P.length pc).ownBlock = some b) (W5.alloc (.cells #[.string ⟨#[]⟩] 9)) w9 := Fr.of_grown hgrow9; have hq9 := hgf.heap (block_alloc_old (o := .cells #[.string ⟨#[]⟩] 9) HR.out.1) (fun h => by have h1 := ownsRow_blk Hown.out h; unfold From at h1; omega); have z1 := cell_of_block hq9 1; have f1 := free_of_block hq9 1)
            have qF := block_setCell hq9 1 (.slice av' (P.length + 1) cv')
            simp at qF
            have hsc9 : Fr (Is (w.heap.size + 1)) w9 (w9.setCell ⟨w.heap.size + 1, 1, none⟩ (.slice av' (P.length + 1) cv')) := Fr.setCell (S := Is (w.heap.size + 1)) (p := ⟨w.heap.size + 1, 1, none⟩) (Fr.refl _ _) (fun _ => rfl) _
            have hf59 := (hal.mono (T := From B2) (fun _ _ h => h.elim)).step hgf (fun b _ h => ownsRow_blk Hown.out h)
            have hs59 := hf59.size
            have hs9 := hsc9.size
            have HF9 := Lib.hid (And.intro qF (And.intro (hsc9.heap (hf59.heap HR.out.2.1 (fun h => by unfold From at h; omega)) (fun e => by unfold Is at e; omega)) (And.intro (ownsRow_at hown9 hsc9 (fun b h e => by have h1 := ownsRow_blk hown9 h; unfold From at h1; unfold Is at e; omega)) ((HR.out.2.2.step hf59 (fun b _ h => by unfold From at *; omega)).step hsc9 (fun b _ h => by unfold Is at h; unfold From; omega)))))
            clear qF hsc9 hf59 hgf hal hown9 hgrow9 hq9 z1 f1 hm0' y1
            go_roundw
            case rel => exact ⟨n + 1, P ++ [⟨#[]⟩], av', cv', by omega, by simp; omega, by simp; omega, by go_num, HP', by rw [List.length_append, Hcn.out]; exact HF9.out.1, HF9.out.2.1, by rw [List.length_append, List.map_append]; exact HF9.out.2.2.1, HF9.out.2.2.2, by omega⟩
            case measure => simp [intOf]; omega
          · have HP' : Hid (P ++ [mp] = pathsN g di (n + 1)) := by unfold Hid; rw [pathsN_succ, pathAt_some hgn, HP.out]
            have Hcn : Hid (cntN g di (n + 1) = cntN g di n + 1) := cntN_some hgn
            have Hgn := Lib.hid hgn
            clear hq5 hq4 hf hgn
            go_wp2_with fail
            refine how.mono ?_
            rintro e w2 ⟨ho, hf2⟩
            unfold OwnerR at ho
            rw [Hgn.out] at ho
            have ho' : e = .returned (.tuple #[.agg #[.string mp, .string mi, .int .i64 mr, .int .i64 ms, .int .i64 mt, .int .i64 me, .slice ma ml.length mc], .bool true]) := ho
            subst ho'
            have hfa : Fr No w2 (w2.alloc (.cells #[.string mp, .string mi, .int .i64 mr, .int .i64 ms, .int .i64 mt, .int .i64 me, .slice ma ml.length mc] 58)) := (Fr.refl _ _).alloc _
            have qa := block_alloc w2 (.cells #[.string mp, .string mi, .int .i64 mr, .int .i64 ms, .int .i64 mt, .int .i64 me, .slice ma ml.length mc] 58)
            have hs2 := hf2.size
            clear x2
            have hsa := hfa.size
            have hstep := hf2.step hfa (fun _ _ h => h)
            have hown4 := ownsRow_at hown hstep (fun _ _ h => h)
            have HR4 := Lib.hid (And.intro (hstep.heap Hq5.out id) (And.intro (hstep.heap Hq4.out id) (Hf.out.step hstep (fun _ _ h => h.elim))))
            obtain ⟨W4, hW4⟩ : ∃ W4, W4 = w2.alloc (.cells #[.string mp, .string mi, .int .i64 mr, .int .i64 ms, .int .i64 mt, .int .i64 me, .slice ma ml.length mc] 58) := ⟨_, rfl⟩
            rw [← hW4] at HR4 hsa qa hown4
            have y4 : W4.cell? ⟨w.heap.size + 1, 4, none⟩ = some (.int .i64 ((cntN g di n : Nat) : Int)) := cell_of_block HR4.out.1 4
            have f4 : W4.frozen? ⟨w.heap.size + 1, 4, none⟩ = false := free_of_block HR4.out.1 4
            have hsc : Fr (Is (w.heap.size + 1)) W4 (W4.setCell ⟨w.heap.size + 1, 4, none⟩ (.int .i64 (((cntN g di n : Nat) : Int) + 1))) := Fr.setCell (S := Is (w.heap.size + 1)) (p := ⟨w.heap.size + 1, 4, none⟩) (Fr.refl _ _) (fun _ => rfl) _
            have qs := block_setCell HR4.out.1 4 (.int .i64 (((cntN g di n : Nat) : Int) + 1))
            simp at qs
            have hqa := hsc.heap qa (fun e => by unfold Is at e; omega)
            have HR := Lib.hid (And.intro qs (And.intro (hsc.heap HR4.out.2.1 (fun e => by unfold Is at e; omega)) (HR4.out.2.2.step hsc (fun b _ h => by unfold Is at h; unfold From; omega))))
            have Hown := Lib.hid (ownsRow_at hown4 hsc (fun b h e => by have h1 := ownsRow_blk hown4 h; unfold From at h1; unfold Is at e; omega))
            have hss := hsc.size
            obtain ⟨W5, hW5⟩ : ∃ W5, W5 = W4.setCell ⟨w.heap.size + 1, 4, none⟩ (.int .i64 (((cntN g di n : Nat) : Int) + 1)) := ⟨_, rfl⟩
            rw [← hW5] at HR hqa Hown hss
            have hm0' : W5.cell? ⟨w2.heap.size, 0, none⟩ = some (.string mp) := cell_of_block hqa 0
            have y1 : W5.cell? ⟨w.heap.size + 1, 1, none⟩ = some (.slice pa P.length pc) := cell_of_block HR.out.1 1
            clear qa hqa hfa hf2 how hstep hown hown4 qs hsc
            go_upto_region 13 with (fail)
            rw [← hW4]
            clear hW4
            go_upto_region 14 with (fail)
            rw [← hW5]
            clear hW5 y4 f4
            have hal : Fr No W5 (W5.alloc (.cells #[.string mp] 9)) := (Fr.refl _ _).alloc _
            go_wp2_with (at_builtin; refine wpList_append_own _ rfl _ _ 33 rfl B2 9 i0 (.string ByteArray.empty) 1 16 Tryz.underlying33 hi0 hz0 hz1 hz2 rfl (by decide) _ _ _ rfl (Hown.out.alloc _) ⟨W5.heap.size, 0, none⟩ 1 1 [.string mp] rfl rfl (cell_one_new _ _ _) (strs_one [mp]) (by unfold maxLen; omega) (by omega) (by first | omega | (simp; done) | (simp; omega)) ?_; intro v' w9 hown9 hgrow9 _; obtain ⟨av', cv', rfl⟩ := ownsRow_slice hown9; have hgf : Fr (fun b => (Value.slice pa P.length pc).ownBlock = some b) (W5.alloc (.cells #[.string mp] 9)) w9 := Fr.of_grown hgrow9; have hq9 := hgf.heap (block_alloc_old (o := .cells #[.string mp] 9) HR.out.1) (fun h => by have h1 := ownsRow_blk Hown.out h; unfold From at h1; omega); have z1 := cell_of_block hq9 1; have f1 := free_of_block hq9 1)
            have qF := block_setCell hq9 1 (.slice av' (P.length + 1) cv')
            simp at qF
            have hsc9 : Fr (Is (w.heap.size + 1)) w9 (w9.setCell ⟨w.heap.size + 1, 1, none⟩ (.slice av' (P.length + 1) cv')) := Fr.setCell (S := Is (w.heap.size + 1)) (p := ⟨w.heap.size + 1, 1, none⟩) (Fr.refl _ _) (fun _ => rfl) _
            have hf59 := (hal.mono (T := From B2) (fun _ _ h => h.elim)).step hgf (fun b _ h => ownsRow_blk Hown.out h)
            have hs59 := hf59.size
            have hs9 := hsc9.size
            have HF9 := Lib.hid (And.intro qF (And.intro (hsc9.heap (hf59.heap HR.out.2.1 (fun h => by unfold From at h; omega)) (fun e => by unfold Is at e; omega)) (And.intro (ownsRow_at hown9 hsc9 (fun b h e => by have h1 := ownsRow_blk hown9 h; unfold From at h1; unfold Is at e; omega)) ((HR.out.2.2.step hf59 (fun b _ h => by unfold From at *; omega)).step hsc9 (fun b _ h => by unfold Is at h; unfold From; omega)))))
            clear qF hsc9 hf59 hgf hal hown9 hgrow9 hq9 z1 f1 hm0' y1
            go_roundw
            case rel => exact ⟨n + 1, P ++ [mp], av', cv', by omega, by simp; omega, by simp; omega, by go_num, HP', by rw [List.length_append, Hcn.out]; exact HF9.out.1, HF9.out.2.1, by rw [List.length_append, List.map_append]; exact HF9.out.2.2.1, HF9.out.2.2.2, by omega⟩
            case measure => simp [intOf]; omega
        · obtain rfl : n = T := by omega
          have hle : ¬ (n : Int) + 1 ≤ n := by omega
          obtain ⟨a', c', hv, hS, hfr⟩ := Strs.of_own hown
          cases hv
          have hbt := own_typ hown
          have hPe := HP.out
          have x0 : wr.cell? ⟨w.heap.size + 1, 0, none⟩ = some (.string di) := cell_of_block hq5 0
          have x1 : wr.cell? ⟨w.heap.size + 1, 1, none⟩ = some (.slice pa P.length pc) := cell_of_block hq5 1
          have x2 : wr.cell? ⟨w.heap.size + 1, 2, none⟩ = some (.int .i64 (n : Int)) := cell_of_block hq5 2
          have x3 : wr.cell? ⟨w.heap.size + 1, 3, none⟩ = some (.int .i64 fe) := cell_of_block hq5 3
          have x4 : wr.cell? ⟨w.heap.size + 1, 4, none⟩ = some (.int .i64 ((cntN g di n : Nat) : Int)) := cell_of_block hq5 4
          have x5 : wr.cell? ⟨w.heap.size + 1, 5, none⟩ = some (.slice fa fl.length fc) := cell_of_block hq5 5
          have b0 : wr.cell? ⟨w.heap.size, 0, none⟩ = some (.string ⟨#[]⟩) := cell_of_block hq4 0
          have b1 : wr.cell? ⟨w.heap.size, 1, none⟩ = some (.slice none 0 0) := cell_of_block hq4 1
          have b2 : wr.cell? ⟨w.heap.size, 2, none⟩ = some (.int .i64 0) := cell_of_block hq4 2
          have b3 : wr.cell? ⟨w.heap.size, 3, none⟩ = some (.int .i64 0) := cell_of_block hq4 3
          have b4 : wr.cell? ⟨w.heap.size, 4, none⟩ = some (.int .i64 0) := cell_of_block hq4 4
          have b5 : wr.cell? ⟨w.heap.size, 5, none⟩ = some (.slice none 0 0) := cell_of_block hq4 5
          have f0 : wr.frozen? ⟨w.heap.size, 0, none⟩ = false := free_of_block hq4 0
          have f1 : wr.frozen? ⟨w.heap.size, 1, none⟩ = false := free_of_block hq4 1
          have f2 : wr.frozen? ⟨w.heap.size, 2, none⟩ = false := free_of_block hq4 2
          have f3 : wr.frozen? ⟨w.heap.size, 3, none⟩ = false := free_of_block hq4 3
          have f4 : wr.frozen? ⟨w.heap.size, 4, none⟩ = false := free_of_block hq4 4
          have f5 : wr.frozen? ⟨w.heap.size, 5, none⟩ = false := free_of_block hq4 5
          have h6 := set6 hq4 rfl (.string di) (.slice pa P.length pc) (.int .i64 (n : Int)) (.int .i64 fe) (.int .i64 ((cntN g di n : Nat) : Int)) (.slice fa fl.length fc)
          have H6 := Lib.hid h6.1
          have H5 := Lib.hid ((hf.step h6.2 (fun b _ h => by unfold Is at h; unfold From; omega)).mono (T := No) (fun b hb h => by unfold From at h; omega))
          have HS := Lib.hid (And.intro (hS.fr h6.2 (fun ad e _ h => by have := hfr ad e; unfold Is at h; omega)) (hbt.fr h6.2 (fun ad e h => by have := hfr ad e; unfold Is at h; omega)))
          have Hfr := Lib.hid hfr
          have Hae : Hid (Arr.mk di P (n : Int) fe ((cntN g di n : Nat) : Int) fl = buildA g di) := by unfold Hid; rw [HbA.out, hPe]
          clear h6 hq4 hq5 hf hown hS hbt hfr hPe
          go_wp2_with fail
          clear x0 x1 x2 x3 x4 x5 b0 b1 b2 b3 b4 b5 f0 f1 f2 f3 f4 f5
          have y0 := cell_of_block H6.out 0
          have y1 := cell_of_block H6.out 1
          have y2 := cell_of_block H6.out 2
          have y3 := cell_of_block H6.out 3
          have y4 := cell_of_block H6.out 4
          have y5 := cell_of_block H6.out 5
          refine bodyPost_ret (v := .agg #[.string di, .slice pa P.length pc, .int .i64 (n : Int), .int .i64 fe, .int .i64 ((cntN g di n : Nat) : Int), .slice fa fl.length fc]) (by simp [results, Tryz.results93, go_sem, y0, y1, y2, y3, y4, y5]) rfl ?_
          exact ⟨⟨⟨⟨di, P, (n : Int), fe, ((cntN g di n : Nat) : Int), fl⟩, pa, pc, fa, fc⟩, rfl, Hae.out, HS.out.1, HS.out.2, fun ad e => by have := Hfr.out ad e; omega, by rw [← HF.out], by rw [← HF.out]⟩, H5.out⟩
end Go.Proofs.YtbblkknndaoefaaGreatDoor
