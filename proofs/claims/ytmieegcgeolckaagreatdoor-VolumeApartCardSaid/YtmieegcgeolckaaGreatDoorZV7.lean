/- Sound; volume's good members. Blocks and the types of their cells. Arrays in memory: slices of api.Array. The groups of a range over places: plain; look-ups by their runs. clash. Insert of the reference. slices.Clone of strings. -/
import Derived.Test.YtmieegcgeolckaaGreatDoorZV6
import Derived.Test.YtmieegcgeolckaaGreatDoorZV3
import Derived.Test.YtmieegcgeolckaaGreatDoorZV5
import Derived.Test.YtmieegcgeolckaaGreatDoorZV2
import Derived.Laws.AppendOwnNone
namespace Go.Proofs.YtmieegcgeolckaaGreatDoor
open Go.RowKit Go.Maps
set_option linter.unusedVariables false

set_option maxRecDepth 100000 in
set_option maxHeartbeats 2000000 in
theorem g_sound (p i : ByteArray) (r s t e : Int) (v : Value) (w : World) :
    Calls Tryz.prog 66 #[.agg #[.string p, .string i, .int .i64 r, .int .i64 s, .int .i64 t, .int .i64 e, v]] w fun en w' => en = .returned (.bool (!p.toList.isEmpty && (decide (1 ≤ s) && decide (s ≤ 16)) && (decide (1 ≤ t) && decide (t ≤ 16)))) ∧ Fr No w w' := by
  have hx : Fr No w (w.alloc (.cells #[.string p, .string i, .int .i64 r, .int .i64 s, .int .i64 t, .int .i64 e, v] 31)) := (Fr.refl _ _).alloc _
  have Hx := Lib.hid hx
  clear hx
  obtain ⟨b, hb⟩ : ∃ b, b = (!p.toList.isEmpty && (decide (1 ≤ s) && decide (s ≤ 16)) && (decide (1 ≤ t) && decide (t ≤ 16))) := ⟨_, rfl⟩
  rw [← hb]
  have Hb := Lib.hid hb
  clear hb
  go_enter Tryz.func66, Tryz.ntmps66
  rcases h1 : p.toList.isEmpty with _ | _
  · by_cases h2 : 1 ≤ s
    · by_cases h3 : s ≤ 16
      · by_cases h4 : 1 ≤ t
        · by_cases h5 : t ≤ 16
          · go_wp2_with fail
            go_ret
            exact ⟨by rw [Hb.out, h1]; simp [h2, h3, h4, h5], Hx.out⟩
          · go_wp2_with fail
            go_ret
            exact ⟨by rw [Hb.out, h1]; simp [h5], Hx.out⟩
        · go_wp2_with fail
          go_ret
          exact ⟨by rw [Hb.out, h1]; simp; omega, Hx.out⟩
      · go_wp2_with fail
        go_ret
        exact ⟨by rw [Hb.out, h1]; simp; omega, Hx.out⟩
    · go_wp2_with fail
      go_ret
      exact ⟨by rw [Hb.out, h1]; simp; omega, Hx.out⟩
  · go_wp2_with fail
    go_ret
    exact ⟨by rw [Hb.out, h1]; simp, Hx.out⟩

set_option maxRecDepth 100000 in
set_option maxHeartbeats 1000000 in
theorem v_good (p i : ByteArray) (r s t e : Int) (v : Value) (w : World) :
    Calls Tryz.prog 65 #[.agg #[.string p, .string i, .int .i64 r, .int .i64 s, .int .i64 t, .int .i64 e, v]] w fun en w' => en = .returned (.bool (!p.toList.isEmpty && (decide (1 ≤ s) && decide (s ≤ 16)) && (decide (1 ≤ t) && decide (t ≤ 16)))) ∧ Fr No w w' := by
  have hx : Fr No w (w.alloc (.cells #[.string p, .string i, .int .i64 r, .int .i64 s, .int .i64 t, .int .i64 e, v] 31)) := (Fr.refl _ _).alloc _
  have hs := g_sound p i r s t e v (w.alloc (.cells #[.string p, .string i, .int .i64 r, .int .i64 s, .int .i64 t, .int .i64 e, v] 31))
  have Hx := Lib.hid hx
  clear hx
  go_enter Tryz.func65, Tryz.ntmps65
  go_wp2_with fail
  refine hs.mono ?_
  rintro en w1 ⟨rfl, hf1⟩
  have H := Lib.hid (Hx.out.step hf1 (fun _ _ h => h))
  clear hf1 hs
  obtain ⟨b, hb⟩ : ∃ b, b = (!p.toList.isEmpty && (decide (1 ≤ s) && decide (s ≤ 16)) && (decide (1 ≤ t) && decide (t ≤ 16))) := ⟨_, rfl⟩
  rw [← hb]
  have Hb := Lib.hid hb
  clear hb
  go_wp2_with fail
  go_ret
  exact ⟨by rw [← Hb.out]; rfl, H.out⟩
end Go.Proofs.YtmieegcgeolckaaGreatDoor
namespace Go.Proofs.YtmieegcgeolckaaGreatDoor
open Go.RowKit Go.Maps
set_option linter.unusedVariables false

theorem Strs.keep {X W : World} {a : Option Addr} {cap : Nat} {l : List ByteArray} {S : Nat → Prop} (h : Strs X a cap l) (hf : Fr S X W) (hS : ∀ b, b < X.heap.size → ¬ S b) : Strs W a cap l :=
  h.fr hf (fun ad e hne => hS _ (h.cell ad e hne).2.1)

/-- A slice's block holds cells of a type. -/
def BlkT (w : World) (a : Option Addr) (T : TypeId) : Prop := ∀ ad, a = some ad → ∃ cs, w.heap[ad.block]? = some (.cells cs T (0, 0))
theorem BlkT.none (w : World) (T : TypeId) : BlkT w none T := fun _ e => by cases e
theorem own_typ {w : World} {base : Nat} {e : TypeId} {size : Nat} {a : Option Addr} {n m c : Nat} {xs : List Value} (h : w.ownsRow base e size (.slice a n c) m xs) : BlkT w a e := by
  obtain ⟨_, ⟨h1, _⟩ | ⟨g, cap, cur, h1, hg, hb, _⟩⟩ := h
  · cases h1; exact BlkT.none _ _
  · cases h1; exact fun ad e => by cases e; exact ⟨cur, hb⟩
/-- What lies in blocks of another type than the own row's block is not touched by what writes that block. -/
theorem BlkT.fr {S : Nat → Prop} {w w' : World} {a : Option Addr} {T : TypeId} (h : BlkT w a T) (hf : Fr S w w') (hS : ∀ ad, a = some ad → ¬ S ad.block) : BlkT w' a T := fun ad e => by
  obtain ⟨cs, hc⟩ := h ad e
  exact ⟨cs, hf.heap hc (hS ad e)⟩
theorem BlkT.ne {w : World} {base : Nat} {e T : TypeId} {size : Nat} {v : Value} {n : Nat} {xs : List Value} (ho : w.ownsRow base e size v n xs) {a : Option Addr} (h : BlkT w a T) (hne : T ≠ e) : ∀ ad, a = some ad → ¬ v.ownBlock = some ad.block := by
  intro ad e' hb
  obtain ⟨cs, hc⟩ := h ad e'
  obtain ⟨_, ⟨rfl, _⟩ | ⟨g, cap, cur, rfl, hg, hbl, _⟩⟩ := ho
  · cases hb
  · cases hb
    rw [hc] at hbl
    cases hbl
    exact hne rfl
theorem ownsRow_at {w w1 : World} {base : Nat} {e : TypeId} {size : Nat} {v : Value} {n : Nat} {xs : List Value} (h : w.ownsRow base e size v n xs) {S : Nat → Prop} (hf : Fr S w w1) (hS : ∀ b, v.ownBlock = some b → ¬ S b) : w1.ownsRow base e size v n xs := by
  obtain ⟨h0, ⟨rfl, h2⟩ | ⟨g, cap, cur, rfl, hg, hb, h1, h2, h3, h4⟩⟩ := h
  · exact ⟨h0, .inl ⟨rfl, h2⟩⟩
  · exact ⟨h0, .inr ⟨g, cap, cur, rfl, hg, hf.heap hb (hS g rfl), h1, h2, h3, h4⟩⟩
end Go.Proofs.YtmieegcgeolckaaGreatDoor
namespace Go.Proofs.YtmieegcgeolckaaGreatDoor
open Go.RowKit Go.Maps
set_option linter.unusedVariables false

/-- An array with the places of its paths and its inner texts. -/
structure ArrM extends Arr where
  pa : Option Addr
  pc : Nat
  la : Option Addr
  lc : Nat
def ArrM.vals (m : ArrM) : Array Value := #[.string m.i, .slice m.pa m.ps.length m.pc, .int .i64 m.t, .int .i64 m.e, .int .i64 m.n, .slice m.la m.l.length m.lc]
structure Arrs (w : World) (a : Option Addr) (cap : Nat) (L : List ArrM) : Prop where
  len : L.length ≤ cap
  max : cap ≤ maxLen
  isNil : a = none → L = [] ∧ cap = 0
  ok : ∀ m ∈ L, Strs w m.pa m.pc m.ps ∧ Strs w m.la m.lc m.l
  cell : ∀ ad, a = some ad → L ≠ [] → ad.spot = none ∧ ad.block < w.heap.size ∧ ∀ i m, L[i]? = some m → ∀ j, j < 6 → w.cell? ⟨ad.block, ad.off + (i * 6 + j), none⟩ = m.vals[j]?
/-- The seven cells of a member at (b, o). -/
structure ArrAt (w : World) (b o : Nat) (m : ArrM) : Prop where
  c0 : w.cell? ⟨b, o, none⟩ = some (.string m.i)
  c1 : w.cell? ⟨b, o + 1, none⟩ = some (.slice m.pa m.ps.length m.pc)
  c2 : w.cell? ⟨b, o + 2, none⟩ = some (.int .i64 m.t)
  c3 : w.cell? ⟨b, o + 3, none⟩ = some (.int .i64 m.e)
  c4 : w.cell? ⟨b, o + 4, none⟩ = some (.int .i64 m.n)
  c5 : w.cell? ⟨b, o + 5, none⟩ = some (.slice m.la m.l.length m.lc)
theorem Arrs.elem {w : World} {a : Option Addr} {cap : Nat} {L : List ArrM} (h : Arrs w a cap L) {k : Nat} (hk : k < L.length) :
    ∃ b off m, a = some ⟨b, off, none⟩ ∧ L[k]? = some m ∧ (Strs w m.pa m.pc m.ps ∧ Strs w m.la m.lc m.l) ∧ ArrAt w b (off + k * 6) m ∧ b < w.heap.size := by
  cases a with
  | none => obtain ⟨rfl, _⟩ := h.isNil rfl; simp at hk
  | some ad =>
    obtain ⟨b, off, sp⟩ := ad
    obtain ⟨h1, h2, h3⟩ := h.cell _ rfl (by intro e; subst e; simp at hk)
    simp at h1; subst h1
    have hc := h3 k _ (List.getElem?_eq_getElem hk)
    exact ⟨b, off, L[k], rfl, List.getElem?_eq_getElem hk, h.ok _ (List.getElem_mem hk), ⟨hc 0 (by omega), hc 1 (by omega), hc 2 (by omega), hc 3 (by omega), hc 4 (by omega), hc 5 (by omega)⟩, h2⟩
theorem Arrs.lenmax {w : World} {a : Option Addr} {cap : Nat} {L : List ArrM} (h : Arrs w a cap L) : L.length ≤ 9223372036854775807 := by
  have h1 := h.len; have h2 := h.max; unfold maxLen at h2; omega
theorem Arrs.fr {S : Nat → Prop} {w w' : World} {a : Option Addr} {cap : Nat} {L : List ArrM} (h : Arrs w a cap L) (hf : Fr S w w') (hS : ∀ ad, a = some ad → L ≠ [] → ¬ S ad.block) (hM : ∀ m ∈ L, (∀ ad, m.pa = some ad → m.ps ≠ [] → ¬ S ad.block) ∧ ∀ ad, m.la = some ad → m.l ≠ [] → ¬ S ad.block) : Arrs w' a cap L :=
  ⟨h.len, h.max, h.isNil, fun m hm => ⟨(h.ok m hm).1.fr hf (hM m hm).1, (h.ok m hm).2.fr hf (hM m hm).2⟩, fun ad e hne => by
    obtain ⟨h1, h2, h3⟩ := h.cell ad e hne
    refine ⟨h1, Nat.lt_of_lt_of_le h2 hf.size, fun i m hi j hj => ?_⟩
    rw [← h3 i m hi j hj]
    exact World.cell?_of_block (hf.block _ h2 (hS ad e hne))⟩
theorem Arrs.no {S : Nat → Prop} {w w' : World} {a : Option Addr} {cap : Nat} {L : List ArrM} (h : Arrs w a cap L) (hf : Fr S w w') (hS : ∀ k, ¬ S k) : Arrs w' a cap L := h.fr hf (fun _ _ _ => hS _) (fun _ _ => ⟨fun _ _ _ => hS _, fun _ _ _ => hS _⟩)
theorem Arrs.keep {S : Nat → Prop} {w w' : World} {a : Option Addr} {cap : Nat} {L : List ArrM} (h : Arrs w a cap L) (hf : Fr S w w') (hS : ∀ b, b < w.heap.size → ¬ S b) : Arrs w' a cap L :=
  h.fr hf (fun ad e hne => hS _ (h.cell ad e hne).2.1) (fun m hm => ⟨fun ad e hne => hS _ ((h.ok m hm).1.cell ad e hne).2.1, fun ad e hne => hS _ ((h.ok m hm).2.cell ad e hne).2.1⟩)
theorem Arrs.nil (w : World) : Arrs w none 0 [] := ⟨by simp, by simp, fun _ => ⟨rfl, rfl⟩, by simp, fun _ e _ => by cases e⟩
theorem infoAr : (Tryz.prog.info? 70).map (fun i => (i.zero, i.size, i.bytes)) = some (some (.agg #[.string ByteArray.empty, .slice none 0 0, .int .i64 0, .int .i64 0, .int .i64 0, .slice none 0 0]), 6, 88) := by kernel_rfl
def arflat (L : List ArrM) : List Value := L.flatMap (fun m => m.vals.toList)
theorem arflat_snoc (L : List ArrM) (m : ArrM) : arflat (L ++ [m]) = arflat L ++ m.vals.toList := by simp [arflat]
theorem arvals_one (m : ArrM) : ∀ u ∈ m.vals.toList, u.oneCell' = true := by
  intro u hu
  simp [ArrM.vals] at hu
  rcases hu with rfl | rfl | rfl | rfl | rfl | rfl <;> rfl
theorem arflat_at : ∀ (L : List ArrM) (i : Nat) (m : ArrM), L[i]? = some m → ∀ j, j < 6 → (arflat L)[i * 6 + j]? = m.vals[j]?
  | [], i, m, h, j, hj => by simp at h
  | x :: t, 0, m, h, j, hj => by
    simp at h; subst h
    have : arflat (x :: t) = x.vals.toList ++ arflat t := by simp [arflat]
    rw [this, List.getElem?_append_left (by simp [ArrM.vals]; omega)]
    simp
  | x :: t, i + 1, m, h, j, hj => by
    have : arflat (x :: t) = x.vals.toList ++ arflat t := by simp [arflat]
    rw [this, List.getElem?_append_right (by simp [ArrM.vals]; omega), show (i + 1) * 6 + j - x.vals.toList.length = i * 6 + j from by simp [ArrM.vals]; omega]
    exact arflat_at t i m (by simpa using h) j hj
theorem arflat_len (L : List ArrM) : (arflat L).length = L.length * 6 := by
  induction L with
  | nil => rfl
  | cons d t ih =>
    have : arflat (d :: t) = d.vals.toList ++ arflat t := by simp [arflat]
    rw [this, List.length_append, ih]
    simp [ArrM.vals]; omega
theorem Arrs.of_own {w : World} {base : Nat} {e : TypeId} {v : Value} {L : List ArrM} (h : w.ownsRow base e 6 v L.length (arflat L)) (hok : ∀ m ∈ L, Strs w m.pa m.pc m.ps ∧ Strs w m.la m.lc m.l) :
    ∃ a cap, v = .slice a L.length cap ∧ Arrs w a cap L ∧ ∀ ad, a = some ad → base ≤ ad.block := by
  obtain ⟨_, ⟨rfl, h2⟩ | ⟨g, cap, cur, rfl, hg, hb, h1, h2, h3, h4⟩⟩ := h
  · have : L = [] := List.eq_nil_of_length_eq_zero h2
    subst this
    exact ⟨none, 0, rfl, Arrs.nil w, fun _ e => by cases e⟩
  · refine ⟨some ⟨g, 0, none⟩, cap, rfl, ⟨h1, h2, (fun e => by cases e), hok, ?_⟩, fun ad e => by cases e; exact hg⟩
    intro ad e hne
    cases e
    refine ⟨rfl, lt_of_block hb, fun i m hi j hj => ?_⟩
    rw [cell_of_block hb]
    simp only [Nat.zero_add]
    have hlt : i < L.length := (List.getElem?_eq_some_iff.1 hi).1
    have e1 : (cur.toList.take (L.length * 6))[i * 6 + j]? = (arflat L)[i * 6 + j]? := by rw [h4]
    rw [List.getElem?_take_of_lt (by omega), arflat_at L i m hi j hj] at e1
    rw [← Array.getElem?_toList, e1]
/-- Arrays of the call's own: their texts lie in new blocks of texts. -/
def AFresh (w : World) (base : Nat) (L : List ArrM) : Prop := ∀ m ∈ L, (Strs w m.pa m.pc m.ps ∧ Strs w m.la m.lc m.l) ∧ (BlkT w m.pa 9 ∧ BlkT w m.la 9) ∧ (∀ ad, m.pa = some ad → base ≤ ad.block) ∧ ∀ ad, m.la = some ad → base ≤ ad.block
theorem AFresh.fr {S : Nat → Prop} {w w' : World} {base : Nat} {L : List ArrM} (h : AFresh w base L) (hf : Fr S w w') (hS : ∀ b, base ≤ b → b < w.heap.size → ¬ S b) : AFresh w' base L := fun m hm => by
  obtain ⟨⟨h1, h2⟩, ⟨h3, h4⟩, h5, h6⟩ := h m hm
  have hk : ∀ ad, m.pa = some ad → ¬ S ad.block := fun ad e => by obtain ⟨cs, hc⟩ := h3 ad e; exact hS _ (h5 ad e) (lt_of_block hc)
  have hk2 : ∀ ad, m.la = some ad → ¬ S ad.block := fun ad e => by obtain ⟨cs, hc⟩ := h4 ad e; exact hS _ (h6 ad e) (lt_of_block hc)
  exact ⟨⟨h1.fr hf (fun ad e _ => hk ad e), h2.fr hf (fun ad e _ => hk2 ad e)⟩, ⟨h3.fr hf hk, h4.fr hf hk2⟩, h5, h6⟩
theorem AFresh.own {w w' : World} {base b0 : Nat} {L : List ArrM} {v : Value} {n : Nat} {xs : List Value} (h : AFresh w base L) (ho : w.ownsRow b0 70 6 v n xs) (hf : Fr (fun b => v.ownBlock = some b) w w') : AFresh w' base L := fun m hm => by
  obtain ⟨⟨h1, h2⟩, ⟨h3, h4⟩, h5, h6⟩ := h m hm
  have hk := BlkT.ne ho h3 (by decide)
  have hk2 := BlkT.ne ho h4 (by decide)
  exact ⟨⟨h1.fr hf (fun ad e _ => hk ad e), h2.fr hf (fun ad e _ => hk2 ad e)⟩, ⟨h3.fr hf hk, h4.fr hf hk2⟩, h5, h6⟩
theorem AFresh.snoc {w : World} {base : Nat} {L : List ArrM} {m : ArrM} (h : AFresh w base L) (h1 : Strs w m.pa m.pc m.ps ∧ Strs w m.la m.lc m.l) (h2 : BlkT w m.pa 9 ∧ BlkT w m.la 9) (h3 : (∀ ad, m.pa = some ad → base ≤ ad.block) ∧ ∀ ad, m.la = some ad → base ≤ ad.block) : AFresh w base (L ++ [m]) := fun x hx => by
  rcases List.mem_append.1 hx with hx | hx
  · exact h x hx
  · obtain rfl : x = m := by simpa using hx
    exact ⟨h1, h2, h3⟩
end Go.Proofs.YtmieegcgeolckaaGreatDoor
namespace Go.Proofs.YtmieegcgeolckaaGreatDoor
open Go.RowKit Go.Maps Go.Sort Go.Shelf
set_option linter.unusedVariables false

theorem wp_look_run {w : World} {ops : Array Oper} {rest : List Oper} {o : Oper} {a : Act} {Q : Exit → Act → World → Prop} (hg : o.guard = none) (m x : Operand) (t : TypeId) (hop : o.op = Op.lookup t m x false)
    (mv xv v : Value) (hm : a.eval m = mv) (hx : a.eval x = xv) (hrun : (Instr.lookup t mv xv false).run Tryz.prog w = .ok v w)
    (hK : wpList Tryz.prog ops Q rest (a.put o.dst v) w) : wpList Tryz.prog ops Q (o :: rest) a w := by
  refine wpList_plain hg fun K' hK' => ?_
  unfold Oper.wp
  simp [execOp, hop, hm, hx, hrun, Result.andThen]
  exact hK' _ _ hK
theorem wp_upd_run {w : World} {ops : Array Oper} {rest : List Oper} {o : Oper} {a : Act} {Q : Exit → Act → World → Prop} (hg : o.guard = none) (m x v : Operand) (t : TypeId) (hop : o.op = Op.mapUpdate t m x v)
    (mv xv vv : Value) (hm : a.eval m = mv) (hx : a.eval x = xv) (hv : a.eval v = vv) {w2 : World} (hrun : (Instr.mapUpdate t mv xv vv).run Tryz.prog w = .ok () w2)
    (hK : wpList Tryz.prog ops Q rest (a.put o.dst undef) w2) : wpList Tryz.prog ops Q (o :: rest) a w := by
  refine wpList_plain hg fun K' hK' => ?_
  unfold Oper.wp
  simp [execOp, hop, hm, hx, hv, hrun, Result.andThen]
  exact hK' _ _ hK
theorem quiet_look {o : Oper} {a : Act} {S : World → Prop} {K : Act → Prop} (hg : o.guard = none) (m x : Operand) (t : TypeId) (hop : o.op = Op.lookup t m x false) (mv xv v : Value) (hm : a.eval m = mv) (hx : a.eval x = xv)
    (hrun : ∀ W, S W → (Instr.lookup t mv xv false).run Tryz.prog W = .ok v W) (hK : K (a.put o.dst v)) : o.quiet Tryz.prog a S K := by
  refine ⟨v, fun W hW => ?_, hK⟩
  unfold Oper.quietAt
  simp [execOp, hop, hm, hx, hrun W hW, Result.andThen, Oper.quietUpon]
set_option maxRecDepth 100000 in
theorem hfdM : ∀ (p i : ByteArray) (r s t e : Int) (a : Option Addr) (n c : Nat) (W : World), (Instr.field 31 (.agg #[.string p, .string i, .int .i64 r, .int .i64 s, .int .i64 t, .int .i64 e, .slice a n c]) 0).run Tryz.prog W = .ok (.string p) W := by intros; kernel_rfl
theorem Fr.grownF {w w' : World} (h : Fr (From w.heap.size) w w') : w.grownBy w' none := ⟨h.os, h.tape, h.output, h.size, fun k hk _ => h.block k hk (by unfold From; omega)⟩

def mapP (g : ByteArray × Int → Option Mem) : ByteArray × Int → Option Value := fun x => (g x).map Mem.v
theorem mapP_upd (g : ByteArray × Int → Option Mem) (x : ByteArray × Int) (m : Mem) : updP (mapP g) x m.v = mapP (fun y => if y = x then some m else g y) := by
  funext y
  unfold updP mapP
  by_cases h : y = x <;> simp [h]
theorem infoI2 : (Tryz.prog.info? 3).map (fun i => (i.zero, i.size, i.bytes)) = some (some (.int .i64 0), 1, 8) := by kernel_rfl
/-- What of a map of places has been handed out, grouped. -/
structure Grp (D : DataW Value) (left : Lit → Bool) (f : List UInt8 → List Int) : Prop where
  mem : ∀ (x : ByteArray) (s : Int), s ∈ f (kb x) ↔ (x.size ≤ maxLen ∧ (Lit.int .i64 s).wf = true ∧ has D (plL (x, s)) = true ∧ left (plL (x, s)) = false)
  nodup : ∀ x : ByteArray, (f (kb x)).Nodup
theorem Grp.start (D : DataW Value) : Grp D (has D) (fun _ => []) := by
  constructor
  · intro x s
    simp only [List.not_mem_nil, false_iff]
    rintro ⟨_, _, h1, h2⟩
    rw [h1] at h2; cases h2
  · exact fun _ => List.nodup_nil
theorem Grp.step {D : DataW Value} {left : Lit → Bool} {f : List UInt8 → List Int} (h : Grp D left f) {x : ByteArray} {s : Int} (hx : x.size ≤ maxLen) (hs : (Lit.int .i64 s).wf = true) (hl : left (plL (x, s)) = true) (hD : has D (plL (x, s)) = true) :
    Grp D (fun z => left z && !z.sameKey (plL (x, s))) (fun z => if z = kb x then f (kb x) ++ [s] else f z) := by
  constructor
  · intro y r
    by_cases e : y = x
    · subst e
      rw [if_pos rfl, List.mem_append, h.mem]
      by_cases e2 : r = s
      · subst e2
        rw [WideAt.sameKey_self (isKeyPl _)]
        simp [hx, hs, hD]
      · constructor
        · rintro (⟨a, b, c, d⟩ | h1)
          · exact ⟨a, b, c, by rw [d]; rfl⟩
          · simp at h1; exact absurd h1 e2
        · rintro ⟨a, b, c, d⟩
          refine .inl ⟨a, b, c, ?_⟩
          cases hk : (plL (y, r)).sameKey (plL (y, s)) with
          | true =>
            have := plL_inj a b hx hs (WideAt.sameKey_eq hk)
            simp at this; exact absurd this e2
          | false => rw [hk] at d; simpa using d
    · rw [if_neg (fun he => e (kb_inj he)), h.mem]
      constructor
      · rintro ⟨a, b, c, d⟩
        exact ⟨a, b, c, by rw [d]; rfl⟩
      · rintro ⟨a, b, c, d⟩
        refine ⟨a, b, c, ?_⟩
        cases hk : (plL (y, r)).sameKey (plL (x, s)) with
        | true =>
          have := plL_inj a b hx hs (WideAt.sameKey_eq hk)
          simp at this; exact absurd this.1 e
        | false => rw [hk] at d; simpa using d
  · intro y
    by_cases e : y = x
    · subst e
      rw [if_pos rfl]
      refine List.nodup_append.2 ⟨h.nodup y, by simp, fun a ha b hb => ?_⟩
      obtain rfl : b = s := by simpa using hb
      intro hab
      subst hab
      obtain ⟨_, _, _, h4⟩ := (h.mem y a).1 ha
      rw [hl] at h4; cases h4
    · rw [if_neg (fun he => e (kb_inj he))]; exact h.nodup y
theorem has_of_at {D : DataW Value} {kl : Lit} {d : DataW Value} (h : ∀ zd, D.atKey kl zd = d) : has D kl = true := by
  cases hk : has D kl with
  | true => rfl
  | false =>
    have h1 := h (.held (.bool true))
    have h2 := h (.held (.bool false))
    rw [atKey_of_not_has hk] at h1 h2
    rw [← h2] at h1
    cases h1
theorem Grp.slots {D : DataW Value} {left : Lit → Bool} {f : List UInt8 → List Int} (h : Grp D left f) (hl : ∀ kl, left kl = false) {b : ByteArray × Int → Option Mem}
    (hh : ∀ x : ByteArray × Int, x.1.size ≤ maxLen → (Lit.int .i64 x.2).wf = true → has D (plL x) = (mapP b x).isSome) (hb : ∀ x s m, b (x, s) = some m → x.size ≤ maxLen ∧ (Lit.int .i64 s).wf = true) (x : ByteArray) : IsSlots b x (f (kb x)) := by
  refine ⟨h.nodup x, fun s => ?_⟩
  rw [h.mem]
  constructor
  · rintro ⟨a, b', c, _⟩
    rw [hh (x, s) a b'] at c
    simpa [mapP] using c
  · intro hs
    obtain ⟨m, hm⟩ := Option.isSome_iff_exists.1 hs
    obtain ⟨h1, h2⟩ := hb x s m hm
    exact ⟨h1, h2, by rw [hh (x, s) h1 h2]; simp [mapP, hm], hl _⟩
theorem IsIds2.of_slots {b : ByteArray × Int → Option Mem} {ids : List ByteArray} {f : List UInt8 → List Int} (ha : AscS (ids.map kb)) (hm : ∀ x : ByteArray, x ∈ ids ↔ f (kb x) ≠ []) (hs : ∀ x : ByteArray, IsSlots b x (f (kb x))) : IsIds2 b ids := by
  refine ⟨ha, fun x => ?_⟩
  rw [hm]
  constructor
  · intro hne
    obtain ⟨s, hs'⟩ := List.exists_mem_of_ne_nil _ hne
    exact ⟨s, ((hs x).mem s).1 hs'⟩
  · rintro ⟨s, hs'⟩ e
    have := ((hs x).mem s).2 hs'
    rw [e] at this; cases this
/-- Six cells stored one by one. -/
theorem set6 {W : World} {b : Nat} {cs : Array Value} {T : TypeId} (h : W.heap[b]? = some (.cells cs T)) (hs : cs.size = 6) (v0 v1 v2 v3 v4 v5 : Value) :
    (((((((W.setCell ⟨b, 0, none⟩ v0).setCell ⟨b, 1, none⟩ v1).setCell ⟨b, 2, none⟩ v2).setCell ⟨b, 3, none⟩ v3).setCell ⟨b, 4, none⟩ v4).setCell ⟨b, 5, none⟩ v5)).heap[b]? = some (.cells #[v0, v1, v2, v3, v4, v5] T) ∧ Fr (Is b) W ((((((W.setCell ⟨b, 0, none⟩ v0).setCell ⟨b, 1, none⟩ v1).setCell ⟨b, 2, none⟩ v2).setCell ⟨b, 3, none⟩ v3).setCell ⟨b, 4, none⟩ v4).setCell ⟨b, 5, none⟩ v5) := by
  have fs : ∀ {a w : World} (h : Fr (Is b) a w) (i : Nat) (v : Value), Fr (Is b) a (w.setCell ⟨b, i, none⟩ v) := fun h i v => h.setCell (p := ⟨b, i, none⟩) (fun _ => rfl) v
  refine ⟨?_, fs (fs (fs (fs (fs (fs (Fr.refl _ _) _ _) _ _) _ _) _ _) _ _) _ _⟩
  obtain ⟨l⟩ := cs
  match l, hs with
  | [_, _, _, _, _, _], _ =>
    have h0 := block_setCell h 0 v0
    have h1 := block_setCell h0 1 v1
    have h2 := block_setCell h1 2 v2
    have h3 := block_setCell h2 3 v3
    have h4 := block_setCell h3 4 v4
    have h5 := block_setCell h4 5 v5
    simp only [List.setIfInBounds_toArray, List.set_cons_zero, List.set_cons_succ] at h5
    exact h5
theorem made_block {W : World} {base T P : Nat} (h : W.ownsRow base 9 1 (.slice (some ⟨P, 0, none⟩) T T) T (madeCells (Value.string ByteArray.empty).cells (T * 1)).toList) :
    W.heap[P]? = some (.cells ((List.replicate T (⟨#[]⟩ : ByteArray)).map Value.string).toArray 9) := by
  obtain ⟨_, ⟨h1, _⟩ | ⟨g, cap, cur, h1, hg, hb, h2, h3, h4, h5⟩⟩ := h
  · cases h1
  · cases h1
    rw [hb]
    have e1 : cur.toList = (madeCells (Value.string ByteArray.empty).cells (T * 1)).toList := by
      rw [← h5, List.take_of_length_le]
      rw [Array.length_toList, h4]; exact Nat.le_refl _
    have e2 : (madeCells (Value.string ByteArray.empty).cells (T * 1)).toList = (List.replicate T (⟨#[]⟩ : ByteArray)).map Value.string := by
      apply List.ext_getElem?
      intro i
      by_cases hi : i < T
      · rw [List.getElem?_map, List.getElem?_replicate, if_pos hi]
        simp [madeCells, Value.cells, hi, Nat.mod_one]
        rfl
      · rw [List.getElem?_eq_none (by simp [madeCells]; omega), List.getElem?_eq_none (by simp; omega)]
    rw [show cur = ((List.replicate T (⟨#[]⟩ : ByteArray)).map Value.string).toArray by rw [← e2, ← e1]]
theorem strs_of_block {W : World} {P : Nat} {l : List ByteArray} (h : W.heap[P]? = some (.cells (l.map Value.string).toArray 9)) (hm : l.length ≤ maxLen) : Strs W (some ⟨P, 0, none⟩) l.length l := by
  refine ⟨Nat.le_refl _, hm, (fun e => by cases e), fun ad e _ => ?_⟩
  cases e
  refine ⟨rfl, lt_of_block h, fun i x hi => ?_⟩
  rw [cell_of_block h]
  simp [hi]
end Go.Proofs.YtmieegcgeolckaaGreatDoor
namespace Go.Proofs.YtmieegcgeolckaaGreatDoor
open Go.RowKit Go.Maps
set_option linter.unusedVariables false

end Go.Proofs.YtmieegcgeolckaaGreatDoor
namespace Go.Proofs.YtmieegcgeolckaaGreatDoor
open Go.RowKit Go.Maps
set_option linter.unusedVariables false

/-- append onto a row of the call's own, the source nil or not. -/
theorem wpList_append_src {P : Program} {w : World} {ops : Array Oper} {rest : List Oper} {o : Oper} {a : Act} {Q : Exit → Act → World → Prop} (hgd : o.guard = none) (s x : Operand) (t : TypeId)
    (ho : o.op = .call { callee := .builtin .append, args := #[s, x], argTypes := #[t, t] })
    (base : Nat) (e : TypeId) (i : TypeInfo) (z : Value) (size bytes : Nat) (ht : P.underlying t = some (.slice e)) (hi : P.info? e = some i) (hz : i.zero = some z)
    (hsize : i.size = size) (hby : i.bytes = bytes) (hzs : z.cells.size = size) (hsz : 0 < size)
    (v : Value) (n : Nat) (xs : List Value) (hs : a.eval s = v) (hown : w.ownsRow base e size v n xs)
    (A : Option Addr) (m c : Nat) (news : List Value) (hx : a.eval x = .slice A m c) (hA : A = none → m = 0 ∧ c = 0) (hl : news.length = m * size)
    (hnews : ∀ ad, A = some ad → ∀ j u, news[j]? = some u → w.cell? (ad.add j) = some u) (h1 : ∀ u ∈ news, u.oneCell' = true)
    (h63 : n + m ≤ maxLen) (hbytes : (n + m) * bytes ≤ 140737488355328) (hbase : base ≤ w.heap.size)
    (h : ∀ v' w', w'.ownsRow base e size v' (n + m) (xs ++ news) → w.grownBy w' v.ownBlock → wpList P ops Q rest (a.put o.dst v') w') : wpList P ops Q (o :: rest) a w := by
  cases A with
  | none =>
    obtain ⟨rfl, rfl⟩ := hA rfl
    have hn : news = [] := List.eq_nil_of_length_eq_zero (by simpa using hl)
    subst hn
    exact wpList_append_own_none hgd s x t ho base e i size ht hi v n xs hs hown hx (h v w (by simpa using hown) (World.grownBy.refl w _))
  | some ad =>
    exact wpList_append_own w hgd s x t ho base e i z size bytes ht hi hz hsize hby hzs hsz v n xs hs hown ad m c news hx hl (hnews ad rfl) h1 h63 hbytes hbase (fun v' w' h2 h3 _ => h v' w' h2 h3)

theorem one_cell {w : World} {b : Nat} {v : Value} (h : w.cell? ⟨b, 0, none⟩ = some v) : ∀ j u, [v][j]? = some u → w.cell? ((⟨b, 0, none⟩ : Addr).add j) = some u := by
  intro j u hj
  match j, hj with
  | 0, hj => simp at hj; subst hj; rw [Addr.add_lit]; exact h

theorem flat_inv : ∀ (l : List Dev) (j : Nat) (u : Value), (flat l)[j]? = some u → ∃ i d jj, l[i]? = some d ∧ jj < 10 ∧ j = i * 10 + jj ∧ u = d.cell jj := by
  intro l j u h
  have hlt : j < (flat l).length := (List.getElem?_eq_some_iff.1 h).1
  rw [flat_len] at hlt
  have hi : j / 10 < l.length := by omega
  refine ⟨j / 10, l[j / 10], j % 10, List.getElem?_eq_getElem hi, by omega, by omega, ?_⟩
  have h1 := flat_at l (j / 10) l[j / 10] (List.getElem?_eq_getElem hi) (j % 10) (by omega)
  rw [show j / 10 * 10 + j % 10 = j from by omega, h] at h1
  exact Option.some.inj h1
theorem Devs.cell_of {W : World} {ad : Addr} {cap : Nat} {ds : List Dev} (h : Devs W (some ad) cap ds) {i : Nat} {d : Dev} (hd : ds[i]? = some d) {j : Nat} (hj : j < 10) : W.cell? (ad.add (i * 10 + j)) = some (d.cell j) := by
  obtain ⟨h1, _, h3⟩ := h.cell ad rfl (by intro e; subst e; simp at hd)
  obtain ⟨b, o, sp⟩ := ad
  simp at h1; subst h1
  rw [Addr.add_lit]; exact h3 i d hd j hj
theorem Devs.src_take {W : World} {a : Option Addr} {cap : Nat} {ds : List Dev} (h : Devs W a cap ds) (k : Nat) : ∀ ad, a = some ad → ∀ j u, (flat (ds.take k))[j]? = some u → W.cell? (ad.add j) = some u := by
  intro ad e j u hu
  subst e
  obtain ⟨i, d, jj, h1, h2, rfl, rfl⟩ := flat_inv _ _ _ hu
  refine h.cell_of ?_ h2
  rw [List.getElem?_take] at h1
  split at h1
  · exact h1
  · cases h1
theorem Devs.src_drop {W : World} {a : Option Addr} {cap : Nat} {ds : List Dev} (h : Devs W a cap ds) (k : Nat) : ∀ ad, a = some ad → ∀ j u, (flat (ds.drop k))[j]? = some u → W.cell? ((ad.add (k * 10)).add j) = some u := by
  intro ad e j u hu
  subst e
  obtain ⟨i, d, jj, h1, h2, rfl, rfl⟩ := flat_inv _ _ _ hu
  rw [List.getElem?_drop] at h1
  have h3 := h.cell_of h1 h2
  obtain ⟨hsp, _, _⟩ := h.cell ad rfl (by intro e; subst e; simp at h1)
  obtain ⟨b, o, sp⟩ := ad
  simp only at hsp
  subst hsp
  rw [Addr.add_lit] at h3
  rw [Addr.add_lit, Addr.add_lit, ← h3]
  congr 2
  omega

theorem own_fr {W w1 : World} {base : Nat} {e : TypeId} {size : Nat} {v : Value} {n : Nat} {xs : List Value} (h : W.ownsRow base e size v n xs) (hg : W.grownBy w1 v.ownBlock) : Fr (From base) W w1 :=
  (Fr.of_grown hg).mono (fun b _ e => ownsRow_blk h e)
theorem Devs.keep {W W' : World} {a : Option Addr} {cap : Nat} {ds : List Dev} (h : Devs W a cap ds) (hf : Fr (From W.heap.size) W W') : Devs W' a cap ds :=
  h.fr hf (fun ad e hne hS => by have := (h.cell ad e hne).2.1; unfold From at hS; omega)
theorem cells_fr {W W' : World} {b : Nat} {xs : List Value} (h : ∀ j u, xs[j]? = some u → W.cell? ((⟨b, 0, none⟩ : Addr).add j) = some u) (hf : Fr No W W') : ∀ j u, xs[j]? = some u → W'.cell? ((⟨b, 0, none⟩ : Addr).add j) = some u :=
  fun j u hu => hf.cell (h j u hu) id
theorem flat_ins (ds : List Dev) (q : Nat) (d : Dev) : flat (ds.take q) ++ d.vals.toList ++ flat (ds.drop q) = flat (insAt ds q d) := by
  unfold flat insAt
  rw [List.flatMap_append, List.flatMap_cons, List.append_assoc]
theorem ins_end {wr w0 W : World} {a' : Option Addr} {n c' : Nat} {xs : List Value} {T E : TypeId} (h0 : Fr No wr w0) (hf : Fr (From w0.heap.size) w0 W) (hb : W.heap[wr.heap.size]? = some (.cells #[.slice none 0 0] T)) (ho : W.ownsRow w0.heap.size E 10 (.slice a' n c') n xs) (hs : wr.heap.size < w0.heap.size) :
    (W.setCell ⟨wr.heap.size, 0, none⟩ (.slice a' n c')).heap[wr.heap.size]? = some (.cells #[.slice a' n c'] T) ∧ (W.setCell ⟨wr.heap.size, 0, none⟩ (.slice a' n c')).ownsRow wr.heap.size E 10 (.slice a' n c') n xs ∧ Fr (From wr.heap.size) wr (W.setCell ⟨wr.heap.size, 0, none⟩ (.slice a' n c')) := by
  have hx : Fr (Is wr.heap.size) W (W.setCell ⟨wr.heap.size, 0, none⟩ (.slice a' n c')) := Fr.setCell (S := Is wr.heap.size) (p := ⟨wr.heap.size, 0, none⟩) (Fr.refl _ _) (fun _ => rfl) _
  refine ⟨block_setCell hb 0 _, ownsRow_base (ownsRow_fr ho hx (fun b hb e => by unfold Is at e; omega)) (by omega), ?_⟩
  have h1 : Fr (From wr.heap.size) wr w0 := h0.mono (fun _ _ h => h.elim)
  exact (h1.step hf (fun b hb h => by unfold From at *; omega)).step hx (fun b hb e => by unfold Is at e; unfold From; omega)

section
variable {w W W' : World} {a : Option Addr} {n cap : Nat} {d : Dev}
end

end Go.Proofs.YtmieegcgeolckaaGreatDoor
namespace Go.Proofs.YtmieegcgeolckaaGreatDoor
open Go.RowKit Go.Maps
set_option linter.unusedVariables false
theorem eql_nilS (W : World) (a : Option Addr) (n c : Nat) : (binOp .eql 27 (.slice a n c) (.slice none 0 0)).run Tryz.prog W = .ok (.bool a.isNone) W := Lib.run_eql_slice_nil W 27 9 a n c 0 0 Tryz.underlying27
theorem Strs.src' {W : World} {a : Option Addr} {cap : Nat} {l : List ByteArray} (h : Strs W a cap l) : ∀ ad, a = some ad → ∀ j u, (l.map Value.string)[j]? = some u → W.cell? (ad.add j) = some u := by
  intro ad e j u hu
  rw [List.getElem?_map] at hu
  obtain ⟨x, hx, rfl⟩ := Option.map_eq_some_iff.1 hu
  obtain ⟨h1, _, h3⟩ := h.cell ad e (by intro e; subst e; simp at hx)
  obtain ⟨b, o, sp⟩ := ad
  simp only at h1; subst h1
  rw [Addr.add_lit]
  exact h3 j x hx
set_option maxRecDepth 100000 in
set_option maxHeartbeats 1000000 in
theorem strs_clone (a : Option Addr) (cap : Nat) (l : List ByteArray) (w : World) (hl : Strs w a cap l) (hb : l.length ≤ 1000000) :
    Calls Tryz.prog 53 #[.slice a l.length cap] w fun e w' => (∃ a' c', e = .returned (.slice a' l.length c') ∧ Strs w' a' c' l ∧ BlkT w' a' 9 ∧ ∀ ad, a' = some ad → w.heap.size ≤ ad.block) ∧ Fr No w w' := by
  obtain ⟨i0, hi, hz0, hz1, hz2⟩ := info_parts infoS
  cases a with
  | none =>
    obtain ⟨rfl, rfl⟩ := hl.isNil rfl
    have hq := eql_nilS
    go_enter Tryz.func53, Tryz.ntmps53
    go_wp2_with fail
    go_ret
    exact ⟨⟨none, 0, rfl, Strs.nil _, BlkT.none _ _, fun _ e => by cases e⟩, Fr.refl _ _⟩
  | some ad =>
    have hx : Fr No w (w.alloc (.cells #[] 9)) := (Fr.refl _ _).alloc _
    have hlx := hl.no hx (fun _ => id)
    have hq := eql_nilS
    go_enter Tryz.func53, Tryz.ntmps53
    have own0 : (w.alloc (.cells #[] 9)).ownsRow w.heap.size 9 1 (.slice (some ⟨w.heap.size, 0, none⟩) 0 0) 0 [] :=
      ⟨rfl, .inr ⟨w.heap.size, 0, #[], rfl, Nat.le_refl _, block_alloc _ _, Nat.le_refl _, by unfold maxLen; omega, rfl, rfl⟩⟩
    go_wp2_with (at_builtin; refine wpList_append_src rfl _ _ 27 rfl w.heap.size 9 i0 (.string ByteArray.empty) 1 16 Tryz.underlying27 hi hz0 hz1 hz2 rfl (by decide) _ 0 [] rfl own0 (some ad) l.length _ (l.map Value.string) rfl (fun e => by cases e) (by simp) (fun ad' e => hlx.src' ad' e) (strs_one l) (by unfold maxLen; omega) (by omega) (by first | omega | (simp; done) | (simp; omega)) ?_; intro v' w1 own1 gr1)
    go_ret
    simp only [Nat.zero_add, List.nil_append] at own1
    obtain ⟨a', c', hv, h1, h2⟩ := Strs.of_own own1
    subst hv
    exact ⟨⟨a', c', rfl, h1, own_typ own1, h2⟩, ((Fr.refl No w).alloc _).step (own_fr own0 gr1) (fun b hb h => by unfold From at h; omega)⟩
end Go.Proofs.YtmieegcgeolckaaGreatDoor
