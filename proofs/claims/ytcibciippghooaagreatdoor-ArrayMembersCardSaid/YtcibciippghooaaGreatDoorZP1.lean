/- Maps with places (a text and a number) as keys, that the call made. The order of members: total and strict on different paths; the best of a list does not depend on its order. Plain. -/
import Derived.Test.YtcibciippghooaaGreatDoorZL19
import Derived.DeepKeys4
import Derived.Maps.RangeWalk
import Derived.Maps.OwnRows
import Derived.Maps.GroupsBeside
import Derived.Test.YtcibciippghooaaGreatDoorZL20
namespace Go.Proofs.YtcibciippghooaaGreatDoor
open Go.RowKit Go.Maps Go.Sort Go.Shelf
set_option linter.unusedVariables false

theorem laidOutP : laidOutB Tryz.prog = true := by kernel_rfl
set_option maxRecDepth 100000 in
theorem rowPl : (117 : TypeId) < Tryz.prog.types.size := of_decide_eq_true (by kernel_rfl)
theorem widePl : (match Tryz.prog.underlying 117 with | some (.array _ _) | some (.struct _) => true | _ => false) = true := by kernel_rfl
set_option maxRecDepth 100000 in
theorem lawP : Keyed Tryz.prog 117 := Keyed.of_law (deep_law_laid laidOutP (m := 3) (by omega) rowPl (by kernel_rfl) widePl)
theorem typePl : Tryz.prog.keyType 117 = true := by kernel_rfl
theorem cellsPl : Tryz.prog.cellsOf 117 = 2 := by kernel_rfl
theorem cellsStr : Tryz.prog.cellsOf 9 = 1 := by kernel_rfl
theorem cellsInt : Tryz.prog.cellsOf 3 = 1 := by kernel_rfl
set_option maxRecDepth 100000 in
theorem sizePl : ∃ n, Tryz.prog.types.size = n + 1 := ⟨Tryz.prog.types.size - 1, by have : 0 < Tryz.prog.types.size := of_decide_eq_true (by kernel_rfl); omega⟩
theorem litsPl (d : Nat) (v0 v1 : Value) : Tryz.prog.keyLits (d + 2) 117 [v0, v1] = (Tryz.prog.keyLits (d + 1) 9 [v0]).bind fun a => (Tryz.prog.keyLits (d + 1) 3 [v1]).map fun b => a ++ b := by
  rw [Program.keyLits.eq_def]
  simp only [Tryz.underlying117, cellsPl]
  simp [cellsStr, cellsInt]
  cases Tryz.prog.keyLits (d + 1) 9 [v0] <;> cases Tryz.prog.keyLits (d + 1) 3 [v1] <;> simp
theorem litsStr (d : Nat) (v : Value) (ls : List Lit) : Tryz.prog.keyLits (d + 1) 9 [v] = some ls ↔ ∃ s, v = .string s ∧ s.size ≤ maxLen ∧ ls = [.string s.data.toList] := by
  rw [Program.keyLits.eq_def]
  simp only [Tryz.underlying9]
  cases v <;> simp
  intro _
  exact eq_comm
theorem litsInt (d : Nat) (v : Value) (ls : List Lit) : Tryz.prog.keyLits (d + 1) 3 [v] = some ls ↔ ∃ n, v = .int .i64 n ∧ (Lit.int .i64 n).wf = true ∧ ls = [.int .i64 n] := by
  rw [Program.keyLits.eq_def]
  simp only [Tryz.underlying3]
  cases v <;> simp
  rename_i q n
  constructor
  · rintro ⟨⟨rfl, h⟩, rfl⟩; exact ⟨n, ⟨rfl, rfl⟩, h, rfl⟩
  · rintro ⟨n', ⟨rfl, rfl⟩, h, rfl⟩; exact ⟨⟨rfl, h⟩, rfl⟩
/-- What a place reads as. -/
def plL (x : ByteArray × Int) : Lit := .string (keyBytes [.string x.1.data.toList, .int .i64 x.2])
theorem formedPl (xs : Array Value) : (Value.agg xs).formed Tryz.prog 117 = (xs.size == 2) := by
  simp [Value.formed, Tryz.underlying117, cellsPl]
theorem keyP {s : ByteArray} {n : Int} (hs : s.size ≤ maxLen) (hn : (Lit.int .i64 n).wf = true) : keyOf Tryz.prog 117 (.agg #[.string s, .int .i64 n]) = some (plL (s, n)) := by
  obtain ⟨d, hd⟩ := sizePl
  unfold keyOf
  simp only [Tryz.underlying117, typePl, formedPl]
  rw [hd]
  have h1 := (litsStr d (.string s) _).2 ⟨s, rfl, hs, rfl⟩
  have h2 := (litsInt d (.int .i64 n) _).2 ⟨n, rfl, hn, rfl⟩
  have h3 := litsPl d (.string s) (.int .i64 n)
  rw [h1, h2] at h3
  simp [Value.cells, h3, plL]
set_option maxRecDepth 100000 in
theorem keyP_inv {key : Value} {kl : Lit} (h : keyOf Tryz.prog 117 key = some kl) : ∃ s n, key = .agg #[.string s, .int .i64 n] ∧ s.size ≤ maxLen ∧ (Lit.int .i64 n).wf = true := by
  obtain ⟨d, hd⟩ := sizePl
  unfold keyOf at h
  simp only [Tryz.underlying117, typePl] at h
  rw [hd] at h
  split at h
  · rename_i hf
    simp only [Bool.true_and] at hf
    cases key with
    | agg xs =>
      rw [formedPl, beq_iff_eq] at hf
      obtain ⟨xl⟩ := xs
      match xl, hf with
      | [v0, v1], _ =>
        have h3 := litsPl d v0 v1
        simp only [Value.cells] at h
        rcases h0 : Tryz.prog.keyLits (d + 1) 9 [v0] with _ | a
        · rw [h0] at h3; simp [h3] at h
        · rcases h1 : Tryz.prog.keyLits (d + 1) 3 [v1] with _ | b
          · rw [h0, h1] at h3; simp [h3] at h
          · obtain ⟨s, rfl, hs, _⟩ := (litsStr d v0 a).1 h0
            obtain ⟨n, rfl, hn, _⟩ := (litsInt d v1 b).1 h1
            exact ⟨s, n, rfl, hs, hn⟩
    | _ => simp [Value.formed, Tryz.underlying117] at hf
  · cases h
theorem plL_inj {x y : ByteArray × Int} (hx : x.1.size ≤ maxLen) (hx2 : (Lit.int .i64 x.2).wf = true) (hy : y.1.size ≤ maxLen) (hy2 : (Lit.int .i64 y.2).wf = true) (h : plL x = plL y) : x = y := by
  have h1 := keyP hx hx2
  have h2 := keyP hy hy2
  rw [h] at h1
  have h3 := lawP.inj h1 h2
  simp at h3
  obtain ⟨a, b⟩ := x
  obtain ⟨c, d⟩ := y
  simp only at h3
  rw [h3.1, h3.2]

/-- Block mb is a map with places as keys: its look-up is g. -/
def PMap (w : World) (mb : Nat) (g : ByteArray × Int → Option Value) (N : Nat) : Prop :=
  ∃ (D : DataW Value) (n : Nat), n ≤ N ∧ w.ownsMap Tryz.prog 117 heldV mb n D ∧ ∀ x : ByteArray × Int, x.1.size ≤ maxLen → (Lit.int .i64 x.2).wf = true → has D (plL x) = (g x).isSome ∧ ∀ v, g x = some v → ∀ z, D.atKey (plL x) z = .held v
theorem PMap.lt {w : World} {mb : Nat} {g : ByteArray × Int → Option Value} {N : Nat} (h : PMap w mb g N) : mb < w.heap.size := by obtain ⟨D, n, _, ho, _⟩ := h; exact ho.lt
theorem PMap.fr {S : Nat → Prop} {w w' : World} {mb : Nat} {g : ByteArray × Int → Option Value} {N : Nat} (h : PMap w mb g N) (hf : Fr S w w') (hS : ¬ S mb) : PMap w' mb g N := by
  obtain ⟨D, n, hn, ho, r⟩ := h; exact ⟨D, n, hn, hf.ownsMap ho hS, r⟩
theorem PMap.made (w : World) : PMap (w.alloc (.map #[] 0)) w.heap.size (fun _ => none) 0 := ⟨.map [], 0, Nat.le_refl _, World.ownsMap_made _ _ _ _, fun _ _ _ => ⟨rfl, fun _ h => by cases h⟩⟩
theorem PMap.mono {w : World} {mb : Nat} {g : ByteArray × Int → Option Value} {N M : Nat} (h : PMap w mb g N) (hN : N ≤ M) : PMap w mb g M := by
  obtain ⟨D, n, hn, r⟩ := h; exact ⟨D, n, by omega, r⟩
theorem held_at {D : DataW Value} {kl : Lit} {z v : Value} {o : Option Value} {ps : List MemPlace} (h1 : has D kl = o.isSome) (h2 : ∀ v, o = some v → ∀ z, D.atKey kl z = .held v) (hv : heldV v = some (D.atKey kl (.held z), ps)) : v = o.getD z := by
  simp only [heldV, Option.some.injEq, Prod.mk.injEq] at hv
  have e1 := hv.1
  rcases o with _ | v'
  · rw [atKey_of_not_has h1] at e1
    simpa using e1
  · rw [h2 _ rfl] at e1
    simpa using e1
theorem PMap.look {w : World} {mb : Nat} {g : ByteArray × Int → Option Value} {N : Nat} (h : PMap w mb g N) {t e : TypeId} {z : Value} (hz : (zeroValue e).run Tryz.prog w = .ok z w) (ht : Tryz.prog.underlying t = some (.map 117 e))
    {s : ByteArray} {n : Int} (hs : s.size ≤ maxLen) (hn : (Lit.int .i64 n).wf = true) : (Instr.lookup t (.map (some mb)) (.agg #[.string s, .int .i64 n]) false).run Tryz.prog w = .ok ((g (s, n)).getD z) w := by
  obtain ⟨D, m, _, ho, hh⟩ := h
  obtain ⟨h1, h2⟩ := hh (s, n) hs hn
  obtain ⟨v, ps, hrun, hv⟩ := ho.lookup lawP ht hz (zd := .held z) (zp := []) rfl (keyP hs hn)
  rw [hrun, held_at h1 h2 hv]
theorem wp_pmap_ok {w : World} {ops : Array Oper} {rest : List Oper} {o : Oper} {a : Act} {Q : Exit → Act → World → Prop} (hg : o.guard = none) (m x : Operand) (t e : TypeId) (z : Value) (hz : (zeroValue e).run Tryz.prog w = .ok z w) (hop : o.op = Op.lookup t m x true) (ht : Tryz.prog.underlying t = some (.map 117 e))
    (mb : Nat) (g : ByteArray × Int → Option Value) (N : Nat) (s : ByteArray) (n : Int) (hs : s.size ≤ maxLen) (hn : (Lit.int .i64 n).wf = true) (hm : a.eval m = .map (some mb)) (hown : PMap w mb g N) (hx : a.eval x = .agg #[.string s, .int .i64 n])
    (v : Value) (hv : (g (s, n)).getD z = v) (b : Bool) (hb : (g (s, n)).isSome = b)
    (hK : wpList Tryz.prog ops Q rest (a.put o.dst (.tuple #[v, .bool b])) w) : wpList Tryz.prog ops Q (o :: rest) a w := by
  obtain ⟨D, k, _, ho, hh⟩ := hown
  obtain ⟨h1, h2⟩ := hh (s, n) hs hn
  refine wpList_lookup_own_ok w hg m x t hop 117 e lawP ht heldV hz (.held z) [] rfl mb k D hm ho _ _ hx (keyP hs hn) (fun v1 ps hv1 => ?_)
  rw [h1, held_at h1 h2 hv1, hv, hb]; exact hK
theorem isKeyPl (x : ByteArray × Int) : WideAt.IsKeyLit (plL x) := trivial
def updP (g : ByteArray × Int → Option Value) (x : ByteArray × Int) (v : Value) : ByteArray × Int → Option Value := fun y => if y = x then some v else g y
theorem wp_pmap_put {w : World} {ops : Array Oper} {rest : List Oper} {o : Oper} {a : Act} {Q : Exit → Act → World → Prop} (hg : o.guard = none) (m x v : Operand) (t e : TypeId) (hop : o.op = Op.mapUpdate t m x v) (ht : Tryz.prog.underlying t = some (.map 117 e))
    (mb : Nat) (g : ByteArray × Int → Option Value) (N : Nat) (hN : N < maxLen) (s : ByteArray) (n : Int) (hs : s.size ≤ maxLen) (hn : (Lit.int .i64 n).wf = true) (u : Value) (hm : a.eval m = .map (some mb)) (hown : PMap w mb g N) (hx : a.eval x = .agg #[.string s, .int .i64 n]) (hv : a.eval v = u)
    (hK : ∀ w', PMap w' mb (updP g (s, n) u) (N + 1) → Fr (Is mb) w w' → wpList Tryz.prog ops Q rest (a.put o.dst undef) w') : wpList Tryz.prog ops Q (o :: rest) a w := by
  obtain ⟨D, k, hk, ho, hh⟩ := hown
  refine wpList_mapUpdate_own w hg m x v t hop 117 e lawP ht heldV mb k D hm ho (by omega) _ _ _ hx hv (keyP hs hn) (.held u) [] rfl (fun w' h h' => hK w' ⟨_, k + 1, by omega, h, fun y hy hy2 => ?_⟩ (Fr.of_grown_some h'))
  obtain ⟨h1, h2⟩ := hh y hy hy2
  unfold updP
  by_cases e : y = (s, n)
  · subst e
    rw [if_pos rfl]
    exact ⟨by rw [has_put_same ho.isMap (isKeyPl _) _]; rfl, fun v hv z => by cases hv; rw [atKey_put_same ho.isMap (isKeyPl _) _ _]⟩
  · rw [if_neg e]
    have hne : plL y ≠ plL (s, n) := fun he => e (plL_inj hy hy2 hs hn he)
    exact ⟨by rw [has_put_other hne]; exact h1, fun v hv z => by rw [atKey_put_other hne]; exact h2 v hv z⟩

/-! ### groups: texts to lists of numbers -/
def grpD (l : List Int) : DataW Unit := if l = [] then .nil else .slice (Go.ChangeShapes.lits .i64 l) []
/-- Block mb is a map from texts to slices of numbers: at x stands a slice that owns f x. -/
def GMap (w : World) (base mb : Nat) (f : List UInt8 → List Int) (N : Nat) : Prop :=
  ∃ (D : DataW Unit) (n : Nat), n ≤ N ∧ w.ownsGroups Tryz.prog 9 base 3 .i64 mb n D ∧ (∀ x, D.atKey (.string x) .nil = grpD (f x)) ∧ ∀ x, has D (.string x) = !(f x).isEmpty
theorem GMap.made {w : World} {mb base : Nat} (h : w.heap[mb]? = some (.map #[] 0)) (hb : mb < base) : GMap w base mb (fun _ => []) 0 :=
  ⟨.map [], 0, Nat.le_refl _, ⟨#[], 0, h, ⟨by simp, Go.MapKept.stamped_empty 0, by simp⟩, Nat.le_refl _, rfl, hb, by simp, by simp⟩, fun _ => rfl, fun _ => rfl⟩
theorem GMap.lt {w : World} {base mb : Nat} {f : List UInt8 → List Int} {N : Nat} (h : GMap w base mb f N) : mb < w.heap.size := by
  obtain ⟨D, n, _, ⟨es, c, hb, _⟩, _⟩ := h
  exact (Array.getElem?_eq_some_iff.1 hb).1
open Go.WideElems in
theorem fit_one {P : Program} {k : TypeId} {R : Value → Option (DataW Unit × List MemPlace)} {es : Array MapEntry} {clock : Nat} (F : Fit P k R es clock) {x y : MapEntry} (hx : x ∈ es.toList) (hy : y ∈ es.toList) (he : x.key = y.key) : x = y :=
  entry_eq_of_key ((Go.MapKept.stamped_iff es clock).1 F.stamped).2.2 hx hy he
theorem lits_inj {a b : List Int} (h : Go.ChangeShapes.lits (H := Unit) .i64 a = Go.ChangeShapes.lits .i64 b) : a = b := by
  unfold Go.ChangeShapes.lits at h
  exact (List.map_inj_right (fun x y hxy => by simpa using hxy)).1 h
set_option maxRecDepth 100000 in
theorem zeroIs (w : World) : (zeroValue 22).run Tryz.prog w = .ok (.slice none 0 0) w := by kernel_rfl
set_option maxRecDepth 100000 in
/-- The look-up: the same value in all worlds that hold the map as it is; the numbers; the way back. -/
theorem GMap.look {w : World} {base mb : Nat} {f : List UInt8 → List Int} {N : Nat} (h : GMap w base mb f N) (hN : N < maxLen) {x : ByteArray} (hx : x.size ≤ maxLen) :
    ∃ v, (∀ W : World, W.heap[mb]? = w.heap[mb]? → (Instr.lookup 119 (.map (some mb)) (.string x) false).run Tryz.prog W = .ok v W) ∧ w.ownsInts base 3 .i64 v (f (kb x)) ∧ (f (kb x)).length ≤ N ∧
      (∀ (y : Int), (Lit.int .i64 y).wf = true → ∀ (w1 : World) (v' : Value), w.grownBy w1 v.ownBlock → w1.ownsInts base 3 .i64 v' (f (kb x) ++ [y]) → (v'.ownBlock = v.ownBlock ∨ ∃ g, v'.ownBlock = some g ∧ w.heap.size ≤ g) →
        ∃ w2, (Instr.mapUpdate 119 (.map (some mb)) (.string x) v').run Tryz.prog w1 = .ok () w2 ∧ GMap w2 base mb (fun z => if z = kb x then f (kb x) ++ [y] else f z) (N + 1) ∧ w1.grownBy w2 (some mb)) := by
  obtain ⟨D, n, hn, hown, h1, h2⟩ := h
  have hkey := keyS hx
  obtain ⟨v, zs, hrun, hat, hoi, hzl, hback⟩ := hown.at lawS Tryz.underlying119 (zeroIs w) (by omega) hkey
  have hzs : zs = f (kb x) := by
    rw [h1 (kb x)] at hat
    unfold grpD at hat
    rcases hoi.datum (H := Unit) with ⟨e1, e2⟩ | e1
    · rw [e1] at hat
      split at hat
      · rename_i h0; rw [e2, h0]
      · cases hat
    · rw [e1] at hat
      split at hat
      · cases hat
      · injection hat with h3
        exact (lits_inj h3).symm
  subst hzs
  refine ⟨v, fun W hW => ?_, hoi, by omega, fun y hy w1 v' hg ho' hloc => ?_⟩
  · obtain ⟨es, clock, hb, F, _⟩ := hown
    rcases Maps.fit_look false lawS Tryz.underlying119 (zeroIs w) hb F hkey with ⟨r1, r2, _⟩ | ⟨e0, y0, m0, k0, r1, _⟩
    · rcases Maps.fit_look false lawS Tryz.underlying119 (zeroIs W) (hW.trans hb) F hkey with ⟨r3, _, _⟩ | ⟨e1, y1, m1, k1, r3, _⟩
      · rw [hrun] at r1
        rw [r3]
        have : v = .slice none 0 0 := by simpa using r1
        rw [this]; rfl
      · exact absurd k1 (r2 e1 m1)
    · rcases Maps.fit_look false lawS Tryz.underlying119 (zeroIs W) (hW.trans hb) F hkey with ⟨_, r2, _⟩ | ⟨e1, y1, m1, k1, r3, _⟩
      · exact absurd k0 (r2 e0 m0)
      · have he : e0 = e1 := entry_eq_of_key ((Go.MapKept.stamped_iff es clock).1 F.stamped).2.2 m0 m1 (k0.trans k1.symm)
        rw [hrun] at r1
        have : v = e0.val := by simpa using r1
        rw [r3, this, he]; rfl
  · obtain ⟨w2, r1, r2, r3⟩ := hback w1 v' _ hg ho' (by simp; omega) hloc
    refine ⟨w2, r1, ⟨_, n + 1, by omega, r2, fun z => ?_, fun z => ?_⟩, r3⟩
    · dsimp only
      have him : IsMap D := by obtain ⟨es, clock, _, _, _, rfl, _⟩ := hown; exact ⟨_, rfl⟩
      have hrd : rowDatum (H := Unit) .i64 v' (f (kb x) ++ [y]) = .slice (Go.ChangeShapes.lits .i64 (f (kb x) ++ [y])) [] := ho'.datum_pos (by simp)
      by_cases e : z = kb x
      · subst e
        rw [atKey_put_same him (isKeyS _) _ _, hrd, if_pos rfl, grpD, if_neg (by simp)]
      · rw [atKey_put_other (by intro e'; exact e (by simpa using e')), h1, if_neg e]
    · dsimp only
      have him : IsMap D := by obtain ⟨es, clock, _, _, _, rfl, _⟩ := hown; exact ⟨_, rfl⟩
      by_cases e : z = kb x
      · subst e
        rw [has_put_same him (isKeyS _) _, if_pos rfl]; simp
      · rw [has_put_other (by intro e'; exact e (by simpa using e')), h2, if_neg e]
/-- The groups stay while other blocks turn: not the map's, and below the rows' base. -/
theorem GMap.grown {w w' : World} {base mb : Nat} {f : List UInt8 → List Int} {N : Nat} {row : Option Nat} (h : GMap w base mb f N) (hg : w.grownBy w' row) (hb : some mb ≠ row) (hr : ∀ j, row = some j → j < base) : GMap w' base mb f N := by
  obtain ⟨D, n, hn, ho, h1, h2⟩ := h
  exact ⟨D, n, hn, ho.kept hg hb (ho.rowsAbove hr), h1, h2⟩
theorem GMap.base {w : World} {base mb : Nat} {f : List UInt8 → List Int} {N : Nat} (h : GMap w base mb f N) : mb < base := by
  obtain ⟨D, n, _, ⟨_, _, _, _, _, _, hb, _⟩, _⟩ := h; exact hb
end Go.Proofs.YtcibciippghooaaGreatDoor
namespace Go.Proofs.YtcibciippghooaaGreatDoor
open Go.RowKit
set_option linter.unusedVariables false

/-- A comparison: what is equal, turned round, chained. -/
structure IsCmp {α : Type} (c : α → α → Int) : Prop where
  zero : ∀ x y, c x y = 0 → x = y
  turn : ∀ x y, c y x = - c x y
  trans : ∀ x y z, c x y < 0 → c y z < 0 → c x z < 0
theorem IsCmp.self {α : Type} {c : α → α → Int} (h : IsCmp c) (x : α) : c x x = 0 := by have := h.turn x x; omega

theorem cb_turn : ∀ a b : List UInt8, Lib.compareBytes b a = - Lib.compareBytes a b
  | [], [] => rfl
  | [], _ :: _ => rfl
  | _ :: _, [] => rfl
  | a :: s, b :: t => by
    have ih := cb_turn s t
    unfold Lib.compareBytes
    by_cases h1 : a < b
    · have h2 : ¬ b < a := fun h => UInt8.lt_asymm h1 h
      simp [h1, h2]
    · by_cases h2 : b < a
      · simp [h1, h2]
      · simp [h1, h2, ih]
theorem cb_trans : ∀ a b c : List UInt8, Lib.compareBytes a b < 0 → Lib.compareBytes b c < 0 → Lib.compareBytes a c < 0
  | [], [], _, h, _ => by simp [Lib.compareBytes] at h
  | [], _ :: _, [], _, h => by simp [Lib.compareBytes] at h
  | [], _ :: _, _ :: _, _, _ => by simp [Lib.compareBytes]
  | _ :: _, [], _, h, _ => by simp [Lib.compareBytes] at h
  | _ :: _, _ :: _, [], _, h => by simp [Lib.compareBytes] at h
  | a :: s, b :: t, c :: u, h, h' => by
    have ih := cb_trans s t u
    unfold Lib.compareBytes at h h' ⊢
    by_cases h1 : a < b
    · by_cases h2 : b < c
      · rw [if_pos (UInt8.lt_trans h1 h2)]; decide
      · rw [if_neg h2] at h'
        by_cases h3 : c < b
        · rw [if_pos h3] at h'; omega
        · have e : b = c := UInt8.le_antisymm (UInt8.not_lt.1 h3) (UInt8.not_lt.1 h2)
          subst e
          rw [if_pos h1]; decide
    · rw [if_neg h1] at h
      by_cases h3 : b < a
      · rw [if_pos h3] at h; omega
      · have e : a = b := UInt8.le_antisymm (UInt8.not_lt.1 h3) (UInt8.not_lt.1 h1)
        subst e
        rw [if_neg h3] at h
        by_cases h2 : a < c
        · rw [if_pos h2]; decide
        · rw [if_neg h2] at h' ⊢
          by_cases h4 : c < a
          · rw [if_pos h4] at h'; omega
          · rw [if_neg h4] at h' ⊢
            exact ih h h'
theorem cb_cmp : IsCmp Lib.compareBytes := ⟨compareBytes_zero, cb_turn, cb_trans⟩
theorem ba_ext' {x y : ByteArray} (h : x.data.toList = y.data.toList) : x = y := by
  cases x; cases y
  simp only at h
  congr 1
  exact Array.toList_inj.1 h
theorem cn_turn : ∀ a b : List ByteArray, cmpN b a = - cmpN a b
  | [], [] => rfl
  | [], _ :: _ => rfl
  | _ :: _, [] => rfl
  | a :: s, b :: t => by
    have ih := cn_turn s t
    unfold cmpN
    by_cases h1 : a = b
    · subst h1; simp [ih]
    · rw [if_neg h1, if_neg (Ne.symm h1)]; exact cb_turn _ _
theorem cn_trans : ∀ a b c : List ByteArray, cmpN a b < 0 → cmpN b c < 0 → cmpN a c < 0
  | [], [], _, h, _ => by simp [cmpN] at h
  | [], _ :: _, [], _, h => by simp [cmpN] at h
  | [], _ :: _, _ :: _, _, _ => by simp [cmpN]
  | _ :: _, [], _, h, _ => by simp [cmpN] at h
  | _ :: _, _ :: _, [], _, h => by simp [cmpN] at h
  | a :: s, b :: t, c :: u, h, h' => by
    have ih := cn_trans s t u
    unfold cmpN at h h' ⊢
    by_cases h1 : a = b
    · subst h1
      rw [if_pos rfl] at h
      by_cases h2 : a = c
      · subst h2
        rw [if_pos rfl] at h' ⊢
        exact ih h h'
      · rw [if_neg h2] at h' ⊢; exact h'
    · rw [if_neg h1] at h
      by_cases h2 : b = c
      · subst h2
        rw [if_neg h1]; exact h
      · rw [if_neg h2] at h'
        have h3 := cb_trans _ _ _ h h'
        by_cases h4 : a = c
        · subst h4
          have := cb_turn a.data.toList b.data.toList
          omega
        · rw [if_neg h4]; exact h3
theorem cn_cmp : IsCmp cmpN := ⟨cmpN_zero, cn_turn, cn_trans⟩

/-- The parts give the text back. -/
theorem spl_back (c : UInt8) : ∀ s : List UInt8, Lib.join (spl c s) [c] = s
  | [] => rfl
  | x :: t => by
    have ih := spl_back c t
    unfold spl
    split
    · rename_i e
      subst e
      rcases h : spl x t with _ | ⟨a, r⟩
      · exact absurd h (spl_ne _ _)
      · rw [h] at ih
        simp [Lib.join] at ih ⊢
        exact ih
    · rcases h : spl c t with _ | ⟨a, r⟩
      · exact absurd h (spl_ne _ _)
      · rw [h] at ih
        cases r with
        | nil => simp [Lib.join] at ih ⊢; exact ih
        | cons b r => simp [Lib.join] at ih ⊢; exact ih
theorem good_inj {s t : ByteArray} (hs : goodPath s = true) (ht : goodPath t = true) (h : sparts s = sparts t) : s = t := by
  unfold goodPath at hs ht
  simp only [Bool.and_eq_true] at hs ht
  have back : ∀ x : ByteArray, Lib.hasPrefix x.data.toList [47] = true → x.data.toList = 47 :: Lib.join ((sparts x).map fun y => y.data.toList) [47] := by
    intro x hx
    have e1 : (sparts x).map (fun y => y.data.toList) = spl 47 (Lib.trimPrefix x.data.toList [47]) := by
      unfold sparts
      rw [List.map_map]
      have : ((fun y : ByteArray => y.data.toList) ∘ fun x : List UInt8 => (⟨x.toArray⟩ : ByteArray)) = id := by funext z; simp
      rw [this, List.map_id]
    rw [e1, spl_back]
    unfold Lib.trimPrefix
    rw [if_pos hx]
    unfold Lib.hasPrefix at hx
    rcases hl : x.data.toList with _ | ⟨a, r⟩
    · rw [hl] at hx; simp at hx
    · rw [hl] at hx
      simp at hx
      simp [← hx]
  apply ba_ext'
  rw [back s hs.1, back t ht.1, h]
theorem path_cmp : IsCmp pathO := by
  refine ⟨fun s t h => ?_, fun s t => ?_, fun s t u h h' => ?_⟩
  · unfold pathO at h
    cases hs : goodPath s <;> cases ht : goodPath t <;> simp [hs, ht] at h
    · exact ba_ext' (compareBytes_zero _ _ h)
    · exact good_inj hs ht (cmpN_zero _ _ h)
  · unfold pathO
    cases hs : goodPath s <;> cases ht : goodPath t <;> simp
    · exact cb_turn _ _
    · exact cn_turn _ _
  · unfold pathO at h h' ⊢
    cases hs : goodPath s <;> cases ht : goodPath t <;> cases hu : goodPath u <;> simp [hs, ht, hu] at h h' ⊢
    · exact cb_trans _ _ _ h h'
    · exact cn_trans _ _ _ h h'
theorem ahead_iff (m o : Mem) : ahead m o = true ↔ m.r < o.r ∨ m.r = o.r ∧ pathO m.p o.p < 0 := by
  unfold ahead aheadB
  rw [decide_eq_true_iff]
  unfold orI cmpI
  by_cases h1 : m.r < o.r
  · simp [h1]
  · by_cases h2 : o.r < m.r
    · simp [h1, h2]; omega
    · have : m.r = o.r := by omega
      simp [this]
theorem ahead_asymm {m o : Mem} (h : ahead m o = true) : ahead o m = false := by
  cases h' : ahead o m with
  | false => rfl
  | true =>
    rw [ahead_iff] at h h'
    have := path_cmp.turn m.p o.p
    omega
theorem ahead_trans {m o q : Mem} (h : ahead m o = true) (h' : ahead o q = true) : ahead m q = true := by
  rw [ahead_iff] at h h' ⊢
  rcases h with h | ⟨h1, h2⟩
  · left; omega
  · rcases h' with h' | ⟨h3, h4⟩
    · left; omega
    · exact .inr ⟨by omega, path_cmp.trans _ _ _ h2 h4⟩
theorem ahead_total {m o : Mem} (h : m.p ≠ o.p) (h' : ahead m o = false) : ahead o m = true := by
  have h1 : ¬ (ahead m o = true) := by rw [h']; decide
  rw [ahead_iff] at h1 ⊢
  have h2 := path_cmp.turn m.p o.p
  have h3 : pathO m.p o.p ≠ 0 := fun e => h (path_cmp.zero _ _ e)
  omega
/-- In a list of different paths no other member of the ID comes ahead of the best. -/
theorem best_least (L : List Mem) : L.Pairwise (fun m o => m.p ≠ o.p) → ∀ m ∈ L, m.l.length = 1 → ∀ o, best L (kb m.i) = some o → m = o ∨ ahead o m = true := by
  refine rev_ind (P := fun L => L.Pairwise (fun m o => m.p ≠ o.p) → ∀ m ∈ L, m.l.length = 1 → ∀ o, best L (kb m.i) = some o → m = o ∨ ahead o m = true) ?_ ?_ L
  · intro _ m h; cases h
  · intro l y ih hp m hm h1 o ho
    obtain ⟨hp1, _, hp2⟩ := List.pairwise_append.1 hp
    rw [best_snoc] at ho
    rcases bestS_cases (best l) y (kb m.i) with ⟨h2, h3, h4, h5⟩ | ⟨h2, h3⟩
    · rw [h2] at ho; cases ho
      rcases List.mem_append.1 hm with hm | hm
      · obtain ⟨o', ho'⟩ := best_some l m hm h1
        right
        rcases ih hp1 m hm h1 o' ho' with rfl | h6
        · exact h5 _ ho'
        · exact ahead_trans (h5 o' ho') h6
      · exact .inl (by simpa using hm)
    · rw [h2] at ho
      rcases List.mem_append.1 hm with hm | hm
      · exact ih hp1 m hm h1 o ho
      · obtain rfl : m = y := by simpa using hm
        obtain ⟨o', ho', h6⟩ := h3 h1 rfl
        rw [ho] at ho'; cases ho'
        exact .inr (ahead_total (Ne.symm (hp2 o (best_mem l _ o ho).1 m (by simp))) h6)
theorem best_order {L L' : List Mem} (hp : L.Pairwise (fun m o => m.p ≠ o.p)) (hp' : L'.Pairwise (fun m o => m.p ≠ o.p)) (h : ∀ m, m ∈ L ↔ m ∈ L') (x : List UInt8) : best L x = best L' x := by
  rcases h1 : best L x with _ | o
  · rcases h2 : best L' x with _ | o'
    · rfl
    · exfalso
      obtain ⟨a, b, c⟩ := best_mem L' x o' h2
      obtain ⟨z, hz⟩ := best_some L o' ((h o').2 a) b
      rw [c, h1] at hz; cases hz
  · obtain ⟨a, b, c⟩ := best_mem L x o h1
    obtain ⟨o', ho'⟩ := best_some L' o ((h o).1 a) b
    rw [c] at ho'
    rw [ho']
    obtain ⟨a', b', c'⟩ := best_mem L' x o' ho'
    rcases best_least L' hp' o ((h o).1 a) b o' (by rw [c]; exact ho') with e | h3
    · rw [e]
    · rcases best_least L hp o' ((h o').2 a') b' o (by rw [c']; exact h1) with e | h4
      · rw [e]
      · rw [ahead_asymm h3] at h4; cases h4
end Go.Proofs.YtcibciippghooaaGreatDoor
