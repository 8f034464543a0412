/- Maps with string keys that the call made, with values of any type; their keys, sorted. Members, and the best one of each ID. Plain. Blocks and the types of their cells. Members in memory: slices of api.Member that are read, rows of them. clash. Insert of the reference. slices.Clone of strings. coldplugref32.In, coldplugmake.SameTexts. -/
import Derived.Test.YtmieegcgeolckaaGreatDoorZ2
import Derived.Test.YtmieegcgeolckaaGreatDoorShelf
import Derived.Maps.OwnSet
import Derived.Maps.StringElems
import Derived.OwnWalkIn
import Derived.Shelf.AbstractIn
import Derived.Test.YtmieegcgeolckaaGreatDoorZ3
import Derived.Laws.AppendOwnNone
namespace Go.Proofs.YtmieegcgeolckaaGreatDoor
open Go.RowKit Go.Maps Go.Sort Go.Shelf
set_option linter.unusedVariables false

def kb (x : ByteArray) : List UInt8 := x.data.toList
def bk (x : List UInt8) : ByteArray := ⟨x.toArray⟩
theorem bk_kb (x : ByteArray) : bk (kb x) = x := by unfold bk kb; simp
theorem kb_bk (x : List UInt8) : kb (bk x) = x := by unfold bk kb; simp
theorem kb_inj {x y : ByteArray} (h : kb x = kb y) : x = y := by rw [← bk_kb x, h, bk_kb]
/-- How a value reads: as itself. -/
def heldV (v : Value) : Option (DataW Value × List MemPlace) := some (.held v, [])
/-- Block mb is a map with string keys: its look-up is g. -/
def VMap (w : World) (mb : Nat) (g : List UInt8 → Option Value) (N : Nat) : Prop :=
  ∃ (D : DataW Value) (n : Nat), n ≤ N ∧ w.ownsMap Tryz.prog 9 heldV mb n D ∧ (∀ x, has D (.string x) = (g x).isSome) ∧ ∀ x v, g x = some v → ∀ z, D.atKey (.string x) z = .held v
theorem VMap.lt {w : World} {mb : Nat} {g : List UInt8 → Option Value} {N : Nat} (h : VMap w mb g N) : mb < w.heap.size := by obtain ⟨D, n, _, ho, _⟩ := h; exact ho.lt
theorem VMap.fr {S : Nat → Prop} {w w' : World} {mb : Nat} {g : List UInt8 → Option Value} {N : Nat} (h : VMap w mb g N) (hf : Fr S w w') (hS : ¬ S mb) : VMap w' mb g N := by
  obtain ⟨D, n, hn, ho, r⟩ := h; exact ⟨D, n, hn, hf.ownsMap ho hS, r⟩
theorem VMap.made (w : World) : VMap (w.alloc (.map #[] 0)) w.heap.size (fun _ => none) 0 := ⟨.map [], 0, Nat.le_refl _, World.ownsMap_made _ _ _ _, fun _ => rfl, fun _ _ h => by cases h⟩
theorem VMap.mono {w : World} {mb : Nat} {g : List UInt8 → Option Value} {N M : Nat} (h : VMap w mb g N) (hN : N ≤ M) : VMap w mb g M := by
  obtain ⟨D, n, hn, r⟩ := h; exact ⟨D, n, by omega, r⟩
theorem lawS : Keyed Tryz.prog 9 := string_keyed Tryz.underlying9
theorem keyS {s : ByteArray} (hs : s.size ≤ maxLen) : keyOf Tryz.prog 9 (.string s) = some (.string (kb s)) := Go.WideMaps.keyOf_string_mk Tryz.underlying9 hs
theorem isKeyS (x : List UInt8) : WideAt.IsKeyLit (.string x) := trivial

theorem wp_vmap_ok {w : World} {ops : Array Oper} {rest : List Oper} {o : Oper} {a : Act} {Q : Exit → Act → World → Prop} (hg : o.guard = none) (m x : Operand) (t e : TypeId) (z : Value) (hz : (zeroValue e).run Tryz.prog w = .ok z w) (hop : o.op = Op.lookup t m x true) (ht : Tryz.prog.underlying t = some (.map 9 e))
    (mb : Nat) (g : List UInt8 → Option Value) (N : Nat) (k : ByteArray) (hk : k.size ≤ maxLen) (hm : a.eval m = .map (some mb)) (hown : VMap w mb g N) (hx : a.eval x = .string k)
    (v : Value) (hv : (g (kb k)).getD z = v) (b : Bool) (hb : (g (kb k)).isSome = b)
    (hK : wpList Tryz.prog ops Q rest (a.put o.dst (.tuple #[v, .bool b])) w) : wpList Tryz.prog ops Q (o :: rest) a w := by
  obtain ⟨D, n, _, ho, h1, h2⟩ := hown
  refine wpList_lookup_own_ok w hg m x t hop 9 e lawS ht heldV hz (.held z) [] rfl mb n D hm ho _ _ hx (keyS hk) (fun v1 ps hv1 => ?_)
  simp only [heldV, Option.some.injEq, Prod.mk.injEq] at hv1
  have e1 := hv1.1
  have hv' := hv
  have e : v1 = (g (kb k)).getD z := by
    rcases hgk : g (kb k) with _ | v'
    · have hh := h1 (kb k)
      rw [hgk] at hh
      rw [atKey_of_not_has hh] at e1
      simpa using e1
    · rw [h2 _ _ hgk] at e1
      simpa using e1
  rw [h1, e, hv', hb]; exact hK
theorem wp_vmap {w : World} {ops : Array Oper} {rest : List Oper} {o : Oper} {a : Act} {Q : Exit → Act → World → Prop} (hg : o.guard = none) (m x : Operand) (t e : TypeId) (z : Value) (hz : (zeroValue e).run Tryz.prog w = .ok z w) (hop : o.op = Op.lookup t m x false) (ht : Tryz.prog.underlying t = some (.map 9 e))
    (mb : Nat) (g : List UInt8 → Option Value) (N : Nat) (k : ByteArray) (hk : k.size ≤ maxLen) (hm : a.eval m = .map (some mb)) (hown : VMap w mb g N) (hx : a.eval x = .string k)
    (u : Value) (hu : (g (kb k)).getD z = u)
    (hK : wpList Tryz.prog ops Q rest (a.put o.dst u) w) : wpList Tryz.prog ops Q (o :: rest) a w := by
  obtain ⟨D, n, _, ho, h1, h2⟩ := hown
  refine wpList_plain hg fun K' hK' => ?_
  obtain ⟨v, ps, hrun, hv⟩ := ho.lookup lawS ht hz (zd := .held z) (zp := []) rfl (keyS hk)
  simp only [heldV, Option.some.injEq, Prod.mk.injEq] at hv
  have e1 := hv.1
  have e : v = (g (kb k)).getD z := by
    rcases hgk : g (kb k) with _ | v'
    · have hh := h1 (kb k)
      rw [hgk] at hh
      rw [atKey_of_not_has hh] at e1
      simpa using e1
    · rw [h2 _ _ hgk] at e1
      simpa using e1
  unfold Oper.wp
  simp [execOp, hop, hm, hx, hrun, Result.andThen]
  rw [e, hu]
  exact hK' _ _ hK

def updS (g : List UInt8 → Option Value) (x : List UInt8) (v : Value) : List UInt8 → Option Value := fun y => if y = x then some v else g y
theorem VMap.put {w w1 : World} {mb : Nat} {D : DataW Value} {n N : Nat} {g : List UInt8 → Option Value} (hn : n ≤ N) (ho : w.ownsMap Tryz.prog 9 heldV mb n D) (h1 : ∀ x, has D (.string x) = (g x).isSome) (h2 : ∀ x v, g x = some v → ∀ z, D.atKey (.string x) z = .held v)
    (x : List UInt8) (v : Value) (ho1 : w1.ownsMap Tryz.prog 9 heldV mb (n + 1) (D.put (.string x) (.held v))) : VMap w1 mb (updS g x v) (N + 1) := by
  refine ⟨_, n + 1, by omega, ho1, fun y => ?_, fun y u hu z => ?_⟩
  · unfold updS
    split
    · rename_i e; subst e; rw [has_put_same ho.isMap (isKeyS _) _]; rfl
    · rename_i e; rw [has_put_other (by intro e'; exact e (by simpa using e'))]; exact h1 y
  · unfold updS at hu
    split at hu
    · rename_i e; subst e; cases hu; rw [atKey_put_same ho.isMap (isKeyS _) _ _]
    · rename_i e; rw [atKey_put_other (by intro e'; exact e (by simpa using e'))]; exact h2 y u hu z
theorem wp_vmap_put {w : World} {ops : Array Oper} {rest : List Oper} {o : Oper} {a : Act} {Q : Exit → Act → World → Prop} (hg : o.guard = none) (m x v : Operand) (t e : TypeId) (hop : o.op = Op.mapUpdate t m x v) (ht : Tryz.prog.underlying t = some (.map 9 e))
    (mb : Nat) (g : List UInt8 → Option Value) (N : Nat) (hN : N < maxLen) (k : ByteArray) (hk : k.size ≤ maxLen) (u : Value) (hm : a.eval m = .map (some mb)) (hown : VMap w mb g N) (hx : a.eval x = .string k) (hv : a.eval v = u)
    (hK : ∀ w', VMap w' mb (updS g (kb k) u) (N + 1) → Fr (Is mb) w w' → wpList Tryz.prog ops Q rest (a.put o.dst undef) w') : wpList Tryz.prog ops Q (o :: rest) a w := by
  obtain ⟨D, n, hn, ho, h1, h2⟩ := hown
  exact wpList_mapUpdate_own w hg m x v t hop 9 e lawS ht heldV mb n D hm ho (by omega) _ _ _ hx hv (keyS hk) (.held u) [] rfl (fun w' h h' => hK w' (VMap.put hn ho h1 h2 _ _ h) (Fr.of_grown_some h'))

/-! ### the keys, sorted -/
def leS : List UInt8 → List UInt8 → Bool := fun x y => decide (x ≤ y)
/-- Strictly ascending texts. -/
def AscS (l : List (List UInt8)) : Prop := l.Pairwise (fun x y => leS x y = true ∧ x ≠ y)
theorem leS_antisymm {x y : List UInt8} (h : leS x y = true) (h' : leS y x = true) : x = y := by
  unfold leS at *
  simp only [decide_eq_true_eq] at *
  exact List.le_antisymm h h'
theorem leS_trans {x y z : List UInt8} (h : leS x y = true) (h' : leS y z = true) : leS x z = true := by
  unfold leS at *
  simp only [decide_eq_true_eq] at *
  exact List.le_trans h h'
theorem leS_total (x y : List UInt8) : (leS x y || leS y x) = true := by
  unfold leS
  simp only [Bool.or_eq_true, decide_eq_true_eq]
  exact List.le_total x y
theorem AscS.ext : ∀ {l l' : List (List UInt8)}, AscS l → AscS l' → (∀ x, x ∈ l ↔ x ∈ l') → l = l'
  | [], [], _, _, _ => rfl
  | [], y :: t, _, _, h => by have := (h y).2 (by simp); simp at this
  | x :: s, [], _, _, h => by have := (h x).1 (by simp); simp at this
  | x :: s, y :: t, h1, h2, h => by
    have a1 := List.pairwise_cons.1 h1
    have a2 := List.pairwise_cons.1 h2
    have hx := (h x).1 (by simp)
    have hy := (h y).2 (by simp)
    have e : x = y := by
      rcases List.mem_cons.1 hx with h3 | h3
      · exact h3
      · rcases List.mem_cons.1 hy with h4 | h4
        · exact h4.symm
        · exact leS_antisymm (a1.1 y h4).1 (a2.1 x h3).1
    subst e
    refine congrArg _ (AscS.ext a1.2 a2.2 fun z => ?_)
    constructor
    · intro hz
      rcases List.mem_cons.1 ((h z).1 (by simp [hz])) with h3 | h3
      · subst h3; exact absurd rfl (a1.1 z hz).2
      · exact h3
    · intro hz
      rcases List.mem_cons.1 ((h z).2 (by simp [hz])) with h3 | h3
      · subst h3; exact absurd rfl (a2.1 z hz).2
      · exact h3
theorem ascS_sorted {l : List (List UInt8)} (h : l.Nodup) : AscS (l.mergeSort leS) := by
  have h1 := List.pairwise_mergeSort (le := leS) (fun _ _ _ h h2 => leS_trans h h2) (fun a b => leS_total a b) l
  have h2 : (l.mergeSort leS).Nodup := (List.mergeSort_perm l _).nodup_iff.2 h
  exact (h1.and h2).imp (fun h => h)

theorem mem_strKeys {H : Type} {P : Program} {k : TypeId} {R : Value → Option (DataW H × List MemPlace)} {w : World} {b n : Nat} {D : DataW H} (h : w.ownsMap P k R b n D) (hk : P.underlying k = some .string) (x : List UInt8) :
    x ∈ strKeys D ↔ has D (.string x) = true := by
  obtain ⟨es, rfl, hko⟩ := h.keysOf
  rw [has_eq, List.any_eq_true]
  show x ∈ es.map (fun p => Go.strOf p.1) ↔ _
  rw [List.mem_map]
  constructor
  · rintro ⟨p, hp, rfl⟩
    obtain ⟨v, hv⟩ := hko p hp
    obtain ⟨y, _, hy, _⟩ := Maps.keyOf_str hk hv
    exact ⟨p, hp, by rw [hy]; simp [Lit.sameKey, Go.strOf]⟩
  · rintro ⟨p, hp, hs⟩
    obtain ⟨v, hv⟩ := hko p hp
    obtain ⟨y, _, hy, _⟩ := Maps.keyOf_str hk hv
    rw [hy] at hs
    exact ⟨p, hp, by rw [hy]; simpa [Lit.sameKey, Go.strOf] using hs⟩
theorem nodup_strKeys {H : Type} {P : Program} {k : TypeId} {R : Value → Option (DataW H × List MemPlace)} {w : World} {b n : Nat} {D : DataW H} (h : w.ownsMap P k R b n D) (K : Keyed P k) (hk : P.underlying k = some .string) :
    (strKeys D).Nodup := by
  obtain ⟨es, rfl, hko⟩ := h.keysOf
  obtain ⟨es', e, hp⟩ := h.tidy K
  obtain rfl : es = es' := by simpa using e
  show (es.map fun p => Go.strOf p.1).Nodup
  refine List.pairwise_map.2 (hp.imp_of_mem fun {p q} hp' hq' hne e => hne ?_)
  obtain ⟨v, hv⟩ := hko p hp'
  obtain ⟨a, _, ha, _⟩ := Maps.keyOf_str hk hv
  obtain ⟨v', hv'⟩ := hko q hq'
  obtain ⟨b, _, hb, _⟩ := Maps.keyOf_str hk hv'
  rw [ha, hb] at e ⊢
  exact congrArg _ e
theorem strKeys_len {H : Type} (D : DataW H) : (strKeys D).length ≤ Maps.size D := by
  cases D <;> simp [strKeys, Maps.size]

theorem sortsS (m : Nat) : AnyZ.SortsIn Tryz.prog Tryz.sortedS_ren Fence.wide m :=
  ⟨fun blk off cap ss W hH hblk hsz => callsIn_wide.2 (AnyM.slices_Sort_string Tryz.sortS blk off cap ss W hH hblk hsz),
   fun p cap W => callsIn_wide.2 (AnyM.slices_Sort_string_none Tryz.sortS p cap W)⟩

set_option maxHeartbeats 1000000 in
theorem m_keys (mb : Option Nat) (w : World) : Calls Tryz.prog 52 #[.map mb] w fun e w' => e = .returned (.func (.func 76) #[] #[.pointer (some ⟨w.heap.size, 0, none⟩)]) ∧ w' = w.alloc (.cells #[.map mb] 80) :=
  (callsIn_wide (n := 5)).1 (AnyZ.keys_in Tryz.keysM Fence.wide 5 trivial rfl mb w)

set_option maxHeartbeats 1000000 in
theorem m_sorted (mb Bm : Nat) (g : List UInt8 → Option Value) (N : Nat) (w : World) (hs : VMap w mb g N) (hN : N ≤ 1099511627776) (hB : w.cell? ⟨Bm, 0, none⟩ = some (.map (some mb))) (hBl : Bm < w.heap.size) :
    Calls Tryz.prog 51 #[.func (.func 76) #[] #[.pointer (some ⟨Bm, 0, none⟩)]] w fun e w' =>
      (∃ a cap ids, e = .returned (.slice a ids.length cap) ∧ Strs w' a cap ids ∧ AscS (ids.map kb) ∧ (∀ x : ByteArray, x ∈ ids ↔ (g (kb x)).isSome = true) ∧ ids.length ≤ N ∧ ∀ ad, a = some ad → w.heap.size ≤ ad.block) ∧ Fr No w w' := by
  obtain ⟨D, n, hn, hown, hf, _⟩ := hs
  have hsz := hown.size_le
  have hmax : Maps.size D ≤ maxLen := by unfold maxLen; omega
  have hbytes : Maps.size D * 16 ≤ 140737488355328 := by omega
  have hmem := mem_strKeys hown Tryz.underlying9
  have hnd := nodup_strKeys hown lawS Tryz.underlying9
  have hlen := strKeys_len D
  have hseq : SeqGives Fence.wide 2 Tryz.prog 76 #[.pointer (some ⟨Bm, 0, none⟩)] encStr (fun ss => ss.Perm (strKeys D)) (Maps.size D) w :=
    AnyZ.keys_gives (ρ := Tryz.keysM_ren) { Tryz.keysM with } Fence.wide _ trivial rfl (by omega) Bm mb n D _ hBl hB hown
  have cS := AnyZ.sorted_in Tryz.sortedS Fence.wide 5 trivial trivial trivial trivial rfl (by omega) (sortsS _) (enters_of Tryz.func75 (by kernel_rfl) rfl) 76 #[.pointer (some ⟨Bm, 0, none⟩)] trivial (enters_of Tryz.func76 (by kernel_rfl) rfl) _ _ hmax hbytes _ hseq
  refine ((callsIn_wide (n := 5)).1 cS).mono ?_
  rintro e w' ⟨v, ss, rfl, hperm, hrow, _, hb⟩
  have hp : (ss.mergeSort (fun x y => decide (x ≤ y))).Perm (strKeys D) := (List.mergeSort_perm ss _).trans hperm
  obtain ⟨L, hL⟩ : ∃ L, L = (ss.mergeSort (fun x y => decide (x ≤ y))) := ⟨_, rfl⟩
  have hl : (L.map bk).length = ss.length := by rw [hL]; simp
  have e1 : L.map encStr = (L.map bk).map Value.string := by rw [List.map_map]; rfl
  rw [← hL] at hp hrow
  rw [← hl, e1] at hrow
  obtain ⟨a, cap, rfl, h1, h2⟩ := Strs.of_own hrow
  have e2 : (L.map bk).map kb = L := by
    rw [List.map_map]
    have : kb ∘ bk = id := by funext x; exact kb_bk x
    rw [this, List.map_id]
  refine ⟨⟨a, cap, L.map bk, rfl, h1, ?_, fun x => ?_, ?_, h2⟩, Fr.of_below_size hb⟩
  · rw [e2, hL]; exact ascS_sorted (hperm.nodup_iff.2 hnd)
  · rw [← hf, ← hmem, ← hp.mem_iff]
    constructor
    · intro h
      obtain ⟨y, hy, rfl⟩ := List.mem_map.1 h
      rwa [kb_bk]
    · intro h
      exact List.mem_map.2 ⟨_, h, bk_kb x⟩
  · rw [List.length_map, hp.length_eq]; omega
end Go.Proofs.YtmieegcgeolckaaGreatDoor
namespace Go.Proofs.YtmieegcgeolckaaGreatDoor
open Go.RowKit
set_option linter.unusedVariables false

/-- A member: its path, ID, round, slot, total, least, and its inner texts with their place. -/
structure Mem where
  p : ByteArray
  i : ByteArray
  r : Int
  s : Int
  t : Int
  e : Int
  a : Option Addr
  l : List ByteArray
  c : Nat
def Mem.vals (m : Mem) : Array Value := #[.string m.p, .string m.i, .int .i64 m.r, .int .i64 m.s, .int .i64 m.t, .int .i64 m.e, .slice m.a m.l.length m.c]
def Mem.v (m : Mem) : Value := .agg m.vals
/-- A member without the place of its inner texts. -/
def Mem.k (m : Mem) : Mem := { m with a := none, c := 0 }
def Mem.zero : Mem := ⟨⟨#[]⟩, ⟨#[]⟩, 0, 0, 0, 0, none, [], 0⟩

/-- m comes ahead of o. -/
def ahead (m o : Mem) : Bool := aheadB m.p m.r o.p o.r
def bestS (g : List UInt8 → Option Mem) (m : Mem) : List UInt8 → Option Mem := fun x =>
  if (m.l.length == 1 && x == kb m.i && (match g x with | none => true | some o => ahead m o)) = true then some m else g x
def best (L : List Mem) : List UInt8 → Option Mem := L.foldl bestS fun _ => none
theorem best_snoc (L : List Mem) (m : Mem) : best (L ++ [m]) = bestS (best L) m := by simp [best, List.foldl_append]
theorem best_nil : best [] = fun _ => none := rfl
theorem bestS_skip {g : List UInt8 → Option Mem} {m : Mem} (h : m.l.length ≠ 1) : bestS g m = g := by
  funext x; unfold bestS; rw [if_neg (by simp [h])]
theorem bestS_keep {g : List UInt8 → Option Mem} {m o : Mem} (hg : g (kb m.i) = some o) (h : ahead m o = false) : bestS g m = g := by
  funext x; unfold bestS
  by_cases e : x = kb m.i
  · subst e; rw [hg]; simp [h]
  · rw [if_neg (by simp [e])]
theorem bestS_take {g : List UInt8 → Option Mem} {m : Mem} (h1 : m.l.length = 1) (h : ∀ o, g (kb m.i) = some o → ahead m o = true) : bestS g m = fun x => if x = kb m.i then some m else g x := by
  funext x; unfold bestS
  by_cases e : x = kb m.i
  · subst e
    rw [if_pos rfl]
    rcases hg : g (kb m.i) with _ | o
    · simp [h1]
    · simp [h1, h o hg]
  · rw [if_neg (by simp [e]), if_neg e]

theorem rev_ind {α : Type} {P : List α → Prop} (h0 : P []) (h1 : ∀ l x, P l → P (l ++ [x])) (l : List α) : P l := by
  have : ∀ l : List α, P l.reverse := by
    intro l
    induction l with
    | nil => exact h0
    | cons x t ih => rw [List.reverse_cons]; exact h1 _ _ ih
  simpa using this l.reverse

theorem bestS_cases (g : List UInt8 → Option Mem) (m : Mem) (x : List UInt8) : (bestS g m x = some m ∧ m.l.length = 1 ∧ x = kb m.i ∧ ∀ o, g x = some o → ahead m o = true) ∨ (bestS g m x = g x ∧ (m.l.length = 1 → x = kb m.i → ∃ o, g x = some o ∧ ahead m o = false)) := by
  by_cases h1 : m.l.length = 1
  · by_cases h2 : x = kb m.i
    · rcases hg : g x with _ | o
      · refine .inl ⟨?_, h1, h2, fun o ho => by cases ho⟩
        unfold bestS; rw [hg]; simp [h1, h2]
      · cases ha : ahead m o with
        | true =>
          refine .inl ⟨?_, h1, h2, fun o' ho => by cases ho; exact ha⟩
          unfold bestS; rw [hg]; simp [h1, h2, ha]
        | false =>
          refine .inr ⟨?_, fun _ _ => ⟨o, rfl, ha⟩⟩
          unfold bestS; rw [hg]; simp [ha]
    · refine .inr ⟨?_, fun _ h => absurd h h2⟩
      unfold bestS; rw [if_neg (by simp [h2])]
  · refine .inr ⟨?_, fun h => absurd h h1⟩
    unfold bestS; rw [if_neg (by simp [h1])]

theorem best_mem (L : List Mem) : ∀ x m, best L x = some m → m ∈ L ∧ m.l.length = 1 ∧ kb m.i = x := by
  refine rev_ind (P := fun L => ∀ x m, best L x = some m → m ∈ L ∧ m.l.length = 1 ∧ kb m.i = x) ?_ ?_ L
  · intro x m h; cases h
  · intro l y ih x m h
    rw [best_snoc] at h
    rcases bestS_cases (best l) y x with ⟨h1, h2, h3, _⟩ | ⟨h1, _⟩
    · rw [h1] at h; cases h
      exact ⟨by simp, h2, h3.symm⟩
    · rw [h1] at h
      obtain ⟨a, b⟩ := ih x m h
      exact ⟨by simp [a], b⟩
theorem best_some (L : List Mem) : ∀ m ∈ L, m.l.length = 1 → ∃ o, best L (kb m.i) = some o := by
  refine rev_ind (P := fun L => ∀ m ∈ L, m.l.length = 1 → ∃ o, best L (kb m.i) = some o) ?_ ?_ L
  · intro m h; cases h
  · intro l y ih m hm h1
    rw [best_snoc]
    rcases bestS_cases (best l) y (kb m.i) with ⟨h2, _⟩ | ⟨h2, h3⟩
    · exact ⟨y, h2⟩
    · rw [h2]
      rcases List.mem_append.1 hm with hm | hm
      · exact ih m hm h1
      · obtain rfl : m = y := by simpa using hm
        obtain ⟨o, ho, _⟩ := h3 h1 rfl
        exact ⟨o, ho⟩
theorem best_some_iff (L : List Mem) (x : List UInt8) : (best L x).isSome = true ↔ ∃ m ∈ L, m.l.length = 1 ∧ kb m.i = x := by
  constructor
  · intro h
    obtain ⟨m, hm⟩ := Option.isSome_iff_exists.1 h
    obtain ⟨h1, h2, h3⟩ := best_mem L x m hm
    exact ⟨m, h1, h2, h3⟩
  · rintro ⟨m, h1, h2, rfl⟩
    obtain ⟨o, ho⟩ := best_some L m h1 h2
    rw [ho]; rfl

/-! ### rounds -/
theorem ahead_round {m o : Mem} (h : ahead m o = true) : m.r ≤ o.r := by
  unfold ahead aheadB at h
  simp only [decide_eq_true_eq] at h
  unfold orI cmpI at h
  by_cases h1 : m.r < o.r
  · omega
  · by_cases h2 : o.r < m.r
    · simp [h1, h2] at h
    · omega
theorem not_ahead_round {m o : Mem} (h : ahead m o = false) : o.r ≤ m.r := by
  unfold ahead aheadB at h
  simp only [decide_eq_false_iff_not] at h
  unfold orI cmpI at h
  by_cases h1 : m.r < o.r
  · simp [h1] at h
  · omega
theorem best_round (L : List Mem) : ∀ m ∈ L, m.l.length = 1 → ∀ o, best L (kb m.i) = some o → o.r ≤ m.r := by
  refine rev_ind (P := fun L => ∀ m ∈ L, m.l.length = 1 → ∀ o, best L (kb m.i) = some o → o.r ≤ m.r) ?_ ?_ L
  · intro m h; cases h
  · intro l y ih m hm h1 o ho
    rw [best_snoc] at ho
    rcases bestS_cases (best l) y (kb m.i) with ⟨h2, h3, h4, h5⟩ | ⟨h2, h3⟩
    · rw [h2] at ho; cases ho
      rcases List.mem_append.1 hm with hm | hm
      · obtain ⟨o', ho'⟩ := best_some l m hm h1
        have h6 := ih m hm h1 o' ho'
        have h7 := ahead_round (h5 o' ho')
        omega
      · obtain rfl : m = y := by simpa using hm
        omega
    · rw [h2] at ho
      rcases List.mem_append.1 hm with hm | hm
      · exact ih m hm h1 o ho
      · obtain rfl : m = y := by simpa using hm
        obtain ⟨o', ho', h6⟩ := h3 h1 rfl
        rw [ho] at ho'; cases ho'
        exact not_ahead_round h6

/-! ### the IDs -/
/-- ids are the IDs of L, ascending. -/
structure IsIds (L : List Mem) (ids : List ByteArray) : Prop where
  asc : AscS (ids.map kb)
  mem : ∀ x : ByteArray, x ∈ ids ↔ (best L (kb x)).isSome = true
theorem map_kb_inj : ∀ {l l' : List ByteArray}, l.map kb = l'.map kb → l = l'
  | [], [], _ => rfl
  | [], _ :: _, h => by simp at h
  | _ :: _, [], h => by simp at h
  | x :: s, y :: t, h => by
    simp only [List.map_cons, List.cons.injEq] at h
    rw [kb_inj h.1, map_kb_inj h.2]
theorem mem_kb {l : List ByteArray} {x : List UInt8} : x ∈ l.map kb ↔ bk x ∈ l := by
  constructor
  · intro h
    obtain ⟨y, hy, rfl⟩ := List.mem_map.1 h
    rwa [bk_kb]
  · intro h
    exact List.mem_map.2 ⟨_, h, kb_bk x⟩
theorem IsIds.unique {L L' : List Mem} {ids ids' : List ByteArray} (h : IsIds L ids) (h' : IsIds L' ids') (hL : ∀ x, (best L x).isSome = (best L' x).isSome) : ids = ids' := by
  refine map_kb_inj (AscS.ext h.asc h'.asc fun x => ?_)
  rw [mem_kb, mem_kb, h.mem, h'.mem, hL]
/-- The members to which those of L belong. -/
def own1 (L : List Mem) (ids : List ByteArray) : List Mem := ids.map fun x => ((best L (kb x)).getD Mem.zero).k
end Go.Proofs.YtmieegcgeolckaaGreatDoor
namespace Go.Proofs.YtmieegcgeolckaaGreatDoor
open Go.RowKit Go.Maps
set_option linter.unusedVariables false

theorem Strs.keep {X W : World} {a : Option Addr} {cap : Nat} {l : List ByteArray} {S : Nat → Prop} (h : Strs X a cap l) (hf : Fr S X W) (hS : ∀ b, b < X.heap.size → ¬ S b) : Strs W a cap l :=
  h.fr hf (fun ad e hne => hS _ (h.cell ad e hne).2.1)

/-- A slice's block holds cells of a type. -/
def BlkT (w : World) (a : Option Addr) (T : TypeId) : Prop := ∀ ad, a = some ad → ∃ cs, w.heap[ad.block]? = some (.cells cs T (0, 0))
theorem BlkT.none (w : World) (T : TypeId) : BlkT w none T := fun _ e => by cases e
theorem own_typ {w : World} {base : Nat} {e : TypeId} {size : Nat} {a : Option Addr} {n m c : Nat} {xs : List Value} (h : w.ownsRow base e size (.slice a n c) m xs) : BlkT w a e := by
  obtain ⟨_, ⟨h1, _⟩ | ⟨g, cap, cur, h1, hg, hb, _⟩⟩ := h
  · cases h1; exact BlkT.none _ _
  · cases h1; exact fun ad e => by cases e; exact ⟨cur, hb⟩
/-- What lies in blocks of another type than the own row's block is not touched by what writes that block. -/
theorem BlkT.fr {S : Nat → Prop} {w w' : World} {a : Option Addr} {T : TypeId} (h : BlkT w a T) (hf : Fr S w w') (hS : ∀ ad, a = some ad → ¬ S ad.block) : BlkT w' a T := fun ad e => by
  obtain ⟨cs, hc⟩ := h ad e
  exact ⟨cs, hf.heap hc (hS ad e)⟩
theorem BlkT.ne {w : World} {base : Nat} {e T : TypeId} {size : Nat} {v : Value} {n : Nat} {xs : List Value} (ho : w.ownsRow base e size v n xs) {a : Option Addr} (h : BlkT w a T) (hne : T ≠ e) : ∀ ad, a = some ad → ¬ v.ownBlock = some ad.block := by
  intro ad e' hb
  obtain ⟨cs, hc⟩ := h ad e'
  obtain ⟨_, ⟨rfl, _⟩ | ⟨g, cap, cur, rfl, hg, hbl, _⟩⟩ := ho
  · cases hb
  · cases hb
    rw [hc] at hbl
    cases hbl
    exact hne rfl
theorem ownsRow_at {w w1 : World} {base : Nat} {e : TypeId} {size : Nat} {v : Value} {n : Nat} {xs : List Value} (h : w.ownsRow base e size v n xs) {S : Nat → Prop} (hf : Fr S w w1) (hS : ∀ b, v.ownBlock = some b → ¬ S b) : w1.ownsRow base e size v n xs := by
  obtain ⟨h0, ⟨rfl, h2⟩ | ⟨g, cap, cur, rfl, hg, hb, h1, h2, h3, h4⟩⟩ := h
  · exact ⟨h0, .inl ⟨rfl, h2⟩⟩
  · exact ⟨h0, .inr ⟨g, cap, cur, rfl, hg, hf.heap hb (hS g rfl), h1, h2, h3, h4⟩⟩
end Go.Proofs.YtmieegcgeolckaaGreatDoor
namespace Go.Proofs.YtmieegcgeolckaaGreatDoor
open Go.RowKit Go.Maps
set_option linter.unusedVariables false

structure Mems (w : World) (a : Option Addr) (cap : Nat) (L : List Mem) : Prop where
  len : L.length ≤ cap
  max : cap ≤ maxLen
  isNil : a = none → L = [] ∧ cap = 0
  ok : ∀ m ∈ L, Strs w m.a m.c m.l
  cell : ∀ ad, a = some ad → L ≠ [] → ad.spot = none ∧ ad.block < w.heap.size ∧ ∀ i m, L[i]? = some m → ∀ j, j < 7 → w.cell? ⟨ad.block, ad.off + (i * 7 + j), none⟩ = m.vals[j]?
/-- The seven cells of a member at (b, o). -/
structure MemAt (w : World) (b o : Nat) (m : Mem) : Prop where
  c0 : w.cell? ⟨b, o, none⟩ = some (.string m.p)
  c1 : w.cell? ⟨b, o + 1, none⟩ = some (.string m.i)
  c2 : w.cell? ⟨b, o + 2, none⟩ = some (.int .i64 m.r)
  c3 : w.cell? ⟨b, o + 3, none⟩ = some (.int .i64 m.s)
  c4 : w.cell? ⟨b, o + 4, none⟩ = some (.int .i64 m.t)
  c5 : w.cell? ⟨b, o + 5, none⟩ = some (.int .i64 m.e)
  c6 : w.cell? ⟨b, o + 6, none⟩ = some (.slice m.a m.l.length m.c)
theorem Mems.elem {w : World} {a : Option Addr} {cap : Nat} {L : List Mem} (h : Mems w a cap L) {k : Nat} (hk : k < L.length) :
    ∃ b off m, a = some ⟨b, off, none⟩ ∧ L[k]? = some m ∧ Strs w m.a m.c m.l ∧ MemAt w b (off + k * 7) m ∧ b < w.heap.size := by
  cases a with
  | none => obtain ⟨rfl, _⟩ := h.isNil rfl; simp at hk
  | some ad =>
    obtain ⟨b, off, sp⟩ := ad
    obtain ⟨h1, h2, h3⟩ := h.cell _ rfl (by intro e; subst e; simp at hk)
    simp at h1; subst h1
    have hc := h3 k _ (List.getElem?_eq_getElem hk)
    exact ⟨b, off, L[k], rfl, List.getElem?_eq_getElem hk, h.ok _ (List.getElem_mem hk), ⟨hc 0 (by omega), hc 1 (by omega), hc 2 (by omega), hc 3 (by omega), hc 4 (by omega), hc 5 (by omega), hc 6 (by omega)⟩, h2⟩
theorem Mems.lenmax {w : World} {a : Option Addr} {cap : Nat} {L : List Mem} (h : Mems w a cap L) : L.length ≤ 9223372036854775807 := by
  have h1 := h.len; have h2 := h.max; unfold maxLen at h2; omega
theorem Mems.fr {S : Nat → Prop} {w w' : World} {a : Option Addr} {cap : Nat} {L : List Mem} (h : Mems w a cap L) (hf : Fr S w w') (hS : ∀ ad, a = some ad → L ≠ [] → ¬ S ad.block) (hM : ∀ m ∈ L, ∀ ad, m.a = some ad → m.l ≠ [] → ¬ S ad.block) : Mems w' a cap L :=
  ⟨h.len, h.max, h.isNil, fun m hm => (h.ok m hm).fr hf (hM m hm), fun ad e hne => by
    obtain ⟨h1, h2, h3⟩ := h.cell ad e hne
    refine ⟨h1, Nat.lt_of_lt_of_le h2 hf.size, fun i m hi j hj => ?_⟩
    rw [← h3 i m hi j hj]
    exact World.cell?_of_block (hf.block _ h2 (hS ad e hne))⟩
theorem Mems.no {S : Nat → Prop} {w w' : World} {a : Option Addr} {cap : Nat} {L : List Mem} (h : Mems w a cap L) (hf : Fr S w w') (hS : ∀ k, ¬ S k) : Mems w' a cap L := h.fr hf (fun _ _ _ => hS _) (fun _ _ _ _ _ => hS _)
theorem Mems.keep {S : Nat → Prop} {w w' : World} {a : Option Addr} {cap : Nat} {L : List Mem} (h : Mems w a cap L) (hf : Fr S w w') (hS : ∀ b, b < w.heap.size → ¬ S b) : Mems w' a cap L :=
  h.fr hf (fun ad e hne => hS _ (h.cell ad e hne).2.1) (fun m hm ad e hne => hS _ ((h.ok m hm).cell ad e hne).2.1)
theorem Mems.nil (w : World) : Mems w none 0 [] := ⟨by simp, by simp, fun _ => ⟨rfl, rfl⟩, by simp, fun _ e _ => by cases e⟩
theorem infoM : (Tryz.prog.info? 31).map (fun i => (i.zero, i.size, i.bytes)) = some (some (.agg #[.string ByteArray.empty, .string ByteArray.empty, .int .i64 0, .int .i64 0, .int .i64 0, .int .i64 0, .slice none 0 0]), 7, 88) := by kernel_rfl
def mflat (L : List Mem) : List Value := L.flatMap (fun m => m.vals.toList)
theorem mflat_snoc (L : List Mem) (m : Mem) : mflat (L ++ [m]) = mflat L ++ m.vals.toList := by simp [mflat]
theorem mvals_one (m : Mem) : ∀ u ∈ m.vals.toList, u.oneCell' = true := by
  intro u hu
  simp [Mem.vals] at hu
  rcases hu with rfl | rfl | rfl | rfl | rfl | rfl | rfl <;> rfl
theorem mflat_at : ∀ (L : List Mem) (i : Nat) (m : Mem), L[i]? = some m → ∀ j, j < 7 → (mflat L)[i * 7 + j]? = m.vals[j]?
  | [], i, m, h, j, hj => by simp at h
  | x :: t, 0, m, h, j, hj => by
    simp at h; subst h
    have : mflat (x :: t) = x.vals.toList ++ mflat t := by simp [mflat]
    rw [this, List.getElem?_append_left (by simp [Mem.vals]; omega)]
    simp
  | x :: t, i + 1, m, h, j, hj => by
    have : mflat (x :: t) = x.vals.toList ++ mflat t := by simp [mflat]
    rw [this, List.getElem?_append_right (by simp [Mem.vals]; omega), show (i + 1) * 7 + j - x.vals.toList.length = i * 7 + j from by simp [Mem.vals]; omega]
    exact mflat_at t i m (by simpa using h) j hj
theorem mflat_len (L : List Mem) : (mflat L).length = L.length * 7 := by
  induction L with
  | nil => rfl
  | cons d t ih =>
    have : mflat (d :: t) = d.vals.toList ++ mflat t := by simp [mflat]
    rw [this, List.length_append, ih]
    simp [Mem.vals]; omega
theorem Mems.of_own {w : World} {base : Nat} {e : TypeId} {v : Value} {L : List Mem} (h : w.ownsRow base e 7 v L.length (mflat L)) (hok : ∀ m ∈ L, Strs w m.a m.c m.l) :
    ∃ a cap, v = .slice a L.length cap ∧ Mems w a cap L ∧ ∀ ad, a = some ad → base ≤ ad.block := by
  obtain ⟨_, ⟨rfl, h2⟩ | ⟨g, cap, cur, rfl, hg, hb, h1, h2, h3, h4⟩⟩ := h
  · have : L = [] := List.eq_nil_of_length_eq_zero h2
    subst this
    exact ⟨none, 0, rfl, Mems.nil w, fun _ e => by cases e⟩
  · refine ⟨some ⟨g, 0, none⟩, cap, rfl, ⟨h1, h2, (fun e => by cases e), hok, ?_⟩, fun ad e => by cases e; exact hg⟩
    intro ad e hne
    cases e
    refine ⟨rfl, lt_of_block hb, fun i m hi j hj => ?_⟩
    rw [cell_of_block hb]
    simp only [Nat.zero_add]
    have hlt : i < L.length := (List.getElem?_eq_some_iff.1 hi).1
    have e1 : (cur.toList.take (L.length * 7))[i * 7 + j]? = (mflat L)[i * 7 + j]? := by rw [h4]
    rw [List.getElem?_take_of_lt (by omega), mflat_at L i m hi j hj] at e1
    rw [← Array.getElem?_toList, e1]
theorem Mems.of_block {w : World} {b : Nat} {L : List Mem} {T : TypeId} {fz : Nat × Nat} (h : w.heap[b]? = some (.cells (mflat L).toArray T fz)) (hm : L.length ≤ maxLen) (hok : ∀ m ∈ L, Strs w m.a m.c m.l) : Mems w (some ⟨b, 0, none⟩) L.length L := by
  refine ⟨Nat.le_refl _, hm, (fun e => by cases e), hok, fun ad e hne => ?_⟩
  cases e
  refine ⟨rfl, lt_of_block h, fun i m hi j hj => ?_⟩
  rw [cell_of_block h]
  simp only [Nat.zero_add]
  rw [← mflat_at L i m hi j hj]
  simp
/-- Members of the call's own: their inner texts lie in new blocks of texts. -/
def MFresh (w : World) (base : Nat) (L : List Mem) : Prop := ∀ m ∈ L, Strs w m.a m.c m.l ∧ BlkT w m.a 9 ∧ ∀ ad, m.a = some ad → base ≤ ad.block
theorem MFresh.fr {S : Nat → Prop} {w w' : World} {base : Nat} {L : List Mem} (h : MFresh w base L) (hf : Fr S w w') (hS : ∀ b, base ≤ b → b < w.heap.size → ¬ S b) : MFresh w' base L := fun m hm => by
  obtain ⟨h1, h2, h3⟩ := h m hm
  have hk : ∀ ad, m.a = some ad → ¬ S ad.block := fun ad e => by obtain ⟨cs, hc⟩ := h2 ad e; exact hS _ (h3 ad e) (lt_of_block hc)
  exact ⟨h1.fr hf (fun ad e _ => hk ad e), h2.fr hf hk, h3⟩
theorem MFresh.own {w w' : World} {base b0 : Nat} {L : List Mem} {v : Value} {n : Nat} {xs : List Value} (h : MFresh w base L) (ho : w.ownsRow b0 31 7 v n xs) (hf : Fr (fun b => v.ownBlock = some b) w w') : MFresh w' base L := fun m hm => by
  obtain ⟨h1, h2, h3⟩ := h m hm
  have hk := BlkT.ne ho h2 (by decide)
  exact ⟨h1.fr hf (fun ad e _ => hk ad e), h2.fr hf hk, h3⟩
theorem MFresh.snoc {w : World} {base : Nat} {L : List Mem} {m : Mem} (h : MFresh w base L) (h1 : Strs w m.a m.c m.l) (h2 : BlkT w m.a 9) (h3 : ∀ ad, m.a = some ad → base ≤ ad.block) : MFresh w base (L ++ [m]) := fun x hx => by
  rcases List.mem_append.1 hx with hx | hx
  · exact h x hx
  · obtain rfl : x = m := by simpa using hx
    exact ⟨h1, h2, h3⟩
end Go.Proofs.YtmieegcgeolckaaGreatDoor
namespace Go.Proofs.YtmieegcgeolckaaGreatDoor
open Go.RowKit Go.Maps
set_option linter.unusedVariables false

end Go.Proofs.YtmieegcgeolckaaGreatDoor
namespace Go.Proofs.YtmieegcgeolckaaGreatDoor
open Go.RowKit Go.Maps
set_option linter.unusedVariables false

/-- append onto a row of the call's own, the source nil or not. -/
theorem wpList_append_src {P : Program} {w : World} {ops : Array Oper} {rest : List Oper} {o : Oper} {a : Act} {Q : Exit → Act → World → Prop} (hgd : o.guard = none) (s x : Operand) (t : TypeId)
    (ho : o.op = .call { callee := .builtin .append, args := #[s, x], argTypes := #[t, t] })
    (base : Nat) (e : TypeId) (i : TypeInfo) (z : Value) (size bytes : Nat) (ht : P.underlying t = some (.slice e)) (hi : P.info? e = some i) (hz : i.zero = some z)
    (hsize : i.size = size) (hby : i.bytes = bytes) (hzs : z.cells.size = size) (hsz : 0 < size)
    (v : Value) (n : Nat) (xs : List Value) (hs : a.eval s = v) (hown : w.ownsRow base e size v n xs)
    (A : Option Addr) (m c : Nat) (news : List Value) (hx : a.eval x = .slice A m c) (hA : A = none → m = 0 ∧ c = 0) (hl : news.length = m * size)
    (hnews : ∀ ad, A = some ad → ∀ j u, news[j]? = some u → w.cell? (ad.add j) = some u) (h1 : ∀ u ∈ news, u.oneCell' = true)
    (h63 : n + m ≤ maxLen) (hbytes : (n + m) * bytes ≤ 140737488355328) (hbase : base ≤ w.heap.size)
    (h : ∀ v' w', w'.ownsRow base e size v' (n + m) (xs ++ news) → w.grownBy w' v.ownBlock → wpList P ops Q rest (a.put o.dst v') w') : wpList P ops Q (o :: rest) a w := by
  cases A with
  | none =>
    obtain ⟨rfl, rfl⟩ := hA rfl
    have hn : news = [] := List.eq_nil_of_length_eq_zero (by simpa using hl)
    subst hn
    exact wpList_append_own_none hgd s x t ho base e i size ht hi v n xs hs hown hx (h v w (by simpa using hown) (World.grownBy.refl w _))
  | some ad =>
    exact wpList_append_own w hgd s x t ho base e i z size bytes ht hi hz hsize hby hzs hsz v n xs hs hown ad m c news hx hl (hnews ad rfl) h1 h63 hbytes hbase (fun v' w' h2 h3 _ => h v' w' h2 h3)

theorem one_cell {w : World} {b : Nat} {v : Value} (h : w.cell? ⟨b, 0, none⟩ = some v) : ∀ j u, [v][j]? = some u → w.cell? ((⟨b, 0, none⟩ : Addr).add j) = some u := by
  intro j u hj
  match j, hj with
  | 0, hj => simp at hj; subst hj; rw [Addr.add_lit]; exact h

theorem flat_inv : ∀ (l : List Dev) (j : Nat) (u : Value), (flat l)[j]? = some u → ∃ i d jj, l[i]? = some d ∧ jj < 10 ∧ j = i * 10 + jj ∧ u = d.cell jj := by
  intro l j u h
  have hlt : j < (flat l).length := (List.getElem?_eq_some_iff.1 h).1
  rw [flat_len] at hlt
  have hi : j / 10 < l.length := by omega
  refine ⟨j / 10, l[j / 10], j % 10, List.getElem?_eq_getElem hi, by omega, by omega, ?_⟩
  have h1 := flat_at l (j / 10) l[j / 10] (List.getElem?_eq_getElem hi) (j % 10) (by omega)
  rw [show j / 10 * 10 + j % 10 = j from by omega, h] at h1
  exact Option.some.inj h1
theorem Devs.cell_of {W : World} {ad : Addr} {cap : Nat} {ds : List Dev} (h : Devs W (some ad) cap ds) {i : Nat} {d : Dev} (hd : ds[i]? = some d) {j : Nat} (hj : j < 10) : W.cell? (ad.add (i * 10 + j)) = some (d.cell j) := by
  obtain ⟨h1, _, h3⟩ := h.cell ad rfl (by intro e; subst e; simp at hd)
  obtain ⟨b, o, sp⟩ := ad
  simp at h1; subst h1
  rw [Addr.add_lit]; exact h3 i d hd j hj
theorem Devs.src_take {W : World} {a : Option Addr} {cap : Nat} {ds : List Dev} (h : Devs W a cap ds) (k : Nat) : ∀ ad, a = some ad → ∀ j u, (flat (ds.take k))[j]? = some u → W.cell? (ad.add j) = some u := by
  intro ad e j u hu
  subst e
  obtain ⟨i, d, jj, h1, h2, rfl, rfl⟩ := flat_inv _ _ _ hu
  refine h.cell_of ?_ h2
  rw [List.getElem?_take] at h1
  split at h1
  · exact h1
  · cases h1
theorem Devs.src_drop {W : World} {a : Option Addr} {cap : Nat} {ds : List Dev} (h : Devs W a cap ds) (k : Nat) : ∀ ad, a = some ad → ∀ j u, (flat (ds.drop k))[j]? = some u → W.cell? ((ad.add (k * 10)).add j) = some u := by
  intro ad e j u hu
  subst e
  obtain ⟨i, d, jj, h1, h2, rfl, rfl⟩ := flat_inv _ _ _ hu
  rw [List.getElem?_drop] at h1
  have h3 := h.cell_of h1 h2
  obtain ⟨hsp, _, _⟩ := h.cell ad rfl (by intro e; subst e; simp at h1)
  obtain ⟨b, o, sp⟩ := ad
  simp only at hsp
  subst hsp
  rw [Addr.add_lit] at h3
  rw [Addr.add_lit, Addr.add_lit, ← h3]
  congr 2
  omega

theorem own_fr {W w1 : World} {base : Nat} {e : TypeId} {size : Nat} {v : Value} {n : Nat} {xs : List Value} (h : W.ownsRow base e size v n xs) (hg : W.grownBy w1 v.ownBlock) : Fr (From base) W w1 :=
  (Fr.of_grown hg).mono (fun b _ e => ownsRow_blk h e)
theorem Devs.keep {W W' : World} {a : Option Addr} {cap : Nat} {ds : List Dev} (h : Devs W a cap ds) (hf : Fr (From W.heap.size) W W') : Devs W' a cap ds :=
  h.fr hf (fun ad e hne hS => by have := (h.cell ad e hne).2.1; unfold From at hS; omega)
theorem cells_fr {W W' : World} {b : Nat} {xs : List Value} (h : ∀ j u, xs[j]? = some u → W.cell? ((⟨b, 0, none⟩ : Addr).add j) = some u) (hf : Fr No W W') : ∀ j u, xs[j]? = some u → W'.cell? ((⟨b, 0, none⟩ : Addr).add j) = some u :=
  fun j u hu => hf.cell (h j u hu) id
theorem flat_ins (ds : List Dev) (q : Nat) (d : Dev) : flat (ds.take q) ++ d.vals.toList ++ flat (ds.drop q) = flat (insAt ds q d) := by
  unfold flat insAt
  rw [List.flatMap_append, List.flatMap_cons, List.append_assoc]
theorem ins_end {wr w0 W : World} {a' : Option Addr} {n c' : Nat} {xs : List Value} {T E : TypeId} (h0 : Fr No wr w0) (hf : Fr (From w0.heap.size) w0 W) (hb : W.heap[wr.heap.size]? = some (.cells #[.slice none 0 0] T)) (ho : W.ownsRow w0.heap.size E 10 (.slice a' n c') n xs) (hs : wr.heap.size < w0.heap.size) :
    (W.setCell ⟨wr.heap.size, 0, none⟩ (.slice a' n c')).heap[wr.heap.size]? = some (.cells #[.slice a' n c'] T) ∧ (W.setCell ⟨wr.heap.size, 0, none⟩ (.slice a' n c')).ownsRow wr.heap.size E 10 (.slice a' n c') n xs ∧ Fr (From wr.heap.size) wr (W.setCell ⟨wr.heap.size, 0, none⟩ (.slice a' n c')) := by
  have hx : Fr (Is wr.heap.size) W (W.setCell ⟨wr.heap.size, 0, none⟩ (.slice a' n c')) := Fr.setCell (S := Is wr.heap.size) (p := ⟨wr.heap.size, 0, none⟩) (Fr.refl _ _) (fun _ => rfl) _
  refine ⟨block_setCell hb 0 _, ownsRow_base (ownsRow_fr ho hx (fun b hb e => by unfold Is at e; omega)) (by omega), ?_⟩
  have h1 : Fr (From wr.heap.size) wr w0 := h0.mono (fun _ _ h => h.elim)
  exact (h1.step hf (fun b hb h => by unfold From at *; omega)).step hx (fun b hb e => by unfold Is at e; unfold From; omega)

section
variable {w W W' : World} {a : Option Addr} {n cap : Nat} {d : Dev}
end

end Go.Proofs.YtmieegcgeolckaaGreatDoor
namespace Go.Proofs.YtmieegcgeolckaaGreatDoor
open Go.RowKit Go.Maps
set_option linter.unusedVariables false
theorem eql_nilS (W : World) (a : Option Addr) (n c : Nat) : (binOp .eql 27 (.slice a n c) (.slice none 0 0)).run Tryz.prog W = .ok (.bool a.isNone) W := Lib.run_eql_slice_nil W 27 9 a n c 0 0 Tryz.underlying27
theorem Strs.src' {W : World} {a : Option Addr} {cap : Nat} {l : List ByteArray} (h : Strs W a cap l) : ∀ ad, a = some ad → ∀ j u, (l.map Value.string)[j]? = some u → W.cell? (ad.add j) = some u := by
  intro ad e j u hu
  rw [List.getElem?_map] at hu
  obtain ⟨x, hx, rfl⟩ := Option.map_eq_some_iff.1 hu
  obtain ⟨h1, _, h3⟩ := h.cell ad e (by intro e; subst e; simp at hx)
  obtain ⟨b, o, sp⟩ := ad
  simp only at h1; subst h1
  rw [Addr.add_lit]
  exact h3 j x hx
set_option maxRecDepth 100000 in
set_option maxHeartbeats 1000000 in
theorem strs_clone (a : Option Addr) (cap : Nat) (l : List ByteArray) (w : World) (hl : Strs w a cap l) (hb : l.length ≤ 1000000) :
    Calls Tryz.prog 53 #[.slice a l.length cap] w fun e w' => (∃ a' c', e = .returned (.slice a' l.length c') ∧ Strs w' a' c' l ∧ BlkT w' a' 9 ∧ ∀ ad, a' = some ad → w.heap.size ≤ ad.block) ∧ Fr No w w' := by
  obtain ⟨i0, hi, hz0, hz1, hz2⟩ := info_parts infoS
  cases a with
  | none =>
    obtain ⟨rfl, rfl⟩ := hl.isNil rfl
    have hq := eql_nilS
    go_enter Tryz.func53, Tryz.ntmps53
    go_wp2_with fail
    go_ret
    exact ⟨⟨none, 0, rfl, Strs.nil _, BlkT.none _ _, fun _ e => by cases e⟩, Fr.refl _ _⟩
  | some ad =>
    have hx : Fr No w (w.alloc (.cells #[] 9)) := (Fr.refl _ _).alloc _
    have hlx := hl.no hx (fun _ => id)
    have hq := eql_nilS
    go_enter Tryz.func53, Tryz.ntmps53
    have own0 : (w.alloc (.cells #[] 9)).ownsRow w.heap.size 9 1 (.slice (some ⟨w.heap.size, 0, none⟩) 0 0) 0 [] :=
      ⟨rfl, .inr ⟨w.heap.size, 0, #[], rfl, Nat.le_refl _, block_alloc _ _, Nat.le_refl _, by unfold maxLen; omega, rfl, rfl⟩⟩
    go_wp2_with (at_builtin; refine wpList_append_src rfl _ _ 27 rfl w.heap.size 9 i0 (.string ByteArray.empty) 1 16 Tryz.underlying27 hi hz0 hz1 hz2 rfl (by decide) _ 0 [] rfl own0 (some ad) l.length _ (l.map Value.string) rfl (fun e => by cases e) (by simp) (fun ad' e => hlx.src' ad' e) (strs_one l) (by unfold maxLen; omega) (by omega) (by first | omega | (simp; done) | (simp; omega)) ?_; intro v' w1 own1 gr1)
    go_ret
    simp only [Nat.zero_add, List.nil_append] at own1
    obtain ⟨a', c', hv, h1, h2⟩ := Strs.of_own own1
    subst hv
    exact ⟨⟨a', c', rfl, h1, own_typ own1, h2⟩, ((Fr.refl No w).alloc _).step (own_fr own0 gr1) (fun b hb h => by unfold From at h; omega)⟩
end Go.Proofs.YtmieegcgeolckaaGreatDoor
namespace Go.Proofs.YtmieegcgeolckaaGreatDoor
open Go.RowKit Go.Maps
set_option linter.unusedVariables false

def hasS (l : List ByteArray) (s : ByteArray) : Bool := l.any fun x => x.toList == s.toList
def IdxS (l : List ByteArray) (s : ByteArray) (e : Ending) : Prop := ∃ i : Int, e = .returned (.int .i64 i) ∧ decide (0 ≤ i) = hasS l s

theorem hasS_at {l : List ByteArray} {s : ByteArray} {k : Nat} {x : ByteArray} (h : l[k]? = some x) (h2 : (x.toList == s.toList) = true) : hasS l s = true := by
  unfold hasS; rw [List.any_eq_true]; exact ⟨x, List.mem_of_getElem? h, h2⟩
theorem hasS_no {l : List ByteArray} {s : ByteArray} (h : ∀ x ∈ l, (x.toList == s.toList) = false) : hasS l s = false := by
  unfold hasS; rw [List.any_eq_false]; intro x hx; simp [h x hx]

set_option maxHeartbeats 1000000 in
theorem ref_in32 (a : Option Addr) (cap : Nat) (l : List ByteArray) (s : ByteArray) (w : World) (hl : Strs w a cap l) :
    Calls Tryz.prog 26 #[.slice a l.length cap, .string s] w fun e w' => e = .returned (.bool (hasS l s)) ∧ Fr No w w' := by
  have hm := hl.lenmax
  go_enter Tryz.func26, Tryz.ntmps26
  go_wp2_with fail
  go_loop [5] (fun i => ∃ k : Nat, k ≤ l.length ∧ i = .int .i64 k ∧ Hid (∀ x ∈ l.take k, (x.toList == s.toList) = false)) (fun i => l.length - (intOf i).toNat)
  case atStart => exact ⟨0, by omega, rfl, by unfold Hid; simp⟩
  case round =>
    obtain ⟨k, hk, rfl, hno⟩ := hrel
    by_cases hlt : k < l.length
    · have hlt' : (k : Int) < l.length := by omega
      obtain ⟨b, off, x, rfl, hx, hc⟩ := hl.at hlt
      have Hx := Lib.hid hx
      clear hx
      rcases he : (x.toList == s.toList) with _ | _
      · go_wp2_with fail
        go_round
        case rel =>
          refine ⟨k + 1, by omega, by go_num, ?_⟩
          unfold Hid
          intro y hy
          rw [List.take_add_one, Hx.out] at hy
          rcases List.mem_append.1 hy with h | h
          · exact hno.out y h
          · simp at h; subst h; exact he
        case measure => simp [intOf]; omega
      · have Hg : Hid (hasS l s = true) := hasS_at Hx.out he
        go_wp2_with fail
        go_ret
        exact ⟨ret_bool Hg.out.symm, Fr.refl _ _⟩
    · obtain rfl : k = l.length := by omega
      have h := hno.out
      rw [List.take_of_length_le (by omega)] at h
      have Hg : Hid (hasS l s = false) := hasS_no h
      go_wp2_with fail
      go_ret
      exact ⟨ret_bool Hg.out.symm, Fr.refl _ _⟩

def sameT (l l' : List ByteArray) : Bool := decide (l.map (·.toList) = l'.map (·.toList))

set_option maxHeartbeats 1000000 in
theorem same_texts (a a' : Option Addr) (cap cap' : Nat) (l l' : List ByteArray) (w : World) (hl : Strs w a cap l) (hl' : Strs w a' cap' l') :
    Calls Tryz.prog 36 #[.slice a l.length cap, .slice a' l'.length cap'] w fun e w' => e = .returned (.bool (sameT l l')) ∧ Fr No w w' := by
  have hm := hl.lenmax
  have hm' := hl'.lenmax
  by_cases hlen : l.length = l'.length
  · have hlb : ((l.length : Int) != l'.length) = false := by simp [hlen]
    have Hlen := Lib.hid hlen
    clear hlen
    go_enter Tryz.func36, Tryz.ntmps36
    go_wp2_with fail
    go_loopw [5] (fun i wr => ∃ k : Nat, k ≤ l.length ∧ i = .int .i64 (k : Int) ∧ Hid ((l.take k).map (·.toList) = (l'.take k).map (·.toList)) ∧ Fr No w wr) (fun i _ => l.length - (intOf i).toNat)
    case atStart => exact ⟨0, by omega, rfl, by unfold Hid; simp, Fr.refl _ _⟩
    case round =>
      obtain ⟨k, hk, rfl, hp, hf⟩ := hrel
      by_cases hlt : k < l.length
      · have hlt1 : (k : Int) < l.length := by omega
        have hlt2 : (k : Int) < l'.length := by have := Hlen.out; omega
        have hlt3 : k < l'.length := by omega
        go_wp2_with fail
        refine region_sig No [(0, false), (1, false), (2, false), (3, false), (4, false), (5, false), (6, false), (7, false), (8, false)] (by kernel_rfl) (by kernel_rfl) (fun w0 hf0 => ?_)
        have hf1 := hf.step hf0 (fun _ _ h => h)
        obtain ⟨b, off, x, rfl, hx, c0⟩ := (hl.no hf1 (fun _ => id)).at hlt
        obtain ⟨b', off', x', rfl, hx', c1⟩ := (hl'.no hf1 (fun _ => id)).at hlt3
        have g0 : ∀ g : Gr No w0, g.W.cell? ⟨b, off + k, none⟩ = some (.string x) := fun g => g.fr.cell c0 id
        have g1 : ∀ g : Gr No w0, g.W.cell? ⟨b', off' + k, none⟩ = some (.string x') := fun g => g.fr.cell c1 id
        have Hx := Lib.hid hx
        have Hx' := Lib.hid hx'
        clear c0 c1 hx hx'
        repeat (apply sig_q; exact rfl; exact rfl; exact rfl; intro K hK; go_big_quiet_op; go_big_quiet_on)
        refine sig_end ?_
        rcases he : (x.toList == x'.toList) with _ | _
        · have Hs : Hid (sameT l l' = false) := by
            unfold Hid sameT
            rw [decide_eq_false_iff_not]
            intro h
            have h1 : (l.map (·.toList))[k]? = (l'.map (·.toList))[k]? := by rw [h]
            rw [List.getElem?_map, List.getElem?_map, Hx.out, Hx'.out] at h1
            simp at h1
            rw [h1] at he
            simp at he
          go_wp2_with fail
          go_ret
          exact ⟨ret_bool Hs.out.symm, hf1⟩
        · have He := Lib.hid he
          go_wp2_with fail
          go_roundw
          case rel =>
            refine ⟨k + 1, by omega, by go_num, ?_, hf1⟩
            unfold Hid
            rw [List.take_add_one, List.take_add_one, Hx.out, Hx'.out, List.map_append, List.map_append, hp.out]
            have := He.out
            simp at this
            simp [this]
          case measure => simp [intOf]; omega
      · obtain rfl : k = l.length := by omega
        have Hs : Hid (sameT l l' = true) := by
          unfold Hid sameT
          have h := hp.out
          rw [List.take_length, Hlen.out, List.take_length] at h
          simpa using h
        go_wp2_with fail
        go_ret
        exact ⟨ret_bool Hs.out.symm, hf⟩
  · have hlb : ((l.length : Int) != l'.length) = true := by simp; omega
    have Hs : Hid (sameT l l' = false) := by
      unfold Hid sameT
      rw [decide_eq_false_iff_not]
      intro h
      have := congrArg List.length h
      simp at this
      exact hlen this
    clear hlen
    go_enter Tryz.func36, Tryz.ntmps36
    go_wp2_with fail
    go_ret
    exact ⟨ret_bool Hs.out.symm, Fr.refl _ _⟩
end Go.Proofs.YtmieegcgeolckaaGreatDoor
