/- ahead. Maps with string keys that the call made, with values of any type; their keys, sorted. Members, and the best one of each ID. Plain. The order of members: total and strict on different paths; the best of a list does not depend on its order. Plain. coldplugref01.Split, Order; coldplugref32.Earlier answers what gather.Before answers. coldplugref01.Split; coldplugref32.Earlier answers what gather.Before answers. coldplugref32.Earlier answers what gather.Before answers. -/
import Derived.Test.YtbblkknndaoefaaGreatDoorZV3
import Derived.Test.YtbblkknndaoefaaGreatDoorZV2
import Derived.Test.YtbblkknndaoefaaGreatDoorShelf
import Derived.Maps.OwnSet
import Derived.Maps.StringElems
import Derived.OwnWalkIn
import Derived.Shelf.AbstractIn
import Derived.Sort.Walk0
namespace Go.Proofs.YtbblkknndaoefaaGreatDoor
open Go.RowKit Go.Maps
set_option linter.unusedVariables false
set_option maxRecDepth 100000 in
set_option maxHeartbeats 1000000 in
theorem l_ahead (p i p' i' : ByteArray) (r s t e r' s' t' e' : Int) (v v' : Value) (m : Int) (w : World) (hs : p.size ≤ 1000000) (ht : p'.size ≤ 1000000) (hm : w.cell? ⟨1, 0, none⟩ = some (.int .i64 m)) :
    Calls Tryz.prog 74 #[.agg #[.string p, .string i, .int .i64 r, .int .i64 s, .int .i64 t, .int .i64 e, v], .agg #[.string p', .string i', .int .i64 r', .int .i64 s', .int .i64 t', .int .i64 e', v']] w fun en w' => en = .returned (.bool (aheadB p r p' r')) ∧ Fr No w w' := by
  have h0 : Fr No w ((w.alloc (.cells #[.string p, .string i, .int .i64 r, .int .i64 s, .int .i64 t, .int .i64 e, v] 97)).alloc (.cells #[.string p', .string i', .int .i64 r', .int .i64 s', .int .i64 t', .int .i64 e', v'] 58)) := ((Fr.refl _ _).alloc _).alloc _
  have hm0 := h0.cell hm id
  have hb := m_before p i p' i' r s t e r' s' t' e' v v' m _ hs ht hm0
  have H0 := Lib.hid h0
  clear h0
  go_enter Tryz.func74, Tryz.ntmps74
  go_wp2_with fail
  refine hb.mono ?_
  rintro en w1 ⟨rfl, hf1⟩
  have Hf := Lib.hid (H0.out.step hf1 (fun _ _ h => h))
  clear hf1
  go_wp2_with fail
  go_ret
  exact ⟨rfl, Hf.out⟩
end Go.Proofs.YtbblkknndaoefaaGreatDoor
namespace Go.Proofs.YtbblkknndaoefaaGreatDoor
open Go.RowKit Go.Maps Go.Sort Go.Shelf
set_option linter.unusedVariables false

def kb (x : ByteArray) : List UInt8 := x.data.toList
def bk (x : List UInt8) : ByteArray := ⟨x.toArray⟩
theorem bk_kb (x : ByteArray) : bk (kb x) = x := by unfold bk kb; simp
theorem kb_bk (x : List UInt8) : kb (bk x) = x := by unfold bk kb; simp
theorem kb_inj {x y : ByteArray} (h : kb x = kb y) : x = y := by rw [← bk_kb x, h, bk_kb]
/-- How a value reads: as itself. -/
def heldV (v : Value) : Option (DataW Value × List MemPlace) := some (.held v, [])
/-- Block mb is a map with string keys: its look-up is g. -/
def VMap (w : World) (mb : Nat) (g : List UInt8 → Option Value) (N : Nat) : Prop :=
  ∃ (D : DataW Value) (n : Nat), n ≤ N ∧ w.ownsMap Tryz.prog 9 heldV mb n D ∧ (∀ x, has D (.string x) = (g x).isSome) ∧ ∀ x v, g x = some v → ∀ z, D.atKey (.string x) z = .held v
theorem VMap.lt {w : World} {mb : Nat} {g : List UInt8 → Option Value} {N : Nat} (h : VMap w mb g N) : mb < w.heap.size := by obtain ⟨D, n, _, ho, _⟩ := h; exact ho.lt
theorem VMap.fr {S : Nat → Prop} {w w' : World} {mb : Nat} {g : List UInt8 → Option Value} {N : Nat} (h : VMap w mb g N) (hf : Fr S w w') (hS : ¬ S mb) : VMap w' mb g N := by
  obtain ⟨D, n, hn, ho, r⟩ := h; exact ⟨D, n, hn, hf.ownsMap ho hS, r⟩
theorem VMap.made (w : World) : VMap (w.alloc (.map #[] 0)) w.heap.size (fun _ => none) 0 := ⟨.map [], 0, Nat.le_refl _, World.ownsMap_made _ _ _ _, fun _ => rfl, fun _ _ h => by cases h⟩
theorem VMap.mono {w : World} {mb : Nat} {g : List UInt8 → Option Value} {N M : Nat} (h : VMap w mb g N) (hN : N ≤ M) : VMap w mb g M := by
  obtain ⟨D, n, hn, r⟩ := h; exact ⟨D, n, by omega, r⟩
theorem lawS : Keyed Tryz.prog 9 := string_keyed Tryz.underlying9
theorem keyS {s : ByteArray} (hs : s.size ≤ maxLen) : keyOf Tryz.prog 9 (.string s) = some (.string (kb s)) := Go.WideMaps.keyOf_string_mk Tryz.underlying9 hs
theorem isKeyS (x : List UInt8) : WideAt.IsKeyLit (.string x) := trivial

theorem wp_vmap_ok {w : World} {ops : Array Oper} {rest : List Oper} {o : Oper} {a : Act} {Q : Exit → Act → World → Prop} (hg : o.guard = none) (m x : Operand) (t e : TypeId) (z : Value) (hz : (zeroValue e).run Tryz.prog w = .ok z w) (hop : o.op = Op.lookup t m x true) (ht : Tryz.prog.underlying t = some (.map 9 e))
    (mb : Nat) (g : List UInt8 → Option Value) (N : Nat) (k : ByteArray) (hk : k.size ≤ maxLen) (hm : a.eval m = .map (some mb)) (hown : VMap w mb g N) (hx : a.eval x = .string k)
    (v : Value) (hv : (g (kb k)).getD z = v) (b : Bool) (hb : (g (kb k)).isSome = b)
    (hK : wpList Tryz.prog ops Q rest (a.put o.dst (.tuple #[v, .bool b])) w) : wpList Tryz.prog ops Q (o :: rest) a w := by
  obtain ⟨D, n, _, ho, h1, h2⟩ := hown
  refine wpList_lookup_own_ok w hg m x t hop 9 e lawS ht heldV hz (.held z) [] rfl mb n D hm ho _ _ hx (keyS hk) (fun v1 ps hv1 => ?_)
  simp only [heldV, Option.some.injEq, Prod.mk.injEq] at hv1
  have e1 := hv1.1
  have hv' := hv
  have e : v1 = (g (kb k)).getD z := by
    rcases hgk : g (kb k) with _ | v'
    · have hh := h1 (kb k)
      rw [hgk] at hh
      rw [atKey_of_not_has hh] at e1
      simpa using e1
    · rw [h2 _ _ hgk] at e1
      simpa using e1
  rw [h1, e, hv', hb]; exact hK
theorem wp_vmap {w : World} {ops : Array Oper} {rest : List Oper} {o : Oper} {a : Act} {Q : Exit → Act → World → Prop} (hg : o.guard = none) (m x : Operand) (t e : TypeId) (z : Value) (hz : (zeroValue e).run Tryz.prog w = .ok z w) (hop : o.op = Op.lookup t m x false) (ht : Tryz.prog.underlying t = some (.map 9 e))
    (mb : Nat) (g : List UInt8 → Option Value) (N : Nat) (k : ByteArray) (hk : k.size ≤ maxLen) (hm : a.eval m = .map (some mb)) (hown : VMap w mb g N) (hx : a.eval x = .string k)
    (u : Value) (hu : (g (kb k)).getD z = u)
    (hK : wpList Tryz.prog ops Q rest (a.put o.dst u) w) : wpList Tryz.prog ops Q (o :: rest) a w := by
  obtain ⟨D, n, _, ho, h1, h2⟩ := hown
  refine wpList_plain hg fun K' hK' => ?_
  obtain ⟨v, ps, hrun, hv⟩ := ho.lookup lawS ht hz (zd := .held z) (zp := []) rfl (keyS hk)
  simp only [heldV, Option.some.injEq, Prod.mk.injEq] at hv
  have e1 := hv.1
  have e : v = (g (kb k)).getD z := by
    rcases hgk : g (kb k) with _ | v'
    · have hh := h1 (kb k)
      rw [hgk] at hh
      rw [atKey_of_not_has hh] at e1
      simpa using e1
    · rw [h2 _ _ hgk] at e1
      simpa using e1
  unfold Oper.wp
  simp [execOp, hop, hm, hx, hrun, Result.andThen]
  rw [e, hu]
  exact hK' _ _ hK

def updS (g : List UInt8 → Option Value) (x : List UInt8) (v : Value) : List UInt8 → Option Value := fun y => if y = x then some v else g y
theorem VMap.put {w w1 : World} {mb : Nat} {D : DataW Value} {n N : Nat} {g : List UInt8 → Option Value} (hn : n ≤ N) (ho : w.ownsMap Tryz.prog 9 heldV mb n D) (h1 : ∀ x, has D (.string x) = (g x).isSome) (h2 : ∀ x v, g x = some v → ∀ z, D.atKey (.string x) z = .held v)
    (x : List UInt8) (v : Value) (ho1 : w1.ownsMap Tryz.prog 9 heldV mb (n + 1) (D.put (.string x) (.held v))) : VMap w1 mb (updS g x v) (N + 1) := by
  refine ⟨_, n + 1, by omega, ho1, fun y => ?_, fun y u hu z => ?_⟩
  · unfold updS
    split
    · rename_i e; subst e; rw [has_put_same ho.isMap (isKeyS _) _]; rfl
    · rename_i e; rw [has_put_other (by intro e'; exact e (by simpa using e'))]; exact h1 y
  · unfold updS at hu
    split at hu
    · rename_i e; subst e; cases hu; rw [atKey_put_same ho.isMap (isKeyS _) _ _]
    · rename_i e; rw [atKey_put_other (by intro e'; exact e (by simpa using e'))]; exact h2 y u hu z
theorem wp_vmap_put {w : World} {ops : Array Oper} {rest : List Oper} {o : Oper} {a : Act} {Q : Exit → Act → World → Prop} (hg : o.guard = none) (m x v : Operand) (t e : TypeId) (hop : o.op = Op.mapUpdate t m x v) (ht : Tryz.prog.underlying t = some (.map 9 e))
    (mb : Nat) (g : List UInt8 → Option Value) (N : Nat) (hN : N < maxLen) (k : ByteArray) (hk : k.size ≤ maxLen) (u : Value) (hm : a.eval m = .map (some mb)) (hown : VMap w mb g N) (hx : a.eval x = .string k) (hv : a.eval v = u)
    (hK : ∀ w', VMap w' mb (updS g (kb k) u) (N + 1) → Fr (Is mb) w w' → wpList Tryz.prog ops Q rest (a.put o.dst undef) w') : wpList Tryz.prog ops Q (o :: rest) a w := by
  obtain ⟨D, n, hn, ho, h1, h2⟩ := hown
  exact wpList_mapUpdate_own w hg m x v t hop 9 e lawS ht heldV mb n D hm ho (by omega) _ _ _ hx hv (keyS hk) (.held u) [] rfl (fun w' h h' => hK w' (VMap.put hn ho h1 h2 _ _ h) (Fr.of_grown_some h'))

/-! ### the keys, sorted -/
def leS : List UInt8 → List UInt8 → Bool := fun x y => decide (x ≤ y)
/-- Strictly ascending texts. -/
def AscS (l : List (List UInt8)) : Prop := l.Pairwise (fun x y => leS x y = true ∧ x ≠ y)
theorem leS_antisymm {x y : List UInt8} (h : leS x y = true) (h' : leS y x = true) : x = y := by
  unfold leS at *
  simp only [decide_eq_true_eq] at *
  exact List.le_antisymm h h'
theorem leS_trans {x y z : List UInt8} (h : leS x y = true) (h' : leS y z = true) : leS x z = true := by
  unfold leS at *
  simp only [decide_eq_true_eq] at *
  exact List.le_trans h h'
theorem leS_total (x y : List UInt8) : (leS x y || leS y x) = true := by
  unfold leS
  simp only [Bool.or_eq_true, decide_eq_true_eq]
  exact List.le_total x y
theorem AscS.ext : ∀ {l l' : List (List UInt8)}, AscS l → AscS l' → (∀ x, x ∈ l ↔ x ∈ l') → l = l'
  | [], [], _, _, _ => rfl
  | [], y :: t, _, _, h => by have := (h y).2 (by simp); simp at this
  | x :: s, [], _, _, h => by have := (h x).1 (by simp); simp at this
  | x :: s, y :: t, h1, h2, h => by
    have a1 := List.pairwise_cons.1 h1
    have a2 := List.pairwise_cons.1 h2
    have hx := (h x).1 (by simp)
    have hy := (h y).2 (by simp)
    have e : x = y := by
      rcases List.mem_cons.1 hx with h3 | h3
      · exact h3
      · rcases List.mem_cons.1 hy with h4 | h4
        · exact h4.symm
        · exact leS_antisymm (a1.1 y h4).1 (a2.1 x h3).1
    subst e
    refine congrArg _ (AscS.ext a1.2 a2.2 fun z => ?_)
    constructor
    · intro hz
      rcases List.mem_cons.1 ((h z).1 (by simp [hz])) with h3 | h3
      · subst h3; exact absurd rfl (a1.1 z hz).2
      · exact h3
    · intro hz
      rcases List.mem_cons.1 ((h z).2 (by simp [hz])) with h3 | h3
      · subst h3; exact absurd rfl (a2.1 z hz).2
      · exact h3
theorem ascS_sorted {l : List (List UInt8)} (h : l.Nodup) : AscS (l.mergeSort leS) := by
  have h1 := List.pairwise_mergeSort (le := leS) (fun _ _ _ h h2 => leS_trans h h2) (fun a b => leS_total a b) l
  have h2 : (l.mergeSort leS).Nodup := (List.mergeSort_perm l _).nodup_iff.2 h
  exact (h1.and h2).imp (fun h => h)

theorem mem_strKeys {H : Type} {P : Program} {k : TypeId} {R : Value → Option (DataW H × List MemPlace)} {w : World} {b n : Nat} {D : DataW H} (h : w.ownsMap P k R b n D) (hk : P.underlying k = some .string) (x : List UInt8) :
    x ∈ strKeys D ↔ has D (.string x) = true := by
  obtain ⟨es, rfl, hko⟩ := h.keysOf
  rw [has_eq, List.any_eq_true]
  show x ∈ es.map (fun p => Go.strOf p.1) ↔ _
  rw [List.mem_map]
  constructor
  · rintro ⟨p, hp, rfl⟩
    obtain ⟨v, hv⟩ := hko p hp
    obtain ⟨y, _, hy, _⟩ := Maps.keyOf_str hk hv
    exact ⟨p, hp, by rw [hy]; simp [Lit.sameKey, Go.strOf]⟩
  · rintro ⟨p, hp, hs⟩
    obtain ⟨v, hv⟩ := hko p hp
    obtain ⟨y, _, hy, _⟩ := Maps.keyOf_str hk hv
    rw [hy] at hs
    exact ⟨p, hp, by rw [hy]; simpa [Lit.sameKey, Go.strOf] using hs⟩
theorem nodup_strKeys {H : Type} {P : Program} {k : TypeId} {R : Value → Option (DataW H × List MemPlace)} {w : World} {b n : Nat} {D : DataW H} (h : w.ownsMap P k R b n D) (K : Keyed P k) (hk : P.underlying k = some .string) :
    (strKeys D).Nodup := by
  obtain ⟨es, rfl, hko⟩ := h.keysOf
  obtain ⟨es', e, hp⟩ := h.tidy K
  obtain rfl : es = es' := by simpa using e
  show (es.map fun p => Go.strOf p.1).Nodup
  refine List.pairwise_map.2 (hp.imp_of_mem fun {p q} hp' hq' hne e => hne ?_)
  obtain ⟨v, hv⟩ := hko p hp'
  obtain ⟨a, _, ha, _⟩ := Maps.keyOf_str hk hv
  obtain ⟨v', hv'⟩ := hko q hq'
  obtain ⟨b, _, hb, _⟩ := Maps.keyOf_str hk hv'
  rw [ha, hb] at e ⊢
  exact congrArg _ e
theorem strKeys_len {H : Type} (D : DataW H) : (strKeys D).length ≤ Maps.size D := by
  cases D <;> simp [strKeys, Maps.size]

theorem sortsS (m : Nat) : AnyZ.SortsIn Tryz.prog Tryz.sortedS_ren Fence.wide m :=
  ⟨fun blk off cap ss W hH hblk hsz => callsIn_wide.2 (AnyM.slices_Sort_string Tryz.sortS blk off cap ss W hH hblk hsz),
   fun p cap W => callsIn_wide.2 (AnyM.slices_Sort_string_none Tryz.sortS p cap W)⟩

set_option maxHeartbeats 1000000 in
theorem m_keys (mb : Option Nat) (w : World) : Calls Tryz.prog 76 #[.map mb] w fun e w' => e = .returned (.func (.func 107) #[] #[.pointer (some ⟨w.heap.size, 0, none⟩)]) ∧ w' = w.alloc (.cells #[.map mb] 94) :=
  (callsIn_wide (n := 5)).1 (AnyZ.keys_in Tryz.keysM Fence.wide 5 trivial rfl mb w)

set_option maxHeartbeats 1000000 in
theorem m_sorted (mb Bm : Nat) (g : List UInt8 → Option Value) (N : Nat) (w : World) (hs : VMap w mb g N) (hN : N ≤ 1099511627776) (hB : w.cell? ⟨Bm, 0, none⟩ = some (.map (some mb))) (hBl : Bm < w.heap.size) :
    Calls Tryz.prog 75 #[.func (.func 107) #[] #[.pointer (some ⟨Bm, 0, none⟩)]] w fun e w' =>
      (∃ a cap ids, e = .returned (.slice a ids.length cap) ∧ Strs w' a cap ids ∧ AscS (ids.map kb) ∧ (∀ x : ByteArray, x ∈ ids ↔ (g (kb x)).isSome = true) ∧ ids.length ≤ N ∧ ∀ ad, a = some ad → w.heap.size ≤ ad.block) ∧ Fr No w w' := by
  obtain ⟨D, n, hn, hown, hf, _⟩ := hs
  have hsz := hown.size_le
  have hmax : Maps.size D ≤ maxLen := by unfold maxLen; omega
  have hbytes : Maps.size D * 16 ≤ 140737488355328 := by omega
  have hmem := mem_strKeys hown Tryz.underlying9
  have hnd := nodup_strKeys hown lawS Tryz.underlying9
  have hlen := strKeys_len D
  have hseq : SeqGives Fence.wide 2 Tryz.prog 107 #[.pointer (some ⟨Bm, 0, none⟩)] encStr (fun ss => ss.Perm (strKeys D)) (Maps.size D) w :=
    AnyZ.keys_gives (ρ := Tryz.keysM_ren) { Tryz.keysM with } Fence.wide _ trivial rfl (by omega) Bm mb n D _ hBl hB hown
  have cS := AnyZ.sorted_in Tryz.sortedS Fence.wide 5 trivial trivial trivial trivial rfl (by omega) (sortsS _) (enters_of Tryz.func106 (by kernel_rfl) rfl) 107 #[.pointer (some ⟨Bm, 0, none⟩)] trivial (enters_of Tryz.func107 (by kernel_rfl) rfl) _ _ hmax hbytes _ hseq
  refine ((callsIn_wide (n := 5)).1 cS).mono ?_
  rintro e w' ⟨v, ss, rfl, hperm, hrow, _, hb⟩
  have hp : (ss.mergeSort (fun x y => decide (x ≤ y))).Perm (strKeys D) := (List.mergeSort_perm ss _).trans hperm
  obtain ⟨L, hL⟩ : ∃ L, L = (ss.mergeSort (fun x y => decide (x ≤ y))) := ⟨_, rfl⟩
  have hl : (L.map bk).length = ss.length := by rw [hL]; simp
  have e1 : L.map encStr = (L.map bk).map Value.string := by rw [List.map_map]; rfl
  rw [← hL] at hp hrow
  rw [← hl, e1] at hrow
  obtain ⟨a, cap, rfl, h1, h2⟩ := Strs.of_own hrow
  have e2 : (L.map bk).map kb = L := by
    rw [List.map_map]
    have : kb ∘ bk = id := by funext x; exact kb_bk x
    rw [this, List.map_id]
  refine ⟨⟨a, cap, L.map bk, rfl, h1, ?_, fun x => ?_, ?_, h2⟩, Fr.of_below_size hb⟩
  · rw [e2, hL]; exact ascS_sorted (hperm.nodup_iff.2 hnd)
  · rw [← hf, ← hmem, ← hp.mem_iff]
    constructor
    · intro h
      obtain ⟨y, hy, rfl⟩ := List.mem_map.1 h
      rwa [kb_bk]
    · intro h
      exact List.mem_map.2 ⟨_, h, bk_kb x⟩
  · rw [List.length_map, hp.length_eq]; omega
end Go.Proofs.YtbblkknndaoefaaGreatDoor
namespace Go.Proofs.YtbblkknndaoefaaGreatDoor
open Go.RowKit
set_option linter.unusedVariables false

/-- A member: its path, ID, round, slot, total, least, and its inner texts with their place. -/
structure Mem where
  p : ByteArray
  i : ByteArray
  r : Int
  s : Int
  t : Int
  e : Int
  a : Option Addr
  l : List ByteArray
  c : Nat
def Mem.vals (m : Mem) : Array Value := #[.string m.p, .string m.i, .int .i64 m.r, .int .i64 m.s, .int .i64 m.t, .int .i64 m.e, .slice m.a m.l.length m.c]
def Mem.v (m : Mem) : Value := .agg m.vals
/-- A member without the place of its inner texts. -/
def Mem.k (m : Mem) : Mem := { m with a := none, c := 0 }
def Mem.zero : Mem := ⟨⟨#[]⟩, ⟨#[]⟩, 0, 0, 0, 0, none, [], 0⟩

/-- m comes ahead of o. -/
def ahead (m o : Mem) : Bool := aheadB m.p m.r o.p o.r
def bestS (g : List UInt8 → Option Mem) (m : Mem) : List UInt8 → Option Mem := fun x =>
  if (m.l.length == 1 && x == kb m.i && (match g x with | none => true | some o => ahead m o)) = true then some m else g x
def best (L : List Mem) : List UInt8 → Option Mem := L.foldl bestS fun _ => none
theorem best_snoc (L : List Mem) (m : Mem) : best (L ++ [m]) = bestS (best L) m := by simp [best, List.foldl_append]
theorem best_nil : best [] = fun _ => none := rfl
theorem bestS_skip {g : List UInt8 → Option Mem} {m : Mem} (h : m.l.length ≠ 1) : bestS g m = g := by
  funext x; unfold bestS; rw [if_neg (by simp [h])]
theorem bestS_keep {g : List UInt8 → Option Mem} {m o : Mem} (hg : g (kb m.i) = some o) (h : ahead m o = false) : bestS g m = g := by
  funext x; unfold bestS
  by_cases e : x = kb m.i
  · subst e; rw [hg]; simp [h]
  · rw [if_neg (by simp [e])]
theorem bestS_take {g : List UInt8 → Option Mem} {m : Mem} (h1 : m.l.length = 1) (h : ∀ o, g (kb m.i) = some o → ahead m o = true) : bestS g m = fun x => if x = kb m.i then some m else g x := by
  funext x; unfold bestS
  by_cases e : x = kb m.i
  · subst e
    rw [if_pos rfl]
    rcases hg : g (kb m.i) with _ | o
    · simp [h1]
    · simp [h1, h o hg]
  · rw [if_neg (by simp [e]), if_neg e]

theorem rev_ind {α : Type} {P : List α → Prop} (h0 : P []) (h1 : ∀ l x, P l → P (l ++ [x])) (l : List α) : P l := by
  have : ∀ l : List α, P l.reverse := by
    intro l
    induction l with
    | nil => exact h0
    | cons x t ih => rw [List.reverse_cons]; exact h1 _ _ ih
  simpa using this l.reverse

theorem bestS_cases (g : List UInt8 → Option Mem) (m : Mem) (x : List UInt8) : (bestS g m x = some m ∧ m.l.length = 1 ∧ x = kb m.i ∧ ∀ o, g x = some o → ahead m o = true) ∨ (bestS g m x = g x ∧ (m.l.length = 1 → x = kb m.i → ∃ o, g x = some o ∧ ahead m o = false)) := by
  by_cases h1 : m.l.length = 1
  · by_cases h2 : x = kb m.i
    · rcases hg : g x with _ | o
      · refine .inl ⟨?_, h1, h2, fun o ho => by cases ho⟩
        unfold bestS; rw [hg]; simp [h1, h2]
      · cases ha : ahead m o with
        | true =>
          refine .inl ⟨?_, h1, h2, fun o' ho => by cases ho; exact ha⟩
          unfold bestS; rw [hg]; simp [h1, h2, ha]
        | false =>
          refine .inr ⟨?_, fun _ _ => ⟨o, rfl, ha⟩⟩
          unfold bestS; rw [hg]; simp [ha]
    · refine .inr ⟨?_, fun _ h => absurd h h2⟩
      unfold bestS; rw [if_neg (by simp [h2])]
  · refine .inr ⟨?_, fun h => absurd h h1⟩
    unfold bestS; rw [if_neg (by simp [h1])]

theorem best_mem (L : List Mem) : ∀ x m, best L x = some m → m ∈ L ∧ m.l.length = 1 ∧ kb m.i = x := by
  refine rev_ind (P := fun L => ∀ x m, best L x = some m → m ∈ L ∧ m.l.length = 1 ∧ kb m.i = x) ?_ ?_ L
  · intro x m h; cases h
  · intro l y ih x m h
    rw [best_snoc] at h
    rcases bestS_cases (best l) y x with ⟨h1, h2, h3, _⟩ | ⟨h1, _⟩
    · rw [h1] at h; cases h
      exact ⟨by simp, h2, h3.symm⟩
    · rw [h1] at h
      obtain ⟨a, b⟩ := ih x m h
      exact ⟨by simp [a], b⟩
theorem best_some (L : List Mem) : ∀ m ∈ L, m.l.length = 1 → ∃ o, best L (kb m.i) = some o := by
  refine rev_ind (P := fun L => ∀ m ∈ L, m.l.length = 1 → ∃ o, best L (kb m.i) = some o) ?_ ?_ L
  · intro m h; cases h
  · intro l y ih m hm h1
    rw [best_snoc]
    rcases bestS_cases (best l) y (kb m.i) with ⟨h2, _⟩ | ⟨h2, h3⟩
    · exact ⟨y, h2⟩
    · rw [h2]
      rcases List.mem_append.1 hm with hm | hm
      · exact ih m hm h1
      · obtain rfl : m = y := by simpa using hm
        obtain ⟨o, ho, _⟩ := h3 h1 rfl
        exact ⟨o, ho⟩
theorem best_some_iff (L : List Mem) (x : List UInt8) : (best L x).isSome = true ↔ ∃ m ∈ L, m.l.length = 1 ∧ kb m.i = x := by
  constructor
  · intro h
    obtain ⟨m, hm⟩ := Option.isSome_iff_exists.1 h
    obtain ⟨h1, h2, h3⟩ := best_mem L x m hm
    exact ⟨m, h1, h2, h3⟩
  · rintro ⟨m, h1, h2, rfl⟩
    obtain ⟨o, ho⟩ := best_some L m h1 h2
    rw [ho]; rfl

/-! ### rounds -/
theorem ahead_round {m o : Mem} (h : ahead m o = true) : m.r ≤ o.r := by
  unfold ahead aheadB at h
  simp only [decide_eq_true_eq] at h
  unfold orI cmpI at h
  by_cases h1 : m.r < o.r
  · omega
  · by_cases h2 : o.r < m.r
    · simp [h1, h2] at h
    · omega
theorem not_ahead_round {m o : Mem} (h : ahead m o = false) : o.r ≤ m.r := by
  unfold ahead aheadB at h
  simp only [decide_eq_false_iff_not] at h
  unfold orI cmpI at h
  by_cases h1 : m.r < o.r
  · simp [h1] at h
  · omega
theorem best_round (L : List Mem) : ∀ m ∈ L, m.l.length = 1 → ∀ o, best L (kb m.i) = some o → o.r ≤ m.r := by
  refine rev_ind (P := fun L => ∀ m ∈ L, m.l.length = 1 → ∀ o, best L (kb m.i) = some o → o.r ≤ m.r) ?_ ?_ L
  · intro m h; cases h
  · intro l y ih m hm h1 o ho
    rw [best_snoc] at ho
    rcases bestS_cases (best l) y (kb m.i) with ⟨h2, h3, h4, h5⟩ | ⟨h2, h3⟩
    · rw [h2] at ho; cases ho
      rcases List.mem_append.1 hm with hm | hm
      · obtain ⟨o', ho'⟩ := best_some l m hm h1
        have h6 := ih m hm h1 o' ho'
        have h7 := ahead_round (h5 o' ho')
        omega
      · obtain rfl : m = y := by simpa using hm
        omega
    · rw [h2] at ho
      rcases List.mem_append.1 hm with hm | hm
      · exact ih m hm h1 o ho
      · obtain rfl : m = y := by simpa using hm
        obtain ⟨o', ho', h6⟩ := h3 h1 rfl
        rw [ho] at ho'; cases ho'
        exact not_ahead_round h6

/-! ### the IDs -/
/-- ids are the IDs of L, ascending. -/
structure IsIds (L : List Mem) (ids : List ByteArray) : Prop where
  asc : AscS (ids.map kb)
  mem : ∀ x : ByteArray, x ∈ ids ↔ (best L (kb x)).isSome = true
theorem map_kb_inj : ∀ {l l' : List ByteArray}, l.map kb = l'.map kb → l = l'
  | [], [], _ => rfl
  | [], _ :: _, h => by simp at h
  | _ :: _, [], h => by simp at h
  | x :: s, y :: t, h => by
    simp only [List.map_cons, List.cons.injEq] at h
    rw [kb_inj h.1, map_kb_inj h.2]
theorem mem_kb {l : List ByteArray} {x : List UInt8} : x ∈ l.map kb ↔ bk x ∈ l := by
  constructor
  · intro h
    obtain ⟨y, hy, rfl⟩ := List.mem_map.1 h
    rwa [bk_kb]
  · intro h
    exact List.mem_map.2 ⟨_, h, kb_bk x⟩
theorem IsIds.unique {L L' : List Mem} {ids ids' : List ByteArray} (h : IsIds L ids) (h' : IsIds L' ids') (hL : ∀ x, (best L x).isSome = (best L' x).isSome) : ids = ids' := by
  refine map_kb_inj (AscS.ext h.asc h'.asc fun x => ?_)
  rw [mem_kb, mem_kb, h.mem, h'.mem, hL]
/-- The members to which those of L belong. -/
def own1 (L : List Mem) (ids : List ByteArray) : List Mem := ids.map fun x => ((best L (kb x)).getD Mem.zero).k
end Go.Proofs.YtbblkknndaoefaaGreatDoor
namespace Go.Proofs.YtbblkknndaoefaaGreatDoor
open Go.RowKit
set_option linter.unusedVariables false

/-- A comparison: what is equal, turned round, chained. -/
structure IsCmp {α : Type} (c : α → α → Int) : Prop where
  zero : ∀ x y, c x y = 0 → x = y
  turn : ∀ x y, c y x = - c x y
  trans : ∀ x y z, c x y < 0 → c y z < 0 → c x z < 0
theorem IsCmp.self {α : Type} {c : α → α → Int} (h : IsCmp c) (x : α) : c x x = 0 := by have := h.turn x x; omega

theorem cb_turn : ∀ a b : List UInt8, Lib.compareBytes b a = - Lib.compareBytes a b
  | [], [] => rfl
  | [], _ :: _ => rfl
  | _ :: _, [] => rfl
  | a :: s, b :: t => by
    have ih := cb_turn s t
    unfold Lib.compareBytes
    by_cases h1 : a < b
    · have h2 : ¬ b < a := fun h => UInt8.lt_asymm h1 h
      simp [h1, h2]
    · by_cases h2 : b < a
      · simp [h1, h2]
      · simp [h1, h2, ih]
theorem cb_trans : ∀ a b c : List UInt8, Lib.compareBytes a b < 0 → Lib.compareBytes b c < 0 → Lib.compareBytes a c < 0
  | [], [], _, h, _ => by simp [Lib.compareBytes] at h
  | [], _ :: _, [], _, h => by simp [Lib.compareBytes] at h
  | [], _ :: _, _ :: _, _, _ => by simp [Lib.compareBytes]
  | _ :: _, [], _, h, _ => by simp [Lib.compareBytes] at h
  | _ :: _, _ :: _, [], _, h => by simp [Lib.compareBytes] at h
  | a :: s, b :: t, c :: u, h, h' => by
    have ih := cb_trans s t u
    unfold Lib.compareBytes at h h' ⊢
    by_cases h1 : a < b
    · by_cases h2 : b < c
      · rw [if_pos (UInt8.lt_trans h1 h2)]; decide
      · rw [if_neg h2] at h'
        by_cases h3 : c < b
        · rw [if_pos h3] at h'; omega
        · have e : b = c := UInt8.le_antisymm (UInt8.not_lt.1 h3) (UInt8.not_lt.1 h2)
          subst e
          rw [if_pos h1]; decide
    · rw [if_neg h1] at h
      by_cases h3 : b < a
      · rw [if_pos h3] at h; omega
      · have e : a = b := UInt8.le_antisymm (UInt8.not_lt.1 h3) (UInt8.not_lt.1 h1)
        subst e
        rw [if_neg h3] at h
        by_cases h2 : a < c
        · rw [if_pos h2]; decide
        · rw [if_neg h2] at h' ⊢
          by_cases h4 : c < a
          · rw [if_pos h4] at h'; omega
          · rw [if_neg h4] at h' ⊢
            exact ih h h'
theorem cb_cmp : IsCmp Lib.compareBytes := ⟨compareBytes_zero, cb_turn, cb_trans⟩
theorem ba_ext' {x y : ByteArray} (h : x.data.toList = y.data.toList) : x = y := by
  cases x; cases y
  simp only at h
  congr 1
  exact Array.toList_inj.1 h
theorem cn_turn : ∀ a b : List ByteArray, cmpN b a = - cmpN a b
  | [], [] => rfl
  | [], _ :: _ => rfl
  | _ :: _, [] => rfl
  | a :: s, b :: t => by
    have ih := cn_turn s t
    unfold cmpN
    by_cases h1 : a = b
    · subst h1; simp [ih]
    · rw [if_neg h1, if_neg (Ne.symm h1)]; exact cb_turn _ _
theorem cn_trans : ∀ a b c : List ByteArray, cmpN a b < 0 → cmpN b c < 0 → cmpN a c < 0
  | [], [], _, h, _ => by simp [cmpN] at h
  | [], _ :: _, [], _, h => by simp [cmpN] at h
  | [], _ :: _, _ :: _, _, _ => by simp [cmpN]
  | _ :: _, [], _, h, _ => by simp [cmpN] at h
  | _ :: _, _ :: _, [], _, h => by simp [cmpN] at h
  | a :: s, b :: t, c :: u, h, h' => by
    have ih := cn_trans s t u
    unfold cmpN at h h' ⊢
    by_cases h1 : a = b
    · subst h1
      rw [if_pos rfl] at h
      by_cases h2 : a = c
      · subst h2
        rw [if_pos rfl] at h' ⊢
        exact ih h h'
      · rw [if_neg h2] at h' ⊢; exact h'
    · rw [if_neg h1] at h
      by_cases h2 : b = c
      · subst h2
        rw [if_neg h1]; exact h
      · rw [if_neg h2] at h'
        have h3 := cb_trans _ _ _ h h'
        by_cases h4 : a = c
        · subst h4
          have := cb_turn a.data.toList b.data.toList
          omega
        · rw [if_neg h4]; exact h3
theorem cn_cmp : IsCmp cmpN := ⟨cmpN_zero, cn_turn, cn_trans⟩

/-- The parts give the text back. -/
theorem spl_back (c : UInt8) : ∀ s : List UInt8, Lib.join (spl c s) [c] = s
  | [] => rfl
  | x :: t => by
    have ih := spl_back c t
    unfold spl
    split
    · rename_i e
      subst e
      rcases h : spl x t with _ | ⟨a, r⟩
      · exact absurd h (spl_ne _ _)
      · rw [h] at ih
        simp [Lib.join] at ih ⊢
        exact ih
    · rcases h : spl c t with _ | ⟨a, r⟩
      · exact absurd h (spl_ne _ _)
      · rw [h] at ih
        cases r with
        | nil => simp [Lib.join] at ih ⊢; exact ih
        | cons b r => simp [Lib.join] at ih ⊢; exact ih
theorem good_inj {s t : ByteArray} (hs : goodPath s = true) (ht : goodPath t = true) (h : sparts s = sparts t) : s = t := by
  unfold goodPath at hs ht
  simp only [Bool.and_eq_true] at hs ht
  have back : ∀ x : ByteArray, Lib.hasPrefix x.data.toList [47] = true → x.data.toList = 47 :: Lib.join ((sparts x).map fun y => y.data.toList) [47] := by
    intro x hx
    have e1 : (sparts x).map (fun y => y.data.toList) = spl 47 (Lib.trimPrefix x.data.toList [47]) := by
      unfold sparts
      rw [List.map_map]
      have : ((fun y : ByteArray => y.data.toList) ∘ fun x : List UInt8 => (⟨x.toArray⟩ : ByteArray)) = id := by funext z; simp
      rw [this, List.map_id]
    rw [e1, spl_back]
    unfold Lib.trimPrefix
    rw [if_pos hx]
    unfold Lib.hasPrefix at hx
    rcases hl : x.data.toList with _ | ⟨a, r⟩
    · rw [hl] at hx; simp at hx
    · rw [hl] at hx
      simp at hx
      simp [← hx]
  apply ba_ext'
  rw [back s hs.1, back t ht.1, h]
theorem path_cmp : IsCmp pathO := by
  refine ⟨fun s t h => ?_, fun s t => ?_, fun s t u h h' => ?_⟩
  · unfold pathO at h
    cases hs : goodPath s <;> cases ht : goodPath t <;> simp [hs, ht] at h
    · exact ba_ext' (compareBytes_zero _ _ h)
    · exact good_inj hs ht (cmpN_zero _ _ h)
  · unfold pathO
    cases hs : goodPath s <;> cases ht : goodPath t <;> simp
    · exact cb_turn _ _
    · exact cn_turn _ _
  · unfold pathO at h h' ⊢
    cases hs : goodPath s <;> cases ht : goodPath t <;> cases hu : goodPath u <;> simp [hs, ht, hu] at h h' ⊢
    · exact cb_trans _ _ _ h h'
    · exact cn_trans _ _ _ h h'
theorem ahead_iff (m o : Mem) : ahead m o = true ↔ m.r < o.r ∨ m.r = o.r ∧ pathO m.p o.p < 0 := by
  unfold ahead aheadB
  rw [decide_eq_true_iff]
  unfold orI cmpI
  by_cases h1 : m.r < o.r
  · simp [h1]
  · by_cases h2 : o.r < m.r
    · simp [h1, h2]; omega
    · have : m.r = o.r := by omega
      simp [this]
theorem ahead_asymm {m o : Mem} (h : ahead m o = true) : ahead o m = false := by
  cases h' : ahead o m with
  | false => rfl
  | true =>
    rw [ahead_iff] at h h'
    have := path_cmp.turn m.p o.p
    omega
theorem ahead_trans {m o q : Mem} (h : ahead m o = true) (h' : ahead o q = true) : ahead m q = true := by
  rw [ahead_iff] at h h' ⊢
  rcases h with h | ⟨h1, h2⟩
  · left; omega
  · rcases h' with h' | ⟨h3, h4⟩
    · left; omega
    · exact .inr ⟨by omega, path_cmp.trans _ _ _ h2 h4⟩
theorem ahead_total {m o : Mem} (h : m.p ≠ o.p) (h' : ahead m o = false) : ahead o m = true := by
  have h1 : ¬ (ahead m o = true) := by rw [h']; decide
  rw [ahead_iff] at h1 ⊢
  have h2 := path_cmp.turn m.p o.p
  have h3 : pathO m.p o.p ≠ 0 := fun e => h (path_cmp.zero _ _ e)
  omega
/-- In a list of different paths no other member of the ID comes ahead of the best. -/
theorem best_least (L : List Mem) : L.Pairwise (fun m o => m.p ≠ o.p) → ∀ m ∈ L, m.l.length = 1 → ∀ o, best L (kb m.i) = some o → m = o ∨ ahead o m = true := by
  refine rev_ind (P := fun L => L.Pairwise (fun m o => m.p ≠ o.p) → ∀ m ∈ L, m.l.length = 1 → ∀ o, best L (kb m.i) = some o → m = o ∨ ahead o m = true) ?_ ?_ L
  · intro _ m h; cases h
  · intro l y ih hp m hm h1 o ho
    obtain ⟨hp1, _, hp2⟩ := List.pairwise_append.1 hp
    rw [best_snoc] at ho
    rcases bestS_cases (best l) y (kb m.i) with ⟨h2, h3, h4, h5⟩ | ⟨h2, h3⟩
    · rw [h2] at ho; cases ho
      rcases List.mem_append.1 hm with hm | hm
      · obtain ⟨o', ho'⟩ := best_some l m hm h1
        right
        rcases ih hp1 m hm h1 o' ho' with rfl | h6
        · exact h5 _ ho'
        · exact ahead_trans (h5 o' ho') h6
      · exact .inl (by simpa using hm)
    · rw [h2] at ho
      rcases List.mem_append.1 hm with hm | hm
      · exact ih hp1 m hm h1 o ho
      · obtain rfl : m = y := by simpa using hm
        obtain ⟨o', ho', h6⟩ := h3 h1 rfl
        rw [ho] at ho'; cases ho'
        exact .inr (ahead_total (Ne.symm (hp2 o (best_mem l _ o ho).1 m (by simp))) h6)
theorem best_order {L L' : List Mem} (hp : L.Pairwise (fun m o => m.p ≠ o.p)) (hp' : L'.Pairwise (fun m o => m.p ≠ o.p)) (h : ∀ m, m ∈ L ↔ m ∈ L') (x : List UInt8) : best L x = best L' x := by
  rcases h1 : best L x with _ | o
  · rcases h2 : best L' x with _ | o'
    · rfl
    · exfalso
      obtain ⟨a, b, c⟩ := best_mem L' x o' h2
      obtain ⟨z, hz⟩ := best_some L o' ((h o').2 a) b
      rw [c, h1] at hz; cases hz
  · obtain ⟨a, b, c⟩ := best_mem L x o h1
    obtain ⟨o', ho'⟩ := best_some L' o ((h o).1 a) b
    rw [c] at ho'
    rw [ho']
    obtain ⟨a', b', c'⟩ := best_mem L' x o' ho'
    rcases best_least L' hp' o ((h o).1 a) b o' (by rw [c]; exact ho') with e | h3
    · rw [e]
    · rcases best_least L hp o' ((h o').2 a') b' o (by rw [c']; exact h1) with e | h4
      · rw [e]
      · rw [ahead_asymm h3] at h4; cases h4
end Go.Proofs.YtbblkknndaoefaaGreatDoor
namespace Go.Proofs.YtbblkknndaoefaaGreatDoor
open Go.RowKit Go.Maps
set_option linter.unusedVariables false

/-- All parts of a text between slashes. -/
def fparts (s : ByteArray) : List ByteArray := (spl 47 s.data.toList).map fun x => ⟨x.toArray⟩
theorem pre_cons : ∀ {l : List UInt8}, Lib.hasPrefix l [47] = true → l = 47 :: Lib.trimPrefix l [47]
  | [], h => by unfold Lib.hasPrefix at h; simp at h
  | a :: r, h => by
    unfold Lib.trimPrefix
    rw [if_pos h]
    unfold Lib.hasPrefix at h
    simp at h
    simp [← h]
theorem fparts_good {s : ByteArray} (h : goodPath s = true) : fparts s = ⟨#[]⟩ :: sparts s := by
  unfold goodPath at h
  simp only [Bool.and_eq_true] at h
  unfold fparts sparts
  rw [pre_cons h.1]
  have e : spl 47 (47 :: Lib.trimPrefix s.data.toList [47]) = [] :: spl 47 (Lib.trimPrefix s.data.toList [47]) := by rw [spl, if_pos rfl]
  rw [e]
  have e2 : Lib.trimPrefix (47 :: Lib.trimPrefix s.data.toList [47]) [47] = Lib.trimPrefix s.data.toList [47] := by
    unfold Lib.trimPrefix
    simp [Lib.hasPrefix]
  rw [e2]
  rfl
theorem fparts_len (s : ByteArray) : Lib.countB s ⟨#[47]⟩ + 1 = (fparts s).length := split_len s
theorem order_good {s t : ByteArray} (hs : goodPath s = true) (ht : goodPath t = true) : cmpN (fparts s) (fparts t) = cmpN (sparts s) (sparts t) := by
  rw [fparts_good hs, fparts_good ht]
  exact cmpN_app [⟨#[]⟩] (sparts s) (sparts t)

set_option maxRecDepth 100000 in
set_option maxHeartbeats 2000000 in
theorem r_order (s t : ByteArray) (m : Int) (w : World) (hs : s.size ≤ 1000000) (ht : t.size ≤ 1000000) (hm : w.cell? ⟨1, 0, none⟩ = some (.int .i64 m)) :
    Calls Tryz.prog 109 #[.string s, .string t] w fun e w' => e = .returned (.int .i64 (cmpN (fparts s) (fparts t))) ∧ Fr No w w' := by
  have hml : (1000001 : Nat) ≤ maxLen := by unfold maxLen; omega
  have hc1 := fparts_len s
  have hs1 : _ = fparts s := split_parts s
  have hc2 := fparts_len t
  have hs2 : _ = fparts t := split_parts t
  have hle1 := Lib.countB_le ⟨#[47]⟩ (by decide) s.size s (Nat.le_refl _)
  have hle2 := Lib.countB_le ⟨#[47]⟩ (by decide) t.size t (Nat.le_refl _)
  have hl1 : (fparts s).length ≤ maxLen := by omega
  have hl2 : (fparts t).length ≤ maxLen := by omega
  have hsp1 := Tryz.strings_Split s ⟨#[47]⟩ m w (by omega) hm (by decide)
  rw [hs1, hc1] at hsp1
  have hx1 : Fr No w (w.alloc (.cells ((fparts s).map Value.string).toArray 9)) := (Fr.refl _ _).alloc _
  have hm1 := hx1.cell hm id
  have hS1 := Strs.new w (fparts s) 9 hl1
  have hsz1 : w.heap.size < (w.alloc (.cells ((fparts s).map Value.string).toArray 9)).heap.size := by simp
  obtain ⟨W1, hW1⟩ : ∃ W1, W1 = w.alloc (.cells ((fparts s).map Value.string).toArray 9) := ⟨_, rfl⟩
  rw [← hW1] at hsp1 hx1 hm1 hS1 hsz1
  clear hW1
  have hsp2 := Tryz.strings_Split t ⟨#[47]⟩ m W1 (by omega) hm1 (by decide)
  rw [hs2, hc2] at hsp2
  have hx2 : Fr No W1 (W1.alloc (.cells ((fparts t).map Value.string).toArray 9)) := (Fr.refl _ _).alloc _
  have hS2 := Strs.new W1 (fparts t) 9 hl2
  obtain ⟨W2, hW2⟩ : ∃ W2, W2 = W1.alloc (.cells ((fparts t).map Value.string).toArray 9) := ⟨_, rfl⟩
  rw [← hW2] at hsp2 hx2 hS2
  clear hW2 hc1 hs1 hc2 hs2 hle1 hle2 hl1 hl2 hml hm
  have hS12 := hS1.no hx2 (fun _ => id)
  have Hx := Lib.hid (hx1.step hx2 (fun _ _ h => h))
  clear hS1 hx1 hx2 hsz1 hm1
  generalize fparts s = P at *
  generalize fparts t = Q at *
  go_enter Tryz.func109, Tryz.ntmps109
  go_wp2_with fail
  refine hsp1.mono ?_
  rintro e w1 ⟨rfl, rfl⟩
  go_wp2_with fail
  refine hsp2.mono ?_
  rintro e w2 ⟨rfl, rfl⟩
  have hcp := ref_compare _ _ P _ _ Q _ hS12 hS2
  clear hsp1 hsp2 hS12 hS2
  go_wp2_with fail
  refine hcp.mono ?_
  rintro e w3 ⟨rfl, hf3⟩
  have Hf := Lib.hid (Hx.out.step hf3 (fun _ _ h => h))
  clear hf3 hcp
  go_wp2_with fail
  go_ret
  exact ⟨rfl, Hf.out⟩
end Go.Proofs.YtbblkknndaoefaaGreatDoor
namespace Go.Proofs.YtbblkknndaoefaaGreatDoor
open Go.RowKit Go.Maps Go.Sort
set_option linter.unusedVariables false

theorem cb_less : ∀ a b : List UInt8, decide (Lib.compareBytes a b < 0) = Op.bytesLess a b
  | [], [] => rfl
  | [], _ :: _ => rfl
  | _ :: _, [] => rfl
  | a :: x, b :: y => by
    have ih := cb_less x y
    unfold Lib.compareBytes Op.bytesLess
    by_cases h1 : a < b
    · simp [h1]
    · by_cases h2 : b < a
      · have h3 : (a == b) = false := by
          simp only [beq_eq_false_iff_ne]
          rintro rfl
          exact h1 h2
        simp [h1, h2, h3]
      · have h3 : a = b := UInt8.le_antisymm (UInt8.not_lt.1 h2) (UInt8.not_lt.1 h1)
        subst h3
        simp [h1, ih]
theorem ahead_ne {p p' : ByteArray} {r r' : Int} (h : r ≠ r') : aheadB p r p' r' = decide (r < r') := by
  unfold aheadB orI cmpI
  by_cases h1 : r < r'
  · simp [h1]
  · have h2 : r' < r := by omega
    simp [h1, h2]
theorem ahead_eq (p p' : ByteArray) (r : Int) : aheadB p r p' r = decide (pathO p p' < 0) := by
  unfold aheadB orI cmpI
  simp
theorem ahead_tt {p p' : ByteArray} (r : Int) (h1 : goodPath p = true) (h2 : goodPath p' = true) : aheadB p r p' r = decide (cmpN (fparts p) (fparts p') < 0) := by
  rw [ahead_eq, order_good h1 h2]; unfold pathO; rw [h1, h2]; rfl
theorem ahead_tf {p p' : ByteArray} (r : Int) (h1 : goodPath p = true) (h2 : goodPath p' = false) : aheadB p r p' r = true := by
  rw [ahead_eq]; unfold pathO; rw [h1, h2]; rfl
theorem ahead_ft {p p' : ByteArray} (r : Int) (h1 : goodPath p = false) (h2 : goodPath p' = true) : aheadB p r p' r = false := by
  rw [ahead_eq]; unfold pathO; rw [h1, h2]; rfl
theorem ahead_ff {p p' : ByteArray} (r : Int) (h1 : goodPath p = false) (h2 : goodPath p' = false) : aheadB p r p' r = Op.bytesLess p.toList p'.toList := by
  rw [ahead_eq]; unfold pathO; rw [h1, h2, ByteArray.toList_eq, ByteArray.toList_eq, ← cb_less]; rfl

/-- What coldplugref01.Split answers. -/
def SplitQ (s : ByteArray) (e : Ending) : Prop := ∃ v, e = .returned (.tuple #[v, .bool (goodPath s)])

theorem byte0 {s : ByteArray} {b : UInt8} {t : List UInt8} (hl : s.data.toList = b :: t) (h : 0 < s.size) : s[0]'h = b := by
  have h1 : s.data[0]'h = b := by
    have h2 : s.data.toList[0]? = some b := by rw [hl]; rfl
    rw [Array.getElem?_toList, Array.getElem?_eq_getElem h] at h2
    exact Option.some.inj h2
  exact h1
set_option maxRecDepth 100000 in
set_option maxHeartbeats 1000000 in
theorem r_split (s : ByteArray) (m : Int) (w : World) (hs : s.size ≤ 1000000) (hm : w.cell? ⟨1, 0, none⟩ = some (.int .i64 m)) :
    Calls Tryz.prog 108 #[.string s] w fun e w' => SplitQ s e ∧ Fr No w w' := by
  rcases hl : s.data.toList with _ | ⟨b, t⟩
  · have Hg : Hid (goodPath s = false) := by unfold Hid goodPath; rw [hl]; rfl
    have h0 : s.toList = [] := by rw [ByteArray.toList_eq, hl]
    clear hl
    go_enter Tryz.func108, Tryz.ntmps108
    go_wp2_with fail
    go_ret2
    exact ⟨⟨.slice none 0 0, by rw [Hg.out]; rfl⟩, Fr.refl _ _⟩
  · have hsz : 0 < s.size := by
      have h1 : s.data.toList.length = s.size := (Lib.size_eq s).symm
      rw [hl] at h1; simp at h1; omega
    have h0 : s.toList.isEmpty = false := by rw [ByteArray.toList_eq, hl]; rfl
    have hb0 := byte0 hl hsz
    by_cases hb : b = 47
    · have h3 : (((s[0]'hsz).toNat : Int) != 47) = false := by rw [hb0, hb]; rfl
      have hp : Lib.hasPrefix s.data.toList [47] = true := by rw [hl, hb]; simp [Lib.hasPrefix]
      have hq : (s.extract 1 s.size).data.toList = t := by rw [Lib.extract_to_end, hl]; rfl
      obtain ⟨q, hqe⟩ : ∃ q, q = s.extract 1 s.size := ⟨_, rfl⟩
      rw [← hqe] at hq
      have hqs : q.size ≤ 1000000 := by
        have h1 : q.data.toList.length = q.size := (Lib.size_eq q).symm
        have h2 : s.data.toList.length = s.size := (Lib.size_eq s).symm
        rw [hq] at h1; rw [hl] at h2; simp at h2; omega
      obtain ⟨P, hP⟩ : ∃ P, P = fparts q := ⟨_, rfl⟩
      have hPs : P = sparts s := by
        rw [hP]; unfold fparts sparts
        rw [hq, hl, hb]
        unfold Lib.trimPrefix
        simp [Lib.hasPrefix]
      have hg : goodPath s = P.all isName := by unfold goodPath; rw [hp, hPs]; rfl
      have hsz1 : ∀ x ∈ P, x.size ≤ maxLen := fun x hx => by rw [hPs] at hx; have := sparts_size s x hx; unfold maxLen; omega
      have hc1 := fparts_len q
      have hs1 : _ = fparts q := split_parts q
      rw [← hP] at hc1 hs1
      have hle1 := Lib.countB_le ⟨#[47]⟩ (by decide) q.size q (Nat.le_refl _)
      have hl1 : P.length ≤ maxLen := by unfold maxLen; omega
      have hl2 : P.length ≤ 2000000 := by omega
      have hsp1 := Tryz.strings_Split q ⟨#[47]⟩ m w (by omega) hm (by decide)
      rw [hs1, hc1] at hsp1
      have hx1 : Fr No w (w.alloc (.cells (P.map Value.string).toArray 9)) := (Fr.refl _ _).alloc _
      have hS1 := Strs.new w P 9 hl1
      obtain ⟨W1, hW1⟩ : ∃ W1, W1 = w.alloc (.cells (P.map Value.string).toArray 9) := ⟨_, rfl⟩
      rw [← hW1] at hsp1 hx1 hS1
      have Hg := Lib.hid hg
      have Hqe := Lib.hid hqe.symm
      have Hx1 := Lib.hid hx1
      clear hl hb hb0 hp hq hqe hP hPs hg hc1 hs1 hle1 hl1 hW1 hx1 hm
      go_enter Tryz.func108, Tryz.ntmps108
      go_wp2_with fail
      rw [Hqe.out]
      refine hsp1.mono ?_
      rintro e w1 ⟨rfl, rfl⟩
      clear hsp1 h3 h0 Hqe
      go_wp2_with fail
      go_loopw [5] (fun i wr => ∃ k : Nat, k ≤ P.length ∧ i = .int .i64 (k : Int) ∧ Hid ((P.take k).all isName = true) ∧ Fr No w wr ∧ Strs wr (some ⟨w.heap.size, 0, none⟩) P.length P) (fun i _ => P.length - (intOf i).toNat)
      case atStart => exact ⟨0, by omega, rfl, by unfold Hid; simp, Hx1.out, hS1⟩
      case round =>
        obtain ⟨k, hk, rfl, hno, hfr, hSr⟩ := hrel
        by_cases hlt : k < P.length
        · have hlt' : (k : Int) < P.length := by omega
          obtain ⟨xb, xo, x, e1, hx, hc⟩ := hSr.at hlt
          cases e1
          rw [Nat.zero_add] at hc
          have hxs := hsz1 x (List.mem_of_getElem? hx)
          have Htk : Hid (P.take (k + 1) = P.take k ++ [x]) := by unfold Hid; rw [List.take_add_one, hx]; rfl
          have Hmem := Lib.hid (List.mem_of_getElem? hx)
          have hv := v_valid x wr hxs
          clear hx
          go_wp2_with fail
          refine hv.mono ?_
          rintro e w3 ⟨rfl, rfl⟩
          clear hc hv
          cases hp : isName x
          · have Hr : Hid (goodPath s = false) := by unfold Hid; rw [Hg.out, List.all_eq_false]; exact ⟨x, Hmem.out, by rw [hp]; simp⟩
            clear hp
            go_wp2_with fail
            go_ret2
            exact ⟨⟨.slice none 0 0, by rw [Hr.out]; rfl⟩, hfr⟩
          · have Hn : Hid ((P.take (k + 1)).all isName = true) := by unfold Hid; rw [Htk.out, List.all_append, hno.out]; simp [hp]
            clear hp
            go_wp2_with fail
            go_roundw
            case rel => exact ⟨k + 1, by omega, by go_num, Hn, hfr, hSr⟩
            case measure => simp [intOf]; omega
        · have h := hno.out
          rw [List.take_of_length_le (by omega)] at h
          have Hr : Hid (goodPath s = true) := by unfold Hid; rw [Hg.out, h]
          clear h
          go_wp2_with fail
          go_ret2
          exact ⟨⟨.slice (some ⟨w.heap.size, 0, none⟩) P.length P.length, by rw [Hr.out]; rfl⟩, hfr⟩
    · have Hg : Hid (goodPath s = false) := by unfold Hid goodPath; rw [hl]; simp [Lib.hasPrefix]; intro h; exact absurd h.symm hb
      have h3 : (((s[0]'hsz).toNat : Int) != 47) = true := by
        rw [hb0]
        simp only [bne_iff_ne, ne_eq]
        intro e
        exact hb (UInt8.toNat_inj.1 (by have : b.toNat = 47 := by omega
                                        rw [this]; rfl))
      clear hl hb hb0
      go_enter Tryz.func108, Tryz.ntmps108
      go_wp2_with fail
      go_ret2
      exact ⟨⟨.slice none 0 0, by rw [Hg.out]; rfl⟩, Fr.refl _ _⟩
end Go.Proofs.YtbblkknndaoefaaGreatDoor
namespace Go.Proofs.YtbblkknndaoefaaGreatDoor
open Go.RowKit Go.Maps
set_option linter.unusedVariables false

set_option maxRecDepth 100000 in
set_option maxHeartbeats 2000000 in
theorem ref_earlier (p i p' i' : ByteArray) (r s t e r' s' t' e' : Int) (v v' : Value) (m : Int) (w : World) (hs : p.size ≤ 1000000) (ht : p'.size ≤ 1000000) (hm : w.cell? ⟨1, 0, none⟩ = some (.int .i64 m)) :
    Calls Tryz.prog 79 #[.agg #[.string p, .string i, .int .i64 r, .int .i64 s, .int .i64 t, .int .i64 e, v], .agg #[.string p', .string i', .int .i64 r', .int .i64 s', .int .i64 t', .int .i64 e', v']] w fun en w' => en = .returned (.bool (aheadB p r p' r')) ∧ Fr No w w' := by
  have h0 : Fr No w ((w.alloc (.cells #[.string p, .string i, .int .i64 r, .int .i64 s, .int .i64 t, .int .i64 e, v] 58)).alloc (.cells #[.string p', .string i', .int .i64 r', .int .i64 s', .int .i64 t', .int .i64 e', v'] 58)) := ((Fr.refl _ _).alloc _).alloc _
  have q1 := block_alloc1 w (.cells #[.string p, .string i, .int .i64 r, .int .i64 s, .int .i64 t, .int .i64 e, v] 58) (.cells #[.string p', .string i', .int .i64 r', .int .i64 s', .int .i64 t', .int .i64 e', v'] 58)
  have q2 := block_alloc2 w (.cells #[.string p, .string i, .int .i64 r, .int .i64 s, .int .i64 t, .int .i64 e, v] 58) (.cells #[.string p', .string i', .int .i64 r', .int .i64 s', .int .i64 t', .int .i64 e', v'] 58)
  obtain ⟨W0, hW0⟩ : ∃ W0, W0 = (w.alloc (.cells #[.string p, .string i, .int .i64 r, .int .i64 s, .int .i64 t, .int .i64 e, v] 58)).alloc (.cells #[.string p', .string i', .int .i64 r', .int .i64 s', .int .i64 t', .int .i64 e', v'] 58) := ⟨_, rfl⟩
  rw [← hW0] at h0 q1 q2
  have hm0 := h0.cell hm id
  have H0 := Lib.hid h0
  obtain ⟨rb, hrb⟩ : ∃ rb, rb = aheadB p r p' r' := ⟨_, rfl⟩
  rw [← hrb]
  have Hrb := Lib.hid hrb
  have y0 : W0.cell? ⟨w.heap.size, 0, none⟩ = some (.string p) := cell_of_block q1 0
  have y2 : W0.cell? ⟨w.heap.size, 2, none⟩ = some (.int .i64 r) := cell_of_block q1 2
  have z0 : W0.cell? ⟨w.heap.size + 1, 0, none⟩ = some (.string p') := cell_of_block q2 0
  have z2 : W0.cell? ⟨w.heap.size + 1, 2, none⟩ = some (.int .i64 r') := cell_of_block q2 2
  clear h0 hm hrb q1 q2
  go_enter Tryz.func79, Tryz.ntmps79
  go_upto_region 1 with (fail)
  rw [← hW0]
  clear hW0
  by_cases hr : r = r'
  · subst hr
    have hsp := r_split p m W0 hs hm0
    go_wp2_with fail
    refine hsp.mono ?_
    rintro en w1 ⟨⟨v1, rfl⟩, hf1⟩
    have hsp2 := r_split p' m w1 ht (hf1.cell hm0 id)
    have y0' := hf1.cell y0 id
    have z0' := hf1.cell z0 id
    have hm1 := hf1.cell hm0 id
    have Hf1 := Lib.hid (H0.out.step hf1 (fun _ _ h => h))
    clear y0 z0 y2 z2 hf1 hsp hm0
    go_wp2_with fail
    refine hsp2.mono ?_
    rintro en w2 ⟨⟨v2, rfl⟩, hf2⟩
    have y0 := hf2.cell y0' id
    have z0 := hf2.cell z0' id
    have hm2 := hf2.cell hm1 id
    have Hf2 := Lib.hid (Hf1.out.step hf2 (fun _ _ h => h))
    clear y0' z0' hf2 hsp2 hm1
    cases hg1 : goodPath p with
    | true =>
      cases hg2 : goodPath p' with
      | true =>
        have Hv : Hid (rb = decide (cmpN (fparts p) (fparts p') < 0)) := by unfold Hid; rw [Hrb.out, ahead_tt r hg1 hg2]
        have hor := r_order p p' m w2 hs ht hm2
        clear hg1 hg2
        go_wp2_with fail
        refine hor.mono ?_
        rintro en w3 ⟨rfl, hf3⟩
        have Hf3 := Lib.hid (Hf2.out.step hf3 (fun _ _ h => h))
        generalize cmpN (fparts p) (fparts p') = c at *
        clear hf3 hor
        go_wp2_with fail
        go_ret
        exact ⟨by rw [Hv.out]; rfl, Hf3.out⟩
      | false =>
        have Hv : Hid (rb = true) := by unfold Hid; rw [Hrb.out, ahead_tf r hg1 hg2]
        clear hg1 hg2
        go_wp2_with fail
        go_ret
        exact ⟨by rw [Hv.out]; rfl, Hf2.out⟩
    | false =>
      cases hg2 : goodPath p' with
      | true =>
        have Hv : Hid (rb = false) := by unfold Hid; rw [Hrb.out, ahead_ft r hg1 hg2]
        clear hg1 hg2
        go_wp2_with fail
        go_ret
        exact ⟨by rw [Hv.out]; rfl, Hf2.out⟩
      | false =>
        have Hv : Hid (rb = Op.bytesLess p.toList p'.toList) := by unfold Hid; rw [Hrb.out, ahead_ff r hg1 hg2]
        clear hg1 hg2
        go_wp2_with fail
        go_ret
        exact ⟨by rw [Hv.out]; rfl, Hf2.out⟩
  · have hb : (r != r') = true := by simpa using hr
    have Hd : Hid (rb = decide (r < r')) := by unfold Hid; rw [Hrb.out, ahead_ne hr]
    clear hr
    by_cases hlt : r < r'
    · have Hv : Hid (rb = true) := by unfold Hid; rw [Hd.out]; exact decide_eq_true hlt
      go_wp2_with fail
      go_ret
      exact ⟨by rw [Hv.out]; rfl, H0.out⟩
    · have Hv : Hid (rb = false) := by unfold Hid; rw [Hd.out]; exact decide_eq_false hlt
      go_wp2_with fail
      go_ret
      exact ⟨by rw [Hv.out]; rfl, H0.out⟩
end Go.Proofs.YtbblkknndaoefaaGreatDoor
