/- Members, and the best one of each ID. Plain. Blocks and the types of their cells. Members in memory: slices of api.Member that are read, rows of them. Wanted devices in memory: slices of api.Virtual. coldplugref32.In, coldplugmake.SameTexts. SameVirtuals, SameMember, SameMembers on equal lists. slices.Clone of strings. What Open and Asks answer; the laws on it. Plain. -/
import Derived.Test.YtcibciippghooaaGreatDoorZL19
import Derived.Test.YtcibciippghooaaGreatDoorZL4
import Derived.Test.YtcibciippghooaaGreatDoorZL6
namespace Go.Proofs.YtcibciippghooaaGreatDoor
open Go.RowKit
set_option linter.unusedVariables false

/-- A member: its path, ID, round, slot, total, least, and its inner texts with their place. -/
structure Mem where
  p : ByteArray
  i : ByteArray
  r : Int
  s : Int
  t : Int
  e : Int
  a : Option Addr
  l : List ByteArray
  c : Nat
def Mem.vals (m : Mem) : Array Value := #[.string m.p, .string m.i, .int .i64 m.r, .int .i64 m.s, .int .i64 m.t, .int .i64 m.e, .slice m.a m.l.length m.c]
def Mem.v (m : Mem) : Value := .agg m.vals
/-- A member without the place of its inner texts. -/
def Mem.k (m : Mem) : Mem := { m with a := none, c := 0 }
def Mem.zero : Mem := ⟨⟨#[]⟩, ⟨#[]⟩, 0, 0, 0, 0, none, [], 0⟩

/-- m comes ahead of o. -/
def ahead (m o : Mem) : Bool := aheadB m.p m.r o.p o.r
def bestS (g : List UInt8 → Option Mem) (m : Mem) : List UInt8 → Option Mem := fun x =>
  if (m.l.length == 1 && x == kb m.i && (match g x with | none => true | some o => ahead m o)) = true then some m else g x
def best (L : List Mem) : List UInt8 → Option Mem := L.foldl bestS fun _ => none
theorem best_snoc (L : List Mem) (m : Mem) : best (L ++ [m]) = bestS (best L) m := by simp [best, List.foldl_append]
theorem best_nil : best [] = fun _ => none := rfl
theorem bestS_skip {g : List UInt8 → Option Mem} {m : Mem} (h : m.l.length ≠ 1) : bestS g m = g := by
  funext x; unfold bestS; rw [if_neg (by simp [h])]
theorem bestS_keep {g : List UInt8 → Option Mem} {m o : Mem} (hg : g (kb m.i) = some o) (h : ahead m o = false) : bestS g m = g := by
  funext x; unfold bestS
  by_cases e : x = kb m.i
  · subst e; rw [hg]; simp [h]
  · rw [if_neg (by simp [e])]
theorem bestS_take {g : List UInt8 → Option Mem} {m : Mem} (h1 : m.l.length = 1) (h : ∀ o, g (kb m.i) = some o → ahead m o = true) : bestS g m = fun x => if x = kb m.i then some m else g x := by
  funext x; unfold bestS
  by_cases e : x = kb m.i
  · subst e
    rw [if_pos rfl]
    rcases hg : g (kb m.i) with _ | o
    · simp [h1]
    · simp [h1, h o hg]
  · rw [if_neg (by simp [e]), if_neg e]

theorem rev_ind {α : Type} {P : List α → Prop} (h0 : P []) (h1 : ∀ l x, P l → P (l ++ [x])) (l : List α) : P l := by
  have : ∀ l : List α, P l.reverse := by
    intro l
    induction l with
    | nil => exact h0
    | cons x t ih => rw [List.reverse_cons]; exact h1 _ _ ih
  simpa using this l.reverse

theorem bestS_cases (g : List UInt8 → Option Mem) (m : Mem) (x : List UInt8) : (bestS g m x = some m ∧ m.l.length = 1 ∧ x = kb m.i ∧ ∀ o, g x = some o → ahead m o = true) ∨ (bestS g m x = g x ∧ (m.l.length = 1 → x = kb m.i → ∃ o, g x = some o ∧ ahead m o = false)) := by
  by_cases h1 : m.l.length = 1
  · by_cases h2 : x = kb m.i
    · rcases hg : g x with _ | o
      · refine .inl ⟨?_, h1, h2, fun o ho => by cases ho⟩
        unfold bestS; rw [hg]; simp [h1, h2]
      · cases ha : ahead m o with
        | true =>
          refine .inl ⟨?_, h1, h2, fun o' ho => by cases ho; exact ha⟩
          unfold bestS; rw [hg]; simp [h1, h2, ha]
        | false =>
          refine .inr ⟨?_, fun _ _ => ⟨o, rfl, ha⟩⟩
          unfold bestS; rw [hg]; simp [ha]
    · refine .inr ⟨?_, fun _ h => absurd h h2⟩
      unfold bestS; rw [if_neg (by simp [h2])]
  · refine .inr ⟨?_, fun h => absurd h h1⟩
    unfold bestS; rw [if_neg (by simp [h1])]

theorem best_mem (L : List Mem) : ∀ x m, best L x = some m → m ∈ L ∧ m.l.length = 1 ∧ kb m.i = x := by
  refine rev_ind (P := fun L => ∀ x m, best L x = some m → m ∈ L ∧ m.l.length = 1 ∧ kb m.i = x) ?_ ?_ L
  · intro x m h; cases h
  · intro l y ih x m h
    rw [best_snoc] at h
    rcases bestS_cases (best l) y x with ⟨h1, h2, h3, _⟩ | ⟨h1, _⟩
    · rw [h1] at h; cases h
      exact ⟨by simp, h2, h3.symm⟩
    · rw [h1] at h
      obtain ⟨a, b⟩ := ih x m h
      exact ⟨by simp [a], b⟩
theorem best_some (L : List Mem) : ∀ m ∈ L, m.l.length = 1 → ∃ o, best L (kb m.i) = some o := by
  refine rev_ind (P := fun L => ∀ m ∈ L, m.l.length = 1 → ∃ o, best L (kb m.i) = some o) ?_ ?_ L
  · intro m h; cases h
  · intro l y ih m hm h1
    rw [best_snoc]
    rcases bestS_cases (best l) y (kb m.i) with ⟨h2, _⟩ | ⟨h2, h3⟩
    · exact ⟨y, h2⟩
    · rw [h2]
      rcases List.mem_append.1 hm with hm | hm
      · exact ih m hm h1
      · obtain rfl : m = y := by simpa using hm
        obtain ⟨o, ho, _⟩ := h3 h1 rfl
        exact ⟨o, ho⟩
theorem best_some_iff (L : List Mem) (x : List UInt8) : (best L x).isSome = true ↔ ∃ m ∈ L, m.l.length = 1 ∧ kb m.i = x := by
  constructor
  · intro h
    obtain ⟨m, hm⟩ := Option.isSome_iff_exists.1 h
    obtain ⟨h1, h2, h3⟩ := best_mem L x m hm
    exact ⟨m, h1, h2, h3⟩
  · rintro ⟨m, h1, h2, rfl⟩
    obtain ⟨o, ho⟩ := best_some L m h1 h2
    rw [ho]; rfl

/-! ### rounds -/
theorem ahead_round {m o : Mem} (h : ahead m o = true) : m.r ≤ o.r := by
  unfold ahead aheadB at h
  simp only [decide_eq_true_eq] at h
  unfold orI cmpI at h
  by_cases h1 : m.r < o.r
  · omega
  · by_cases h2 : o.r < m.r
    · simp [h1, h2] at h
    · omega
theorem not_ahead_round {m o : Mem} (h : ahead m o = false) : o.r ≤ m.r := by
  unfold ahead aheadB at h
  simp only [decide_eq_false_iff_not] at h
  unfold orI cmpI at h
  by_cases h1 : m.r < o.r
  · simp [h1] at h
  · omega
theorem best_round (L : List Mem) : ∀ m ∈ L, m.l.length = 1 → ∀ o, best L (kb m.i) = some o → o.r ≤ m.r := by
  refine rev_ind (P := fun L => ∀ m ∈ L, m.l.length = 1 → ∀ o, best L (kb m.i) = some o → o.r ≤ m.r) ?_ ?_ L
  · intro m h; cases h
  · intro l y ih m hm h1 o ho
    rw [best_snoc] at ho
    rcases bestS_cases (best l) y (kb m.i) with ⟨h2, h3, h4, h5⟩ | ⟨h2, h3⟩
    · rw [h2] at ho; cases ho
      rcases List.mem_append.1 hm with hm | hm
      · obtain ⟨o', ho'⟩ := best_some l m hm h1
        have h6 := ih m hm h1 o' ho'
        have h7 := ahead_round (h5 o' ho')
        omega
      · obtain rfl : m = y := by simpa using hm
        omega
    · rw [h2] at ho
      rcases List.mem_append.1 hm with hm | hm
      · exact ih m hm h1 o ho
      · obtain rfl : m = y := by simpa using hm
        obtain ⟨o', ho', h6⟩ := h3 h1 rfl
        rw [ho] at ho'; cases ho'
        exact not_ahead_round h6

/-! ### the IDs -/
/-- ids are the IDs of L, ascending. -/
structure IsIds (L : List Mem) (ids : List ByteArray) : Prop where
  asc : AscS (ids.map kb)
  mem : ∀ x : ByteArray, x ∈ ids ↔ (best L (kb x)).isSome = true
theorem map_kb_inj : ∀ {l l' : List ByteArray}, l.map kb = l'.map kb → l = l'
  | [], [], _ => rfl
  | [], _ :: _, h => by simp at h
  | _ :: _, [], h => by simp at h
  | x :: s, y :: t, h => by
    simp only [List.map_cons, List.cons.injEq] at h
    rw [kb_inj h.1, map_kb_inj h.2]
theorem mem_kb {l : List ByteArray} {x : List UInt8} : x ∈ l.map kb ↔ bk x ∈ l := by
  constructor
  · intro h
    obtain ⟨y, hy, rfl⟩ := List.mem_map.1 h
    rwa [bk_kb]
  · intro h
    exact List.mem_map.2 ⟨_, h, kb_bk x⟩
theorem IsIds.unique {L L' : List Mem} {ids ids' : List ByteArray} (h : IsIds L ids) (h' : IsIds L' ids') (hL : ∀ x, (best L x).isSome = (best L' x).isSome) : ids = ids' := by
  refine map_kb_inj (AscS.ext h.asc h'.asc fun x => ?_)
  rw [mem_kb, mem_kb, h.mem, h'.mem, hL]
/-- The members to which those of L belong. -/
def own1 (L : List Mem) (ids : List ByteArray) : List Mem := ids.map fun x => ((best L (kb x)).getD Mem.zero).k
end Go.Proofs.YtcibciippghooaaGreatDoor
namespace Go.Proofs.YtcibciippghooaaGreatDoor
open Go.RowKit Go.Maps
set_option linter.unusedVariables false

theorem Strs.keep {X W : World} {a : Option Addr} {cap : Nat} {l : List ByteArray} {S : Nat → Prop} (h : Strs X a cap l) (hf : Fr S X W) (hS : ∀ b, b < X.heap.size → ¬ S b) : Strs W a cap l :=
  h.fr hf (fun ad e hne => hS _ (h.cell ad e hne).2.1)

/-- A slice's block holds cells of a type. -/
def BlkT (w : World) (a : Option Addr) (T : TypeId) : Prop := ∀ ad, a = some ad → ∃ cs, w.heap[ad.block]? = some (.cells cs T (0, 0))
theorem BlkT.none (w : World) (T : TypeId) : BlkT w none T := fun _ e => by cases e
theorem own_typ {w : World} {base : Nat} {e : TypeId} {size : Nat} {a : Option Addr} {n m c : Nat} {xs : List Value} (h : w.ownsRow base e size (.slice a n c) m xs) : BlkT w a e := by
  obtain ⟨_, ⟨h1, _⟩ | ⟨g, cap, cur, h1, hg, hb, _⟩⟩ := h
  · cases h1; exact BlkT.none _ _
  · cases h1; exact fun ad e => by cases e; exact ⟨cur, hb⟩
/-- What lies in blocks of another type than the own row's block is not touched by what writes that block. -/
theorem BlkT.fr {S : Nat → Prop} {w w' : World} {a : Option Addr} {T : TypeId} (h : BlkT w a T) (hf : Fr S w w') (hS : ∀ ad, a = some ad → ¬ S ad.block) : BlkT w' a T := fun ad e => by
  obtain ⟨cs, hc⟩ := h ad e
  exact ⟨cs, hf.heap hc (hS ad e)⟩
theorem BlkT.ne {w : World} {base : Nat} {e T : TypeId} {size : Nat} {v : Value} {n : Nat} {xs : List Value} (ho : w.ownsRow base e size v n xs) {a : Option Addr} (h : BlkT w a T) (hne : T ≠ e) : ∀ ad, a = some ad → ¬ v.ownBlock = some ad.block := by
  intro ad e' hb
  obtain ⟨cs, hc⟩ := h ad e'
  obtain ⟨_, ⟨rfl, _⟩ | ⟨g, cap, cur, rfl, hg, hbl, _⟩⟩ := ho
  · cases hb
  · cases hb
    rw [hc] at hbl
    cases hbl
    exact hne rfl
theorem ownsRow_at {w w1 : World} {base : Nat} {e : TypeId} {size : Nat} {v : Value} {n : Nat} {xs : List Value} (h : w.ownsRow base e size v n xs) {S : Nat → Prop} (hf : Fr S w w1) (hS : ∀ b, v.ownBlock = some b → ¬ S b) : w1.ownsRow base e size v n xs := by
  obtain ⟨h0, ⟨rfl, h2⟩ | ⟨g, cap, cur, rfl, hg, hb, h1, h2, h3, h4⟩⟩ := h
  · exact ⟨h0, .inl ⟨rfl, h2⟩⟩
  · exact ⟨h0, .inr ⟨g, cap, cur, rfl, hg, hf.heap hb (hS g rfl), h1, h2, h3, h4⟩⟩
end Go.Proofs.YtcibciippghooaaGreatDoor
namespace Go.Proofs.YtcibciippghooaaGreatDoor
open Go.RowKit Go.Maps
set_option linter.unusedVariables false

structure Mems (w : World) (a : Option Addr) (cap : Nat) (L : List Mem) : Prop where
  len : L.length ≤ cap
  max : cap ≤ maxLen
  isNil : a = none → L = [] ∧ cap = 0
  ok : ∀ m ∈ L, Strs w m.a m.c m.l
  cell : ∀ ad, a = some ad → L ≠ [] → ad.spot = none ∧ ad.block < w.heap.size ∧ ∀ i m, L[i]? = some m → ∀ j, j < 7 → w.cell? ⟨ad.block, ad.off + (i * 7 + j), none⟩ = m.vals[j]?
/-- The seven cells of a member at (b, o). -/
structure MemAt (w : World) (b o : Nat) (m : Mem) : Prop where
  c0 : w.cell? ⟨b, o, none⟩ = some (.string m.p)
  c1 : w.cell? ⟨b, o + 1, none⟩ = some (.string m.i)
  c2 : w.cell? ⟨b, o + 2, none⟩ = some (.int .i64 m.r)
  c3 : w.cell? ⟨b, o + 3, none⟩ = some (.int .i64 m.s)
  c4 : w.cell? ⟨b, o + 4, none⟩ = some (.int .i64 m.t)
  c5 : w.cell? ⟨b, o + 5, none⟩ = some (.int .i64 m.e)
  c6 : w.cell? ⟨b, o + 6, none⟩ = some (.slice m.a m.l.length m.c)
theorem Mems.elem {w : World} {a : Option Addr} {cap : Nat} {L : List Mem} (h : Mems w a cap L) {k : Nat} (hk : k < L.length) :
    ∃ b off m, a = some ⟨b, off, none⟩ ∧ L[k]? = some m ∧ Strs w m.a m.c m.l ∧ MemAt w b (off + k * 7) m ∧ b < w.heap.size := by
  cases a with
  | none => obtain ⟨rfl, _⟩ := h.isNil rfl; simp at hk
  | some ad =>
    obtain ⟨b, off, sp⟩ := ad
    obtain ⟨h1, h2, h3⟩ := h.cell _ rfl (by intro e; subst e; simp at hk)
    simp at h1; subst h1
    have hc := h3 k _ (List.getElem?_eq_getElem hk)
    exact ⟨b, off, L[k], rfl, List.getElem?_eq_getElem hk, h.ok _ (List.getElem_mem hk), ⟨hc 0 (by omega), hc 1 (by omega), hc 2 (by omega), hc 3 (by omega), hc 4 (by omega), hc 5 (by omega), hc 6 (by omega)⟩, h2⟩
theorem Mems.lenmax {w : World} {a : Option Addr} {cap : Nat} {L : List Mem} (h : Mems w a cap L) : L.length ≤ 9223372036854775807 := by
  have h1 := h.len; have h2 := h.max; unfold maxLen at h2; omega
theorem Mems.fr {S : Nat → Prop} {w w' : World} {a : Option Addr} {cap : Nat} {L : List Mem} (h : Mems w a cap L) (hf : Fr S w w') (hS : ∀ ad, a = some ad → L ≠ [] → ¬ S ad.block) (hM : ∀ m ∈ L, ∀ ad, m.a = some ad → m.l ≠ [] → ¬ S ad.block) : Mems w' a cap L :=
  ⟨h.len, h.max, h.isNil, fun m hm => (h.ok m hm).fr hf (hM m hm), fun ad e hne => by
    obtain ⟨h1, h2, h3⟩ := h.cell ad e hne
    refine ⟨h1, Nat.lt_of_lt_of_le h2 hf.size, fun i m hi j hj => ?_⟩
    rw [← h3 i m hi j hj]
    exact World.cell?_of_block (hf.block _ h2 (hS ad e hne))⟩
theorem Mems.no {S : Nat → Prop} {w w' : World} {a : Option Addr} {cap : Nat} {L : List Mem} (h : Mems w a cap L) (hf : Fr S w w') (hS : ∀ k, ¬ S k) : Mems w' a cap L := h.fr hf (fun _ _ _ => hS _) (fun _ _ _ _ _ => hS _)
theorem Mems.keep {S : Nat → Prop} {w w' : World} {a : Option Addr} {cap : Nat} {L : List Mem} (h : Mems w a cap L) (hf : Fr S w w') (hS : ∀ b, b < w.heap.size → ¬ S b) : Mems w' a cap L :=
  h.fr hf (fun ad e hne => hS _ (h.cell ad e hne).2.1) (fun m hm ad e hne => hS _ ((h.ok m hm).cell ad e hne).2.1)
theorem Mems.nil (w : World) : Mems w none 0 [] := ⟨by simp, by simp, fun _ => ⟨rfl, rfl⟩, by simp, fun _ e _ => by cases e⟩
theorem infoM : (Tryz.prog.info? 31).map (fun i => (i.zero, i.size, i.bytes)) = some (some (.agg #[.string ByteArray.empty, .string ByteArray.empty, .int .i64 0, .int .i64 0, .int .i64 0, .int .i64 0, .slice none 0 0]), 7, 88) := by kernel_rfl
def mflat (L : List Mem) : List Value := L.flatMap (fun m => m.vals.toList)
theorem mflat_snoc (L : List Mem) (m : Mem) : mflat (L ++ [m]) = mflat L ++ m.vals.toList := by simp [mflat]
theorem mvals_one (m : Mem) : ∀ u ∈ m.vals.toList, u.oneCell' = true := by
  intro u hu
  simp [Mem.vals] at hu
  rcases hu with rfl | rfl | rfl | rfl | rfl | rfl | rfl <;> rfl
theorem mflat_at : ∀ (L : List Mem) (i : Nat) (m : Mem), L[i]? = some m → ∀ j, j < 7 → (mflat L)[i * 7 + j]? = m.vals[j]?
  | [], i, m, h, j, hj => by simp at h
  | x :: t, 0, m, h, j, hj => by
    simp at h; subst h
    have : mflat (x :: t) = x.vals.toList ++ mflat t := by simp [mflat]
    rw [this, List.getElem?_append_left (by simp [Mem.vals]; omega)]
    simp
  | x :: t, i + 1, m, h, j, hj => by
    have : mflat (x :: t) = x.vals.toList ++ mflat t := by simp [mflat]
    rw [this, List.getElem?_append_right (by simp [Mem.vals]; omega), show (i + 1) * 7 + j - x.vals.toList.length = i * 7 + j from by simp [Mem.vals]; omega]
    exact mflat_at t i m (by simpa using h) j hj
theorem mflat_len (L : List Mem) : (mflat L).length = L.length * 7 := by
  induction L with
  | nil => rfl
  | cons d t ih =>
    have : mflat (d :: t) = d.vals.toList ++ mflat t := by simp [mflat]
    rw [this, List.length_append, ih]
    simp [Mem.vals]; omega
theorem Mems.of_own {w : World} {base : Nat} {e : TypeId} {v : Value} {L : List Mem} (h : w.ownsRow base e 7 v L.length (mflat L)) (hok : ∀ m ∈ L, Strs w m.a m.c m.l) :
    ∃ a cap, v = .slice a L.length cap ∧ Mems w a cap L ∧ ∀ ad, a = some ad → base ≤ ad.block := by
  obtain ⟨_, ⟨rfl, h2⟩ | ⟨g, cap, cur, rfl, hg, hb, h1, h2, h3, h4⟩⟩ := h
  · have : L = [] := List.eq_nil_of_length_eq_zero h2
    subst this
    exact ⟨none, 0, rfl, Mems.nil w, fun _ e => by cases e⟩
  · refine ⟨some ⟨g, 0, none⟩, cap, rfl, ⟨h1, h2, (fun e => by cases e), hok, ?_⟩, fun ad e => by cases e; exact hg⟩
    intro ad e hne
    cases e
    refine ⟨rfl, lt_of_block hb, fun i m hi j hj => ?_⟩
    rw [cell_of_block hb]
    simp only [Nat.zero_add]
    have hlt : i < L.length := (List.getElem?_eq_some_iff.1 hi).1
    have e1 : (cur.toList.take (L.length * 7))[i * 7 + j]? = (mflat L)[i * 7 + j]? := by rw [h4]
    rw [List.getElem?_take_of_lt (by omega), mflat_at L i m hi j hj] at e1
    rw [← Array.getElem?_toList, e1]
theorem Mems.of_block {w : World} {b : Nat} {L : List Mem} {T : TypeId} {fz : Nat × Nat} (h : w.heap[b]? = some (.cells (mflat L).toArray T fz)) (hm : L.length ≤ maxLen) (hok : ∀ m ∈ L, Strs w m.a m.c m.l) : Mems w (some ⟨b, 0, none⟩) L.length L := by
  refine ⟨Nat.le_refl _, hm, (fun e => by cases e), hok, fun ad e hne => ?_⟩
  cases e
  refine ⟨rfl, lt_of_block h, fun i m hi j hj => ?_⟩
  rw [cell_of_block h]
  simp only [Nat.zero_add]
  rw [← mflat_at L i m hi j hj]
  simp
/-- Members of the call's own: their inner texts lie in new blocks of texts. -/
def MFresh (w : World) (base : Nat) (L : List Mem) : Prop := ∀ m ∈ L, Strs w m.a m.c m.l ∧ BlkT w m.a 9 ∧ ∀ ad, m.a = some ad → base ≤ ad.block
theorem MFresh.fr {S : Nat → Prop} {w w' : World} {base : Nat} {L : List Mem} (h : MFresh w base L) (hf : Fr S w w') (hS : ∀ b, base ≤ b → b < w.heap.size → ¬ S b) : MFresh w' base L := fun m hm => by
  obtain ⟨h1, h2, h3⟩ := h m hm
  have hk : ∀ ad, m.a = some ad → ¬ S ad.block := fun ad e => by obtain ⟨cs, hc⟩ := h2 ad e; exact hS _ (h3 ad e) (lt_of_block hc)
  exact ⟨h1.fr hf (fun ad e _ => hk ad e), h2.fr hf hk, h3⟩
theorem MFresh.own {w w' : World} {base b0 : Nat} {L : List Mem} {v : Value} {n : Nat} {xs : List Value} (h : MFresh w base L) (ho : w.ownsRow b0 31 7 v n xs) (hf : Fr (fun b => v.ownBlock = some b) w w') : MFresh w' base L := fun m hm => by
  obtain ⟨h1, h2, h3⟩ := h m hm
  have hk := BlkT.ne ho h2 (by decide)
  exact ⟨h1.fr hf (fun ad e _ => hk ad e), h2.fr hf hk, h3⟩
theorem MFresh.snoc {w : World} {base : Nat} {L : List Mem} {m : Mem} (h : MFresh w base L) (h1 : Strs w m.a m.c m.l) (h2 : BlkT w m.a 9) (h3 : ∀ ad, m.a = some ad → base ≤ ad.block) : MFresh w base (L ++ [m]) := fun x hx => by
  rcases List.mem_append.1 hx with hx | hx
  · exact h x hx
  · obtain rfl : x = m := by simpa using hx
    exact ⟨h1, h2, h3⟩
end Go.Proofs.YtcibciippghooaaGreatDoor
namespace Go.Proofs.YtcibciippghooaaGreatDoor
open Go.RowKit Go.Maps
set_option linter.unusedVariables false

structure Vir where
  q : ByteArray
  o : ByteArray
  c : ByteArray
  r : Int
def Vir.vals (v : Vir) : Array Value := #[.string v.q, .string v.o, .string v.c, .int .i64 v.r]
structure Virs (w : World) (a : Option Addr) (cap : Nat) (L : List Vir) : Prop where
  len : L.length ≤ cap
  max : cap ≤ maxLen
  isNil : a = none → L = [] ∧ cap = 0
  cell : ∀ ad, a = some ad → L ≠ [] → ad.spot = none ∧ ad.block < w.heap.size ∧ ∀ i m, L[i]? = some m → ∀ j, j < 4 → w.cell? ⟨ad.block, ad.off + (i * 4 + j), none⟩ = m.vals[j]?
/-- The four cells of a wanted device at (b, o). -/
structure VirAt (w : World) (b o : Nat) (m : Vir) : Prop where
  c0 : w.cell? ⟨b, o, none⟩ = some (.string m.q)
  c1 : w.cell? ⟨b, o + 1, none⟩ = some (.string m.o)
  c2 : w.cell? ⟨b, o + 2, none⟩ = some (.string m.c)
  c3 : w.cell? ⟨b, o + 3, none⟩ = some (.int .i64 m.r)
theorem Virs.elem {w : World} {a : Option Addr} {cap : Nat} {L : List Vir} (h : Virs w a cap L) {k : Nat} (hk : k < L.length) :
    ∃ b off m, a = some ⟨b, off, none⟩ ∧ L[k]? = some m ∧ VirAt w b (off + k * 4) m ∧ b < w.heap.size := by
  cases a with
  | none => obtain ⟨rfl, _⟩ := h.isNil rfl; simp at hk
  | some ad =>
    obtain ⟨b, off, sp⟩ := ad
    obtain ⟨h1, h2, h3⟩ := h.cell _ rfl (by intro e; subst e; simp at hk)
    simp at h1; subst h1
    have hc := h3 k _ (List.getElem?_eq_getElem hk)
    exact ⟨b, off, L[k], rfl, List.getElem?_eq_getElem hk, ⟨hc 0 (by omega), hc 1 (by omega), hc 2 (by omega), hc 3 (by omega)⟩, h2⟩
theorem Virs.lenmax {w : World} {a : Option Addr} {cap : Nat} {L : List Vir} (h : Virs w a cap L) : L.length ≤ 9223372036854775807 := by
  have h1 := h.len; have h2 := h.max; unfold maxLen at h2; omega
theorem Virs.fr {S : Nat → Prop} {w w' : World} {a : Option Addr} {cap : Nat} {L : List Vir} (h : Virs w a cap L) (hf : Fr S w w') (hS : ∀ ad, a = some ad → L ≠ [] → ¬ S ad.block) : Virs w' a cap L :=
  ⟨h.len, h.max, h.isNil, fun ad e hne => by
    obtain ⟨h1, h2, h3⟩ := h.cell ad e hne
    refine ⟨h1, Nat.lt_of_lt_of_le h2 hf.size, fun i m hi j hj => ?_⟩
    rw [← h3 i m hi j hj]
    exact World.cell?_of_block (hf.block _ h2 (hS ad e hne))⟩
theorem Virs.no {S : Nat → Prop} {w w' : World} {a : Option Addr} {cap : Nat} {L : List Vir} (h : Virs w a cap L) (hf : Fr S w w') (hS : ∀ k, ¬ S k) : Virs w' a cap L := h.fr hf (fun _ _ _ => hS _)
theorem Virs.nil (w : World) : Virs w none 0 [] := ⟨by simp, by simp, fun _ => ⟨rfl, rfl⟩, fun _ e _ => by cases e⟩
theorem infoV : (Tryz.prog.info? 42).map (fun i => (i.zero, i.size, i.bytes)) = some (some (.agg #[.string ByteArray.empty, .string ByteArray.empty, .string ByteArray.empty, .int .i64 0]), 4, 56) := by kernel_rfl
def vflat (L : List Vir) : List Value := L.flatMap (fun m => m.vals.toList)
theorem vflat_snoc (L : List Vir) (m : Vir) : vflat (L ++ [m]) = vflat L ++ m.vals.toList := by simp [vflat]
theorem vvals_one (m : Vir) : ∀ u ∈ m.vals.toList, u.oneCell' = true := by
  intro u hu
  simp [Vir.vals] at hu
  rcases hu with rfl | rfl | rfl | rfl <;> rfl
theorem vflat_at : ∀ (L : List Vir) (i : Nat) (m : Vir), L[i]? = some m → ∀ j, j < 4 → (vflat L)[i * 4 + j]? = m.vals[j]?
  | [], i, m, h, j, hj => by simp at h
  | x :: t, 0, m, h, j, hj => by
    simp at h; subst h
    have : vflat (x :: t) = x.vals.toList ++ vflat t := by simp [vflat]
    rw [this, List.getElem?_append_left (by simp [Vir.vals]; omega)]
    simp
  | x :: t, i + 1, m, h, j, hj => by
    have : vflat (x :: t) = x.vals.toList ++ vflat t := by simp [vflat]
    rw [this, List.getElem?_append_right (by simp [Vir.vals]; omega), show (i + 1) * 4 + j - x.vals.toList.length = i * 4 + j from by simp [Vir.vals]; omega]
    exact vflat_at t i m (by simpa using h) j hj
theorem Virs.of_own {w : World} {base : Nat} {e : TypeId} {v : Value} {L : List Vir} (h : w.ownsRow base e 4 v L.length (vflat L)) :
    ∃ a cap, v = .slice a L.length cap ∧ Virs w a cap L ∧ ∀ ad, a = some ad → base ≤ ad.block := by
  obtain ⟨_, ⟨rfl, h2⟩ | ⟨g, cap, cur, rfl, hg, hb, h1, h2, h3, h4⟩⟩ := h
  · have : L = [] := List.eq_nil_of_length_eq_zero h2
    subst this
    exact ⟨none, 0, rfl, Virs.nil w, fun _ e => by cases e⟩
  · refine ⟨some ⟨g, 0, none⟩, cap, rfl, ⟨h1, h2, (fun e => by cases e), ?_⟩, fun ad e => by cases e; exact hg⟩
    intro ad e hne
    cases e
    refine ⟨rfl, lt_of_block hb, fun i m hi j hj => ?_⟩
    rw [cell_of_block hb]
    simp only [Nat.zero_add]
    have hlt : i < L.length := (List.getElem?_eq_some_iff.1 hi).1
    have e1 : (cur.toList.take (L.length * 4))[i * 4 + j]? = (vflat L)[i * 4 + j]? := by rw [h4]
    rw [List.getElem?_take_of_lt (by omega), vflat_at L i m hi j hj] at e1
    rw [← Array.getElem?_toList, e1]
end Go.Proofs.YtcibciippghooaaGreatDoor
namespace Go.Proofs.YtcibciippghooaaGreatDoor
open Go.RowKit Go.Maps
set_option linter.unusedVariables false

def hasS (l : List ByteArray) (s : ByteArray) : Bool := l.any fun x => x.toList == s.toList
def IdxS (l : List ByteArray) (s : ByteArray) (e : Ending) : Prop := ∃ i : Int, e = .returned (.int .i64 i) ∧ decide (0 ≤ i) = hasS l s

theorem hasS_at {l : List ByteArray} {s : ByteArray} {k : Nat} {x : ByteArray} (h : l[k]? = some x) (h2 : (x.toList == s.toList) = true) : hasS l s = true := by
  unfold hasS; rw [List.any_eq_true]; exact ⟨x, List.mem_of_getElem? h, h2⟩
theorem hasS_no {l : List ByteArray} {s : ByteArray} (h : ∀ x ∈ l, (x.toList == s.toList) = false) : hasS l s = false := by
  unfold hasS; rw [List.any_eq_false]; intro x hx; simp [h x hx]

def sameT (l l' : List ByteArray) : Bool := decide (l.map (·.toList) = l'.map (·.toList))

set_option maxHeartbeats 1000000 in
theorem same_texts (a a' : Option Addr) (cap cap' : Nat) (l l' : List ByteArray) (w : World) (hl : Strs w a cap l) (hl' : Strs w a' cap' l') :
    Calls Tryz.prog 21 #[.slice a l.length cap, .slice a' l'.length cap'] w fun e w' => e = .returned (.bool (sameT l l')) ∧ Fr No w w' := by
  have hm := hl.lenmax
  have hm' := hl'.lenmax
  by_cases hlen : l.length = l'.length
  · have hlb : ((l.length : Int) != l'.length) = false := by simp [hlen]
    have Hlen := Lib.hid hlen
    clear hlen
    go_enter Tryz.func21, Tryz.ntmps21
    go_wp2_with fail
    go_loopw [5] (fun i wr => ∃ k : Nat, k ≤ l.length ∧ i = .int .i64 (k : Int) ∧ Hid ((l.take k).map (·.toList) = (l'.take k).map (·.toList)) ∧ Fr No w wr) (fun i _ => l.length - (intOf i).toNat)
    case atStart => exact ⟨0, by omega, rfl, by unfold Hid; simp, Fr.refl _ _⟩
    case round =>
      obtain ⟨k, hk, rfl, hp, hf⟩ := hrel
      by_cases hlt : k < l.length
      · have hlt1 : (k : Int) < l.length := by omega
        have hlt2 : (k : Int) < l'.length := by have := Hlen.out; omega
        have hlt3 : k < l'.length := by omega
        go_wp2_with fail
        refine region_sig No [(0, false), (1, false), (2, false), (3, false), (4, false), (5, false), (6, false), (7, false), (8, false)] (by kernel_rfl) (by kernel_rfl) (fun w0 hf0 => ?_)
        have hf1 := hf.step hf0 (fun _ _ h => h)
        obtain ⟨b, off, x, rfl, hx, c0⟩ := (hl.no hf1 (fun _ => id)).at hlt
        obtain ⟨b', off', x', rfl, hx', c1⟩ := (hl'.no hf1 (fun _ => id)).at hlt3
        have g0 : ∀ g : Gr No w0, g.W.cell? ⟨b, off + k, none⟩ = some (.string x) := fun g => g.fr.cell c0 id
        have g1 : ∀ g : Gr No w0, g.W.cell? ⟨b', off' + k, none⟩ = some (.string x') := fun g => g.fr.cell c1 id
        have Hx := Lib.hid hx
        have Hx' := Lib.hid hx'
        clear c0 c1 hx hx'
        repeat (apply sig_q; exact rfl; exact rfl; exact rfl; intro K hK; go_big_quiet_op; go_big_quiet_on)
        refine sig_end ?_
        rcases he : (x.toList == x'.toList) with _ | _
        · have Hs : Hid (sameT l l' = false) := by
            unfold Hid sameT
            rw [decide_eq_false_iff_not]
            intro h
            have h1 : (l.map (·.toList))[k]? = (l'.map (·.toList))[k]? := by rw [h]
            rw [List.getElem?_map, List.getElem?_map, Hx.out, Hx'.out] at h1
            simp at h1
            rw [h1] at he
            simp at he
          go_wp2_with fail
          go_ret
          exact ⟨ret_bool Hs.out.symm, hf1⟩
        · have He := Lib.hid he
          go_wp2_with fail
          go_roundw
          case rel =>
            refine ⟨k + 1, by omega, by go_num, ?_, hf1⟩
            unfold Hid
            rw [List.take_add_one, List.take_add_one, Hx.out, Hx'.out, List.map_append, List.map_append, hp.out]
            have := He.out
            simp at this
            simp [this]
          case measure => simp [intOf]; omega
      · obtain rfl : k = l.length := by omega
        have Hs : Hid (sameT l l' = true) := by
          unfold Hid sameT
          have h := hp.out
          rw [List.take_length, Hlen.out, List.take_length] at h
          simpa using h
        go_wp2_with fail
        go_ret
        exact ⟨ret_bool Hs.out.symm, hf⟩
  · have hlb : ((l.length : Int) != l'.length) = true := by simp; omega
    have Hs : Hid (sameT l l' = false) := by
      unfold Hid sameT
      rw [decide_eq_false_iff_not]
      intro h
      have := congrArg List.length h
      simp at this
      exact hlen this
    clear hlen
    go_enter Tryz.func21, Tryz.ntmps21
    go_wp2_with fail
    go_ret
    exact ⟨ret_bool Hs.out.symm, Fr.refl _ _⟩
end Go.Proofs.YtcibciippghooaaGreatDoor
namespace Go.Proofs.YtcibciippghooaaGreatDoor
open Go.RowKit Go.Maps
set_option linter.unusedVariables false

theorem sameT_self (l : List ByteArray) : sameT l l = true := by unfold sameT; simp
set_option maxRecDepth 100000 in
set_option maxHeartbeats 2000000 in
theorem same_member_eq (p i : ByteArray) (r s t e : Int) (a a' : Option Addr) (l : List ByteArray) (c c' : Nat) (w : World) (hS : Strs w a c l) (hS' : Strs w a' c' l) :
    Calls Tryz.prog 11 #[.agg #[.string p, .string i, .int .i64 r, .int .i64 s, .int .i64 t, .int .i64 e, .slice a l.length c], .agg #[.string p, .string i, .int .i64 r, .int .i64 s, .int .i64 t, .int .i64 e, .slice a' l.length c']] w fun en w' => en = .returned (.bool true) ∧ Fr No w w' := by
  have hx : Fr No w ((w.alloc (.cells #[.string p, .string i, .int .i64 r, .int .i64 s, .int .i64 t, .int .i64 e, .slice a l.length c] 31)).alloc (.cells #[.string p, .string i, .int .i64 r, .int .i64 s, .int .i64 t, .int .i64 e, .slice a' l.length c'] 31)) := ((Fr.refl _ _).alloc _).alloc _
  have hst := same_texts a a' c c' l l _ (hS.no hx (fun _ => id)) (hS'.no hx (fun _ => id))
  rw [sameT_self] at hst
  have Hx := Lib.hid hx
  clear hx hS hS'
  go_enter Tryz.func11, Tryz.ntmps11
  go_wp2_with fail
  refine hst.mono ?_
  rintro en w1 ⟨rfl, hf1⟩
  have hfin := Hx.out.step hf1 (fun _ _ h => h)
  clear hst hf1
  go_wp2_with fail
  go_ret
  exact ⟨rfl, hfin⟩

theorem mem_k {m m' : Mem} (h : m.k = m'.k) : m' = { m with a := m'.a, c := m'.c } := by
  cases m; cases m'
  simp only [Mem.k, Mem.mk.injEq] at h ⊢
  obtain ⟨h1, h2, h3, h4, h5, h6, _, h8, _⟩ := h
  exact ⟨h1.symm, h2.symm, h3.symm, h4.symm, h5.symm, h6.symm, trivial, h8.symm, trivial⟩
end Go.Proofs.YtcibciippghooaaGreatDoor
namespace Go.Proofs.YtcibciippghooaaGreatDoor
open Go.RowKit Go.Maps
set_option linter.unusedVariables false
theorem eql_nilS (W : World) (a : Option Addr) (n c : Nat) : (binOp .eql 27 (.slice a n c) (.slice none 0 0)).run Tryz.prog W = .ok (.bool a.isNone) W := Lib.run_eql_slice_nil W 27 9 a n c 0 0 Tryz.underlying27
theorem Strs.src' {W : World} {a : Option Addr} {cap : Nat} {l : List ByteArray} (h : Strs W a cap l) : ∀ ad, a = some ad → ∀ j u, (l.map Value.string)[j]? = some u → W.cell? (ad.add j) = some u := by
  intro ad e j u hu
  rw [List.getElem?_map] at hu
  obtain ⟨x, hx, rfl⟩ := Option.map_eq_some_iff.1 hu
  obtain ⟨h1, _, h3⟩ := h.cell ad e (by intro e; subst e; simp at hx)
  obtain ⟨b, o, sp⟩ := ad
  simp only at h1; subst h1
  rw [Addr.add_lit]
  exact h3 j x hx
set_option maxRecDepth 100000 in
set_option maxHeartbeats 1000000 in
theorem strs_clone (a : Option Addr) (cap : Nat) (l : List ByteArray) (w : World) (hl : Strs w a cap l) (hb : l.length ≤ 1000000) :
    Calls Tryz.prog 41 #[.slice a l.length cap] w fun e w' => (∃ a' c', e = .returned (.slice a' l.length c') ∧ Strs w' a' c' l ∧ BlkT w' a' 9 ∧ ∀ ad, a' = some ad → w.heap.size ≤ ad.block) ∧ Fr No w w' := by
  obtain ⟨i0, hi, hz0, hz1, hz2⟩ := info_parts infoS
  cases a with
  | none =>
    obtain ⟨rfl, rfl⟩ := hl.isNil rfl
    have hq := eql_nilS
    go_enter Tryz.func41, Tryz.ntmps41
    go_wp2_with fail
    go_ret
    exact ⟨⟨none, 0, rfl, Strs.nil _, BlkT.none _ _, fun _ e => by cases e⟩, Fr.refl _ _⟩
  | some ad =>
    have hx : Fr No w (w.alloc (.cells #[] 9)) := (Fr.refl _ _).alloc _
    have hlx := hl.no hx (fun _ => id)
    have hq := eql_nilS
    go_enter Tryz.func41, Tryz.ntmps41
    have own0 : (w.alloc (.cells #[] 9)).ownsRow w.heap.size 9 1 (.slice (some ⟨w.heap.size, 0, none⟩) 0 0) 0 [] :=
      ⟨rfl, .inr ⟨w.heap.size, 0, #[], rfl, Nat.le_refl _, block_alloc _ _, Nat.le_refl _, by unfold maxLen; omega, rfl, rfl⟩⟩
    go_wp2_with (at_builtin; refine wpList_append_src rfl _ _ 27 rfl w.heap.size 9 i0 (.string ByteArray.empty) 1 16 Tryz.underlying27 hi hz0 hz1 hz2 rfl (by decide) _ 0 [] rfl own0 (some ad) l.length _ (l.map Value.string) rfl (fun e => by cases e) (by simp) (fun ad' e => hlx.src' ad' e) (strs_one l) (by unfold maxLen; omega) (by omega) (by first | omega | (simp; done) | (simp; omega)) ?_; intro v' w1 own1 gr1)
    go_ret
    simp only [Nat.zero_add, List.nil_append] at own1
    obtain ⟨a', c', hv, h1, h2⟩ := Strs.of_own own1
    subst hv
    exact ⟨⟨a', c', rfl, h1, own_typ own1, h2⟩, ((Fr.refl No w).alloc _).step (own_fr own0 gr1) (fun b hb h => by unfold From at h; omega)⟩
end Go.Proofs.YtcibciippghooaaGreatDoor
namespace Go.Proofs.YtcibciippghooaaGreatDoor
open Go.RowKit
set_option linter.unusedVariables false

theorem hasS_iff {l : List ByteArray} {s : ByteArray} : hasS l s = true ↔ s ∈ l := by
  unfold hasS
  rw [List.any_eq_true]
  constructor
  · rintro ⟨x, hx, h⟩
    rw [strEq] at h
    rw [← of_decide_eq_true h]; exact hx
  · intro h
    exact ⟨s, h, by rw [strEq]; simp⟩
def openT : ByteArray := ⟨#[111, 112, 101, 110, 45]⟩
theorem append_inj {a x y : ByteArray} (h : a ++ x = a ++ y) : x = y := by
  have h1 := congrArg (fun b : ByteArray => b.data.toList) h
  simp at h1
  cases x; cases y
  simp only at h1
  rw [h1]
/-- The content of the layer of an ID. -/
def inner0 (L : List Mem) (x : ByteArray) : ByteArray := ((best L (kb x)).getD Mem.zero).l.headD ⟨#[]⟩
def virOf (L : List Mem) (r : Int) (x : ByteArray) : Vir := ⟨⟨#[]⟩, openT ++ x, inner0 L x, r⟩
def opened (ids K : List ByteArray) : List ByteArray := ids.filter (hasS K)
def asked (ids K : List ByteArray) : List ByteArray := ids.filter fun x => !hasS K x
def cntO (V : List Vir) (s : ByteArray) : Nat := (V.filter fun v => v.o.toList == s.toList).length
def cntS (l : List ByteArray) (s : ByteArray) : Nat := (l.filter fun x => x.toList == s.toList).length
theorem cntO_snoc (V : List Vir) (v : Vir) (s : ByteArray) : cntO (V ++ [v]) s = cntO V s + (if (v.o.toList == s.toList) = true then 1 else 0) := by
  unfold cntO
  rw [List.filter_append, List.length_append]
  congr 1
  rw [List.filter_cons]
  split <;> rfl
theorem cntS_snoc (l : List ByteArray) (x s : ByteArray) : cntS (l ++ [x]) s = cntS l s + (if (x.toList == s.toList) = true then 1 else 0) := by
  unfold cntS
  rw [List.filter_append, List.length_append]
  congr 1
  rw [List.filter_cons]
  split <;> rfl
theorem cntO_le (V : List Vir) (s : ByteArray) : cntO V s ≤ V.length := List.length_filter_le _ _
theorem cntS_le (l : List ByteArray) (s : ByteArray) : cntS l s ≤ l.length := List.length_filter_le _ _
theorem cntS_count (l : List ByteArray) (s : ByteArray) : cntS l s = (l.filter fun x => decide (x = s)).length := by
  unfold cntS
  congr 1
  refine List.filter_congr (fun x _ => ?_)
  rw [strEq]
theorem cntO_open (L : List Mem) (r : Int) (l : List ByteArray) (x : ByteArray) : cntO (l.map (virOf L r)) (openT ++ x) = cntS l x := by
  unfold cntO cntS
  rw [List.filter_map, List.length_map]
  congr 1
  refine List.filter_congr (fun y _ => ?_)
  show ((openT ++ y).toList == (openT ++ x).toList) = (y.toList == x.toList)
  rw [strEq, strEq, decide_eq_decide]
  exact ⟨append_inj, fun e => by rw [e]⟩
theorem AscS.nodup {l : List ByteArray} (h : AscS (l.map kb)) : l.Nodup := by
  have h1 := List.pairwise_map.1 h
  exact h1.imp (fun {a b} h e => h.2 (by rw [e]))
theorem filter_one {l : List ByteArray} (h : l.Nodup) {x : ByteArray} (hx : x ∈ l) : (l.filter fun y => decide (y = x)).length = 1 := by
  induction l with
  | nil => cases hx
  | cons y t ih =>
    obtain ⟨h1, h2⟩ := List.nodup_cons.1 h
    by_cases e : y = x
    · subst e
      have : t.filter (fun z => decide (z = y)) = [] := by
        rw [List.filter_eq_nil_iff]
        intro z hz
        simp
        rintro rfl
        exact h1 hz
      simp [this]
    · have hx' : x ∈ t := by
        rcases List.mem_cons.1 hx with h3 | h3
        · exact absurd h3.symm e
        · exact h3
      simp [e, ih h2 hx']
/-- Each layer is opened or asked for, and never both. -/
theorem shares {L : List Mem} {ids : List ByteArray} (h : IsIds L ids) (K : List ByteArray) (r : Int) {x : ByteArray} (hx : x ∈ ids) : cntO ((opened ids K).map (virOf L r)) (openT ++ x) + cntS (asked ids K) x = 1 := by
  rw [cntO_open, cntS_count, cntS_count]
  unfold opened asked
  have hn := AscS.nodup h.asc
  cases hk : hasS K x with
  | true =>
    have h1 : x ∈ ids.filter (hasS K) := List.mem_filter.2 ⟨hx, hk⟩
    rw [filter_one (hn.filter _) h1]
    have : (ids.filter fun y => !hasS K y).filter (fun y => decide (y = x)) = [] := by
      rw [List.filter_eq_nil_iff]
      intro z hz
      simp
      rintro rfl
      have := (List.mem_filter.1 hz).2
      simp [hk] at this
    rw [this]; rfl
  | false =>
    have h1 : x ∈ ids.filter (fun y => !hasS K y) := List.mem_filter.2 ⟨hx, by simp [hk]⟩
    rw [filter_one (hn.filter _) h1]
    have : (ids.filter (hasS K)).filter (fun y => decide (y = x)) = [] := by
      rw [List.filter_eq_nil_iff]
      intro z hz
      simp
      rintro rfl
      have := (List.mem_filter.1 hz).2
      simp [hk] at this
    rw [this]; rfl
theorem opened_asked_len (ids K : List ByteArray) : (opened ids K).length + (asked ids K).length = ids.length := by
  unfold opened asked
  induction ids with
  | nil => rfl
  | cons x t ih =>
    rw [List.filter_cons, List.filter_cons]
    cases hasS K x <;> simp <;> omega
/-- IDs ascend strictly, bytewise. -/
theorem leS_less (x y : List UInt8) : leS x y = (Op.bytesLess x y || decide (x = y)) := by
  unfold leS
  induction x generalizing y with
  | nil => cases y <;> simp [Op.bytesLess]
  | cons a s ih =>
    cases y with
    | nil => simp [Op.bytesLess]
    | cons b t =>
      have h := ih t
      by_cases h1 : a < b
      · have h4 : (a :: s ≤ b :: t) := List.cons_le_cons_iff.2 (.inl h1)
        simp [Op.bytesLess, h1, h4]
      · by_cases h2 : b < a
        · have h3 : a ≠ b := fun e => by subst e; exact absurd h2 (UInt8.lt_irrefl _)
          have h4 : ¬ (a :: s ≤ b :: t) := fun h5 => by
            rcases List.cons_le_cons_iff.1 h5 with h6 | ⟨h6, _⟩
            · exact h1 h6
            · exact h3 h6
          simp [Op.bytesLess, h1, h3, h4]
        · have h3 : a = b := UInt8.le_antisymm (UInt8.not_lt.1 h2) (UInt8.not_lt.1 h1)
          subst h3
          have h4 : (a :: s ≤ a :: t) ↔ s ≤ t := by
            rw [List.cons_le_cons_iff]
            constructor
            · rintro (h6 | ⟨_, h6⟩)
              · exact absurd h6 h1
              · exact h6
            · intro h6; exact .inr ⟨rfl, h6⟩
          simp only [h4, h, Op.bytesLess]
          simp

/-! ### one more key -/
/-- What one more key makes of what was opened. -/
theorem opened_key {ids K : List ByteArray} (hn : ids.Nodup) (key : ByteArray) :
    (hasS (asked ids K) key = false ∧ opened ids (K ++ [key]) = opened ids K) ∨
    (hasS (asked ids K) key = true ∧ opened ids K = (opened ids (K ++ [key])).filter (fun x => !decide (x = key)) ∧ (opened ids (K ++ [key])).length = (opened ids K).length + 1) := by
  have hk : ∀ x, hasS (K ++ [key]) x = (hasS K x || decide (x = key)) := fun x => by
    unfold hasS
    rw [List.any_append]
    simp only [List.any_cons, List.any_nil, Bool.or_false]
    congr 1
    rw [strEq]
    by_cases e : key = x
    · simp [e]
    · simp [e, Ne.symm e]
  cases ha : hasS (asked ids K) key with
  | false =>
    refine .inl ⟨rfl, ?_⟩
    unfold opened
    refine List.filter_congr (fun x hx => ?_)
    rw [hk]
    by_cases e : x = key
    · subst e
      cases hK : hasS K x with
      | true => rfl
      | false =>
        exfalso
        have : x ∈ asked ids K := List.mem_filter.2 ⟨hx, by simp [hK]⟩
        rw [hasS_iff.2 this] at ha; cases ha
    · simp [e]
  | true =>
    have hm := List.mem_filter.1 (hasS_iff.1 ha)
    have hK : hasS K key = false := by simpa using hm.2
    have e1 : opened ids K = (opened ids (K ++ [key])).filter (fun x => !decide (x = key)) := by
      unfold opened
      rw [List.filter_filter]
      refine List.filter_congr (fun x hx => ?_)
      rw [hk]
      by_cases e : x = key
      · subst e; simp [hK]
      · simp [e]
    refine .inr ⟨rfl, e1, ?_⟩
    have hx : key ∈ opened ids (K ++ [key]) := List.mem_filter.2 ⟨hm.1, by rw [hk]; simp⟩
    have h2 := filter_one (l := opened ids (K ++ [key])) (hn.filter _) hx
    have h3 : ∀ l : List ByteArray, (l.filter fun x => !decide (x = key)).length + (l.filter fun x => decide (x = key)).length = l.length := by
      intro l
      induction l with
      | nil => rfl
      | cons y t ih =>
        rw [List.filter_cons, List.filter_cons]
        by_cases e : y = key <;> simp [e] <;> omega
    have h4 := h3 (opened ids (K ++ [key]))
    rw [← e1, h2] at h4
    exact h4.symm
theorem filter_at {α : Type} (p : α → Bool) : ∀ (l : List α) (j : Nat) (x : α), l[j]? = some x → p x = true → (l.filter p)[((l.take j).filter p).length]? = some x
  | [], j, x, h, _ => by simp at h
  | y :: t, 0, x, h, hp => by
    simp at h; subst h
    simp [hp]
  | y :: t, j + 1, x, h, hp => by
    have ih := filter_at p t j x (by simpa using h) hp
    rw [List.take_succ_cons, List.filter_cons, List.filter_cons]
    split
    · simpa using ih
    · exact ih
end Go.Proofs.YtcibciippghooaaGreatDoor
