/- Wanted devices in memory: slices of api.Virtual. What Open and Asks answer; the laws on it. Plain. Owners. -/
import Derived.Test.YtbblkknndaoefaaGreatDoorZA5
import Derived.Test.YtbblkknndaoefaaGreatDoorZA4
import Derived.Test.YtbblkknndaoefaaGreatDoorZA6
import Derived.Laws.EntriesVeiled
namespace Go.Proofs.YtbblkknndaoefaaGreatDoor
open Go.RowKit Go.Maps
set_option linter.unusedVariables false

structure Vir where
  q : ByteArray
  o : ByteArray
  c : ByteArray
  r : Int
def Vir.vals (v : Vir) : Array Value := #[.string v.q, .string v.o, .string v.c, .int .i64 v.r]
structure Virs (w : World) (a : Option Addr) (cap : Nat) (L : List Vir) : Prop where
  len : L.length ≤ cap
  max : cap ≤ maxLen
  isNil : a = none → L = [] ∧ cap = 0
  cell : ∀ ad, a = some ad → L ≠ [] → ad.spot = none ∧ ad.block < w.heap.size ∧ ∀ i m, L[i]? = some m → ∀ j, j < 4 → w.cell? ⟨ad.block, ad.off + (i * 4 + j), none⟩ = m.vals[j]?
/-- The four cells of a wanted device at (b, o). -/
structure VirAt (w : World) (b o : Nat) (m : Vir) : Prop where
  c0 : w.cell? ⟨b, o, none⟩ = some (.string m.q)
  c1 : w.cell? ⟨b, o + 1, none⟩ = some (.string m.o)
  c2 : w.cell? ⟨b, o + 2, none⟩ = some (.string m.c)
  c3 : w.cell? ⟨b, o + 3, none⟩ = some (.int .i64 m.r)
theorem Virs.elem {w : World} {a : Option Addr} {cap : Nat} {L : List Vir} (h : Virs w a cap L) {k : Nat} (hk : k < L.length) :
    ∃ b off m, a = some ⟨b, off, none⟩ ∧ L[k]? = some m ∧ VirAt w b (off + k * 4) m ∧ b < w.heap.size := by
  cases a with
  | none => obtain ⟨rfl, _⟩ := h.isNil rfl; simp at hk
  | some ad =>
    obtain ⟨b, off, sp⟩ := ad
    obtain ⟨h1, h2, h3⟩ := h.cell _ rfl (by intro e; subst e; simp at hk)
    simp at h1; subst h1
    have hc := h3 k _ (List.getElem?_eq_getElem hk)
    exact ⟨b, off, L[k], rfl, List.getElem?_eq_getElem hk, ⟨hc 0 (by omega), hc 1 (by omega), hc 2 (by omega), hc 3 (by omega)⟩, h2⟩
theorem Virs.lenmax {w : World} {a : Option Addr} {cap : Nat} {L : List Vir} (h : Virs w a cap L) : L.length ≤ 9223372036854775807 := by
  have h1 := h.len; have h2 := h.max; unfold maxLen at h2; omega
theorem Virs.fr {S : Nat → Prop} {w w' : World} {a : Option Addr} {cap : Nat} {L : List Vir} (h : Virs w a cap L) (hf : Fr S w w') (hS : ∀ ad, a = some ad → L ≠ [] → ¬ S ad.block) : Virs w' a cap L :=
  ⟨h.len, h.max, h.isNil, fun ad e hne => by
    obtain ⟨h1, h2, h3⟩ := h.cell ad e hne
    refine ⟨h1, Nat.lt_of_lt_of_le h2 hf.size, fun i m hi j hj => ?_⟩
    rw [← h3 i m hi j hj]
    exact World.cell?_of_block (hf.block _ h2 (hS ad e hne))⟩
theorem Virs.no {S : Nat → Prop} {w w' : World} {a : Option Addr} {cap : Nat} {L : List Vir} (h : Virs w a cap L) (hf : Fr S w w') (hS : ∀ k, ¬ S k) : Virs w' a cap L := h.fr hf (fun _ _ _ => hS _)
theorem Virs.nil (w : World) : Virs w none 0 [] := ⟨by simp, by simp, fun _ => ⟨rfl, rfl⟩, fun _ e _ => by cases e⟩
theorem infoV : (Tryz.prog.info? 64).map (fun i => (i.zero, i.size, i.bytes)) = some (some (.agg #[.string ByteArray.empty, .string ByteArray.empty, .string ByteArray.empty, .int .i64 0]), 4, 56) := by kernel_rfl
def vflat (L : List Vir) : List Value := L.flatMap (fun m => m.vals.toList)
theorem vflat_snoc (L : List Vir) (m : Vir) : vflat (L ++ [m]) = vflat L ++ m.vals.toList := by simp [vflat]
theorem vvals_one (m : Vir) : ∀ u ∈ m.vals.toList, u.oneCell' = true := by
  intro u hu
  simp [Vir.vals] at hu
  rcases hu with rfl | rfl | rfl | rfl <;> rfl
theorem vflat_at : ∀ (L : List Vir) (i : Nat) (m : Vir), L[i]? = some m → ∀ j, j < 4 → (vflat L)[i * 4 + j]? = m.vals[j]?
  | [], i, m, h, j, hj => by simp at h
  | x :: t, 0, m, h, j, hj => by
    simp at h; subst h
    have : vflat (x :: t) = x.vals.toList ++ vflat t := by simp [vflat]
    rw [this, List.getElem?_append_left (by simp [Vir.vals]; omega)]
    simp
  | x :: t, i + 1, m, h, j, hj => by
    have : vflat (x :: t) = x.vals.toList ++ vflat t := by simp [vflat]
    rw [this, List.getElem?_append_right (by simp [Vir.vals]; omega), show (i + 1) * 4 + j - x.vals.toList.length = i * 4 + j from by simp [Vir.vals]; omega]
    exact vflat_at t i m (by simpa using h) j hj
theorem Virs.of_own {w : World} {base : Nat} {e : TypeId} {v : Value} {L : List Vir} (h : w.ownsRow base e 4 v L.length (vflat L)) :
    ∃ a cap, v = .slice a L.length cap ∧ Virs w a cap L ∧ ∀ ad, a = some ad → base ≤ ad.block := by
  obtain ⟨_, ⟨rfl, h2⟩ | ⟨g, cap, cur, rfl, hg, hb, h1, h2, h3, h4⟩⟩ := h
  · have : L = [] := List.eq_nil_of_length_eq_zero h2
    subst this
    exact ⟨none, 0, rfl, Virs.nil w, fun _ e => by cases e⟩
  · refine ⟨some ⟨g, 0, none⟩, cap, rfl, ⟨h1, h2, (fun e => by cases e), ?_⟩, fun ad e => by cases e; exact hg⟩
    intro ad e hne
    cases e
    refine ⟨rfl, lt_of_block hb, fun i m hi j hj => ?_⟩
    rw [cell_of_block hb]
    simp only [Nat.zero_add]
    have hlt : i < L.length := (List.getElem?_eq_some_iff.1 hi).1
    have e1 : (cur.toList.take (L.length * 4))[i * 4 + j]? = (vflat L)[i * 4 + j]? := by rw [h4]
    rw [List.getElem?_take_of_lt (by omega), vflat_at L i m hi j hj] at e1
    rw [← Array.getElem?_toList, e1]
end Go.Proofs.YtbblkknndaoefaaGreatDoor
namespace Go.Proofs.YtbblkknndaoefaaGreatDoor
open Go.RowKit
set_option linter.unusedVariables false

theorem hasS_iff {l : List ByteArray} {s : ByteArray} : hasS l s = true ↔ s ∈ l := by
  unfold hasS
  rw [List.any_eq_true]
  constructor
  · rintro ⟨x, hx, h⟩
    rw [strEq] at h
    rw [← of_decide_eq_true h]; exact hx
  · intro h
    exact ⟨s, h, by rw [strEq]; simp⟩
def openT : ByteArray := ⟨#[111, 112, 101, 110, 45]⟩
theorem append_inj {a x y : ByteArray} (h : a ++ x = a ++ y) : x = y := by
  have h1 := congrArg (fun b : ByteArray => b.data.toList) h
  simp at h1
  cases x; cases y
  simp only at h1
  rw [h1]
/-- The content of the layer of an ID. -/
def inner0 (L : List Mem) (x : ByteArray) : ByteArray := ((best L (kb x)).getD Mem.zero).l.headD ⟨#[]⟩
def virOf (L : List Mem) (r : Int) (x : ByteArray) : Vir := ⟨⟨#[]⟩, openT ++ x, inner0 L x, r⟩
def opened (ids K : List ByteArray) : List ByteArray := ids.filter (hasS K)
def asked (ids K : List ByteArray) : List ByteArray := ids.filter fun x => !hasS K x
def cntO (V : List Vir) (s : ByteArray) : Nat := (V.filter fun v => v.o.toList == s.toList).length
def cntS (l : List ByteArray) (s : ByteArray) : Nat := (l.filter fun x => x.toList == s.toList).length
theorem cntO_snoc (V : List Vir) (v : Vir) (s : ByteArray) : cntO (V ++ [v]) s = cntO V s + (if (v.o.toList == s.toList) = true then 1 else 0) := by
  unfold cntO
  rw [List.filter_append, List.length_append]
  congr 1
  rw [List.filter_cons]
  split <;> rfl
theorem cntS_snoc (l : List ByteArray) (x s : ByteArray) : cntS (l ++ [x]) s = cntS l s + (if (x.toList == s.toList) = true then 1 else 0) := by
  unfold cntS
  rw [List.filter_append, List.length_append]
  congr 1
  rw [List.filter_cons]
  split <;> rfl
theorem cntO_le (V : List Vir) (s : ByteArray) : cntO V s ≤ V.length := List.length_filter_le _ _
theorem cntS_le (l : List ByteArray) (s : ByteArray) : cntS l s ≤ l.length := List.length_filter_le _ _
theorem cntS_count (l : List ByteArray) (s : ByteArray) : cntS l s = (l.filter fun x => decide (x = s)).length := by
  unfold cntS
  congr 1
  refine List.filter_congr (fun x _ => ?_)
  rw [strEq]
theorem cntO_open (L : List Mem) (r : Int) (l : List ByteArray) (x : ByteArray) : cntO (l.map (virOf L r)) (openT ++ x) = cntS l x := by
  unfold cntO cntS
  rw [List.filter_map, List.length_map]
  congr 1
  refine List.filter_congr (fun y _ => ?_)
  show ((openT ++ y).toList == (openT ++ x).toList) = (y.toList == x.toList)
  rw [strEq, strEq, decide_eq_decide]
  exact ⟨append_inj, fun e => by rw [e]⟩
theorem AscS.nodup {l : List ByteArray} (h : AscS (l.map kb)) : l.Nodup := by
  have h1 := List.pairwise_map.1 h
  exact h1.imp (fun {a b} h e => h.2 (by rw [e]))
theorem filter_one {l : List ByteArray} (h : l.Nodup) {x : ByteArray} (hx : x ∈ l) : (l.filter fun y => decide (y = x)).length = 1 := by
  induction l with
  | nil => cases hx
  | cons y t ih =>
    obtain ⟨h1, h2⟩ := List.nodup_cons.1 h
    by_cases e : y = x
    · subst e
      have : t.filter (fun z => decide (z = y)) = [] := by
        rw [List.filter_eq_nil_iff]
        intro z hz
        simp
        rintro rfl
        exact h1 hz
      simp [this]
    · have hx' : x ∈ t := by
        rcases List.mem_cons.1 hx with h3 | h3
        · exact absurd h3.symm e
        · exact h3
      simp [e, ih h2 hx']
/-- Each layer is opened or asked for, and never both. -/
theorem shares {L : List Mem} {ids : List ByteArray} (h : IsIds L ids) (K : List ByteArray) (r : Int) {x : ByteArray} (hx : x ∈ ids) : cntO ((opened ids K).map (virOf L r)) (openT ++ x) + cntS (asked ids K) x = 1 := by
  rw [cntO_open, cntS_count, cntS_count]
  unfold opened asked
  have hn := AscS.nodup h.asc
  cases hk : hasS K x with
  | true =>
    have h1 : x ∈ ids.filter (hasS K) := List.mem_filter.2 ⟨hx, hk⟩
    rw [filter_one (hn.filter _) h1]
    have : (ids.filter fun y => !hasS K y).filter (fun y => decide (y = x)) = [] := by
      rw [List.filter_eq_nil_iff]
      intro z hz
      simp
      rintro rfl
      have := (List.mem_filter.1 hz).2
      simp [hk] at this
    rw [this]; rfl
  | false =>
    have h1 : x ∈ ids.filter (fun y => !hasS K y) := List.mem_filter.2 ⟨hx, by simp [hk]⟩
    rw [filter_one (hn.filter _) h1]
    have : (ids.filter (hasS K)).filter (fun y => decide (y = x)) = [] := by
      rw [List.filter_eq_nil_iff]
      intro z hz
      simp
      rintro rfl
      have := (List.mem_filter.1 hz).2
      simp [hk] at this
    rw [this]; rfl
theorem opened_asked_len (ids K : List ByteArray) : (opened ids K).length + (asked ids K).length = ids.length := by
  unfold opened asked
  induction ids with
  | nil => rfl
  | cons x t ih =>
    rw [List.filter_cons, List.filter_cons]
    cases hasS K x <;> simp <;> omega
/-- IDs ascend strictly, bytewise. -/
theorem leS_less (x y : List UInt8) : leS x y = (Op.bytesLess x y || decide (x = y)) := by
  unfold leS
  induction x generalizing y with
  | nil => cases y <;> simp [Op.bytesLess]
  | cons a s ih =>
    cases y with
    | nil => simp [Op.bytesLess]
    | cons b t =>
      have h := ih t
      by_cases h1 : a < b
      · have h4 : (a :: s ≤ b :: t) := List.cons_le_cons_iff.2 (.inl h1)
        simp [Op.bytesLess, h1, h4]
      · by_cases h2 : b < a
        · have h3 : a ≠ b := fun e => by subst e; exact absurd h2 (UInt8.lt_irrefl _)
          have h4 : ¬ (a :: s ≤ b :: t) := fun h5 => by
            rcases List.cons_le_cons_iff.1 h5 with h6 | ⟨h6, _⟩
            · exact h1 h6
            · exact h3 h6
          simp [Op.bytesLess, h1, h3, h4]
        · have h3 : a = b := UInt8.le_antisymm (UInt8.not_lt.1 h2) (UInt8.not_lt.1 h1)
          subst h3
          have h4 : (a :: s ≤ a :: t) ↔ s ≤ t := by
            rw [List.cons_le_cons_iff]
            constructor
            · rintro (h6 | ⟨_, h6⟩)
              · exact absurd h6 h1
              · exact h6
            · intro h6; exact .inr ⟨rfl, h6⟩
          simp only [h4, h, Op.bytesLess]
          simp

/-! ### one more key -/
/-- What one more key makes of what was opened. -/
theorem opened_key {ids K : List ByteArray} (hn : ids.Nodup) (key : ByteArray) :
    (hasS (asked ids K) key = false ∧ opened ids (K ++ [key]) = opened ids K) ∨
    (hasS (asked ids K) key = true ∧ opened ids K = (opened ids (K ++ [key])).filter (fun x => !decide (x = key)) ∧ (opened ids (K ++ [key])).length = (opened ids K).length + 1) := by
  have hk : ∀ x, hasS (K ++ [key]) x = (hasS K x || decide (x = key)) := fun x => by
    unfold hasS
    rw [List.any_append]
    simp only [List.any_cons, List.any_nil, Bool.or_false]
    congr 1
    rw [strEq]
    by_cases e : key = x
    · simp [e]
    · simp [e, Ne.symm e]
  cases ha : hasS (asked ids K) key with
  | false =>
    refine .inl ⟨rfl, ?_⟩
    unfold opened
    refine List.filter_congr (fun x hx => ?_)
    rw [hk]
    by_cases e : x = key
    · subst e
      cases hK : hasS K x with
      | true => rfl
      | false =>
        exfalso
        have : x ∈ asked ids K := List.mem_filter.2 ⟨hx, by simp [hK]⟩
        rw [hasS_iff.2 this] at ha; cases ha
    · simp [e]
  | true =>
    have hm := List.mem_filter.1 (hasS_iff.1 ha)
    have hK : hasS K key = false := by simpa using hm.2
    have e1 : opened ids K = (opened ids (K ++ [key])).filter (fun x => !decide (x = key)) := by
      unfold opened
      rw [List.filter_filter]
      refine List.filter_congr (fun x hx => ?_)
      rw [hk]
      by_cases e : x = key
      · subst e; simp [hK]
      · simp [e]
    refine .inr ⟨rfl, e1, ?_⟩
    have hx : key ∈ opened ids (K ++ [key]) := List.mem_filter.2 ⟨hm.1, by rw [hk]; simp⟩
    have h2 := filter_one (l := opened ids (K ++ [key])) (hn.filter _) hx
    have h3 : ∀ l : List ByteArray, (l.filter fun x => !decide (x = key)).length + (l.filter fun x => decide (x = key)).length = l.length := by
      intro l
      induction l with
      | nil => rfl
      | cons y t ih =>
        rw [List.filter_cons, List.filter_cons]
        by_cases e : y = key <;> simp [e] <;> omega
    have h4 := h3 (opened ids (K ++ [key]))
    rw [← e1, h2] at h4
    exact h4.symm
theorem filter_at {α : Type} (p : α → Bool) : ∀ (l : List α) (j : Nat) (x : α), l[j]? = some x → p x = true → (l.filter p)[((l.take j).filter p).length]? = some x
  | [], j, x, h, _ => by simp at h
  | y :: t, 0, x, h, hp => by
    simp at h; subst h
    simp [hp]
  | y :: t, j + 1, x, h, hp => by
    have ih := filter_at p t j x (by simpa using h) hp
    rw [List.take_succ_cons, List.filter_cons, List.filter_cons]
    split
    · simpa using ih
    · exact ih
end Go.Proofs.YtbblkknndaoefaaGreatDoor
namespace Go.Proofs.YtbblkknndaoefaaGreatDoor
open Go.RowKit Go.Maps
set_option linter.unusedVariables false

def mapM (g : List UInt8 → Option Mem) : List UInt8 → Option Value := fun x => (g x).map Mem.v
theorem mapM_upd (g : List UInt8 → Option Mem) (x : List UInt8) (m : Mem) : updS (mapM g) x m.v = mapM (fun y => if y = x then some m else g y) := by
  funext y
  unfold updS mapM
  by_cases h : y = x <;> simp [h]
def zeroMem : Value := .agg #[.string ⟨#[]⟩, .string ⟨#[]⟩, .int .i64 0, .int .i64 0, .int .i64 0, .int .i64 0, .slice none 0 0]
theorem zeroM (w : World) : (zeroValue 58).run Tryz.prog w = .ok zeroMem w := by kernel_rfl

/-- The sizes of a list of members. -/
structure MemSmall (L : List Mem) : Prop where
  len : L.length ≤ 1000
  p : ∀ m ∈ L, m.p.size ≤ 1000000
  i : ∀ m ∈ L, m.i.size ≤ 1000000
  l : ∀ m ∈ L, m.l.length ≤ 1000000
/-- What Owners answers. -/
def OwnRes (w : World) (L : List Mem) (e : Ending) (w' : World) : Prop :=
  ∃ (a' : Option Addr) (c' : Nat) (O : List Mem) (ids : List ByteArray), e = .returned (.slice a' O.length c') ∧ Mems w' a' c' O ∧ (∀ ad, a' = some ad → w.heap.size ≤ ad.block) ∧ MFresh w' w.heap.size O ∧ IsIds L ids ∧ O.map Mem.k = own1 L ids ∧ ids.length ≤ L.length

set_option maxRecDepth 100000 in
set_option maxHeartbeats 8000000 in
theorem c_owners (a : Option Addr) (cap : Nat) (L : List Mem) (m0 : Int) (w : World) (hl : Mems w a cap L) (hb : MemSmall L) (hm0 : w.cell? ⟨1, 0, none⟩ = some (.int .i64 m0)) (hw0 : 1 < w.heap.size) :
    Calls Tryz.prog 19 #[.slice a L.length cap] w fun e w' => OwnRes w L e w' ∧ Fr No w w' := by
  obtain ⟨i0, hi0, hz0, hz1, hz2⟩ := info_parts infoM
  have hlm := hb.len
  have hmm := @run_makeMap Tryz.prog
  have hx : Fr No w (w.alloc (.map #[] 0)) := (Fr.refl _ _).alloc _
  have hI0 := VMap.made w
  have hs0 : w.heap.size < (w.alloc (.map #[] 0)).heap.size := by simp
  have hlk : ∀ W : World, Fr (From w.heap.size) w W → Mems W a cap L := fun W hf => hl.keep hf (fun b hb h => by unfold From at h; omega)
  have Hlk := Lib.hid hlk
  have Hb := Lib.hid hb
  clear hlk hb hl
  go_enter Tryz.func19, Tryz.ntmps19
  go_wp2_with fail
  clear hmm
  generalize w.alloc (.map #[] 0) = W0 at *
  go_loopw [16] (fun i wr => ∃ k : Nat, k ≤ L.length ∧ i = .int .i64 (k : Int) ∧ VMap wr w.heap.size (mapM (best (L.take k))) k ∧ Fr (From w.heap.size) w wr ∧ w.heap.size < wr.heap.size) (fun i _ => L.length - (intOf i).toNat)
  case atStart => exact ⟨0, by omega, rfl, by exact hI0, hx.mono (fun _ _ h => h.elim), hs0⟩
  case round =>
    obtain ⟨k, hk, rfl, hI, hfr, hsr⟩ := hrel
    by_cases hlt : k < L.length
    · have hlt' : (k : Int) < L.length := by omega
      obtain ⟨b, off, m, rfl, hxk, hst, hat, hbl⟩ := (Hlk.out _ hfr).elem hlt
      have hmem := List.mem_of_getElem? hxk
      have Htk : Hid (L.take (k + 1) = L.take k ++ [m]) := by unfold Hid; rw [List.take_add_one, hxk]; rfl
      have hpm := Hb.out.p m hmem
      have him : m.i.size ≤ maxLen := by have := Hb.out.i m hmem; unfold maxLen; omega
      have hm1 : wr.cell? ⟨1, 0, none⟩ = some (.int .i64 m0) := hfr.cell hm0 (by show ¬ From w.heap.size 1; unfold From; omega)
      obtain ⟨mp, mi, mr, ms, mt, me, ma, ml, mc⟩ := m
      obtain ⟨c0, c1, c2, c3, c4, c5, c6⟩ := hat
      simp only at c0 c1 c2 c3 c4 c5 c6 hpm him
      clear hxk hst hmem
      by_cases hl1 : ml.length = 1
      · have hne : ((ml.length : Int) != 1) = false := by simp [hl1]
        have Hl1 := Lib.hid hl1
        clear hl1
        have hx1 : Fr No wr (wr.alloc (.cells #[.string mp, .string mi, .int .i64 mr, .int .i64 ms, .int .i64 mt, .int .i64 me, .slice ma ml.length mc] 58)) := (Fr.refl _ _).alloc _
        have q1 := block_alloc wr (.cells #[.string mp, .string mi, .int .i64 mr, .int .i64 ms, .int .i64 mt, .int .i64 me, .slice ma ml.length mc] 58)
        have hIx := hI.fr hx1 id
        clear hI
        rcases hg : best (L.take k) (kb mi) with _ | o
        · have hv : (mapM (best (L.take k)) (kb mi)).getD zeroMem = .agg #[.string ⟨#[]⟩, .string ⟨#[]⟩, .int .i64 0, .int .i64 0, .int .i64 0, .int .i64 0, .slice none 0 0] := by unfold mapM; rw [hg]; rfl
          have hbo : (mapM (best (L.take k)) (kb mi)).isSome = false := by unfold mapM; rw [hg]; rfl
          have Hg : Hid (∀ o, best (L.take k) (kb mi) = some o → ahead ⟨mp, mi, mr, ms, mt, me, ma, ml, mc⟩ o = true) := fun o ho => by rw [hg] at ho; cases ho
          clear hg
          go_upto_region 8 with (at_lookup; refine wp_vmap_ok rfl _ _ 94 58 zeroMem (zeroM _) rfl Tryz.underlying94 w.heap.size _ k mi him rfl hIx rfl (.agg #[.string ⟨#[]⟩, .string ⟨#[]⟩, .int .i64 0, .int .i64 0, .int .i64 0, .int .i64 0, .slice none 0 0]) hv false hbo ?_)
          have hx2 : Fr No wr ((wr.alloc (.cells #[.string mp, .string mi, .int .i64 mr, .int .i64 ms, .int .i64 mt, .int .i64 me, .slice ma ml.length mc] 58)).alloc (.cells #[.string ⟨#[]⟩, .string ⟨#[]⟩, .int .i64 0, .int .i64 0, .int .i64 0, .int .i64 0, .slice none 0 0] 58)) := hx1.alloc _
          have q2 := block_alloc1 wr (.cells #[.string mp, .string mi, .int .i64 mr, .int .i64 ms, .int .i64 mt, .int .i64 me, .slice ma ml.length mc] 58) (.cells #[.string ⟨#[]⟩, .string ⟨#[]⟩, .int .i64 0, .int .i64 0, .int .i64 0, .int .i64 0, .slice none 0 0] 58)
          have hI2 := hIx.fr ((Fr.refl No _).alloc (.cells #[.string ⟨#[]⟩, .string ⟨#[]⟩, .int .i64 0, .int .i64 0, .int .i64 0, .int .i64 0, .slice none 0 0] 58)) id
          clear hIx hv hbo c0 c1 c2 c3 c4 c5 c6 q1 hx1
          generalize (wr.alloc (.cells #[.string mp, .string mi, .int .i64 mr, .int .i64 ms, .int .i64 mt, .int .i64 me, .slice ma ml.length mc] 58)).alloc (.cells #[.string ⟨#[]⟩, .string ⟨#[]⟩, .int .i64 0, .int .i64 0, .int .i64 0, .int .i64 0, .slice none 0 0] 58) = W2 at *
          have y0 : W2.cell? ⟨wr.heap.size, 0, none⟩ = some (.string mp) := cell_of_block q2 0
          have y1 : W2.cell? ⟨wr.heap.size, 1, none⟩ = some (.string mi) := cell_of_block q2 1
          have y2 : W2.cell? ⟨wr.heap.size, 2, none⟩ = some (.int .i64 mr) := cell_of_block q2 2
          have y3 : W2.cell? ⟨wr.heap.size, 3, none⟩ = some (.int .i64 ms) := cell_of_block q2 3
          have y4 : W2.cell? ⟨wr.heap.size, 4, none⟩ = some (.int .i64 mt) := cell_of_block q2 4
          have y5 : W2.cell? ⟨wr.heap.size, 5, none⟩ = some (.int .i64 me) := cell_of_block q2 5
          have y6 : W2.cell? ⟨wr.heap.size, 6, none⟩ = some (.slice ma ml.length mc) := cell_of_block q2 6
          have Hf2 := Lib.hid (hfr.step hx2 (fun _ _ h => h.elim))
          have hs2 := hx2.size
          clear q2 hx2 hfr
          go_wp2_with (at_mapUpdate; refine wp_vmap_put rfl _ _ _ 94 58 rfl Tryz.underlying94 w.heap.size _ k (by unfold maxLen; omega) mi him (.agg #[.string mp, .string mi, .int .i64 mr, .int .i64 ms, .int .i64 mt, .int .i64 me, .slice ma ml.length mc]) rfl hI2 rfl rfl ?_; intro w4 hI4 hg4)
          have hI5 : VMap w4 w.heap.size (mapM (best (L.take (k + 1)))) (k + 1) := by rw [Htk.out, best_snoc, bestS_take Hl1.out Hg.out, ← mapM_upd]; exact hI4
          have H := Lib.hid (And.intro hI5 (And.intro (Hf2.out.step hg4 (fun b hb e => by unfold Is at e; unfold From; omega)) hg4.size))
          clear hI4 hI5 hg4
          go_roundw
          case rel => exact ⟨k + 1, by omega, by go_num, H.out.1, H.out.2.1, by have := H.out.2.2; omega⟩
          case measure => simp [intOf]; omega
        · obtain ⟨op, oi, or, os, ot, oe, oa, ol, oc⟩ := o
          have hv : (mapM (best (L.take k)) (kb mi)).getD zeroMem = .agg #[.string op, .string oi, .int .i64 or, .int .i64 os, .int .i64 ot, .int .i64 oe, .slice oa ol.length oc] := by unfold mapM; rw [hg]; rfl
          have hbo : (mapM (best (L.take k)) (kb mi)).isSome = true := by unfold mapM; rw [hg]; rfl
          have hop := Hb.out.p _ (List.mem_of_mem_take (best_mem _ _ _ hg).1)
          simp only at hop
          have Hg := Lib.hid hg
          clear hg
          go_upto_region 8 with (at_lookup; refine wp_vmap_ok rfl _ _ 94 58 zeroMem (zeroM _) rfl Tryz.underlying94 w.heap.size _ k mi him rfl hIx rfl (.agg #[.string op, .string oi, .int .i64 or, .int .i64 os, .int .i64 ot, .int .i64 oe, .slice oa ol.length oc]) hv true hbo ?_)
          have hx2 : Fr No wr ((wr.alloc (.cells #[.string mp, .string mi, .int .i64 mr, .int .i64 ms, .int .i64 mt, .int .i64 me, .slice ma ml.length mc] 58)).alloc (.cells #[.string op, .string oi, .int .i64 or, .int .i64 os, .int .i64 ot, .int .i64 oe, .slice oa ol.length oc] 58)) := hx1.alloc _
          have q2 := block_alloc1 wr (.cells #[.string mp, .string mi, .int .i64 mr, .int .i64 ms, .int .i64 mt, .int .i64 me, .slice ma ml.length mc] 58) (.cells #[.string op, .string oi, .int .i64 or, .int .i64 os, .int .i64 ot, .int .i64 oe, .slice oa ol.length oc] 58)
          have q3 := block_alloc2 wr (.cells #[.string mp, .string mi, .int .i64 mr, .int .i64 ms, .int .i64 mt, .int .i64 me, .slice ma ml.length mc] 58) (.cells #[.string op, .string oi, .int .i64 or, .int .i64 os, .int .i64 ot, .int .i64 oe, .slice oa ol.length oc] 58)
          have hI2 := hIx.fr ((Fr.refl No _).alloc (.cells #[.string op, .string oi, .int .i64 or, .int .i64 os, .int .i64 ot, .int .i64 oe, .slice oa ol.length oc] 58)) id
          clear hIx hv hbo c0 c1 c2 c3 c4 c5 c6 q1 hx1
          generalize (wr.alloc (.cells #[.string mp, .string mi, .int .i64 mr, .int .i64 ms, .int .i64 mt, .int .i64 me, .slice ma ml.length mc] 58)).alloc (.cells #[.string op, .string oi, .int .i64 or, .int .i64 os, .int .i64 ot, .int .i64 oe, .slice oa ol.length oc] 58) = W2 at *
          have z0 : W2.cell? ⟨wr.heap.size + 1, 0, none⟩ = some (.string op) := cell_of_block q3 0
          have z1 : W2.cell? ⟨wr.heap.size + 1, 1, none⟩ = some (.string oi) := cell_of_block q3 1
          have z2 : W2.cell? ⟨wr.heap.size + 1, 2, none⟩ = some (.int .i64 or) := cell_of_block q3 2
          have z3 : W2.cell? ⟨wr.heap.size + 1, 3, none⟩ = some (.int .i64 os) := cell_of_block q3 3
          have z4 : W2.cell? ⟨wr.heap.size + 1, 4, none⟩ = some (.int .i64 ot) := cell_of_block q3 4
          have z5 : W2.cell? ⟨wr.heap.size + 1, 5, none⟩ = some (.int .i64 oe) := cell_of_block q3 5
          have z6 : W2.cell? ⟨wr.heap.size + 1, 6, none⟩ = some (.slice oa ol.length oc) := cell_of_block q3 6
          have hm2 := hx2.cell hm1 id
          have Hf2 := Lib.hid (hfr.step hx2 (fun _ _ h => h.elim))
          have hs2 := hx2.size
          clear q3 hx2 hfr hm1
          go_wp2_with fail
          refine (l_ahead mp mi op oi mr ms mt me or os ot oe _ _ m0 _ hpm hop hm2).mono ?_
          rintro en w3 ⟨rfl, hf3⟩
          have q4 := hf3.heap q2 id
          have hI3 := hI2.fr hf3 id
          have Hf3 := Lib.hid (Hf2.out.step hf3 (fun _ _ h => h.elim))
          have hs3 := hf3.size
          clear z0 z1 z2 z3 z4 z5 z6 hf3 q2 hm2 hI2
          rcases ha : aheadB mp mr op or with _ | _
          · have hI5 : VMap w3 w.heap.size (mapM (best (L.take (k + 1)))) k := by rw [Htk.out, best_snoc, bestS_keep (m := ⟨mp, mi, mr, ms, mt, me, ma, ml, mc⟩) (o := ⟨op, oi, or, os, ot, oe, oa, ol, oc⟩) Hg.out ha]; exact hI3
            have H := Lib.hid (And.intro hI5 Hf3.out)
            clear hI5 hI3 q4
            go_wp2_with fail
            go_roundw
            case rel => exact ⟨k + 1, by omega, by go_num, H.out.1.mono (by omega), H.out.2, by omega⟩
            case measure => simp [intOf]; omega
          · have Hah : Hid (∀ o, best (L.take k) (kb mi) = some o → ahead ⟨mp, mi, mr, ms, mt, me, ma, ml, mc⟩ o = true) := fun o ho => by rw [Hg.out] at ho; cases ho; exact ha
            have y0 : w3.cell? ⟨wr.heap.size, 0, none⟩ = some (.string mp) := cell_of_block q4 0
            have y1 : w3.cell? ⟨wr.heap.size, 1, none⟩ = some (.string mi) := cell_of_block q4 1
            have y2 : w3.cell? ⟨wr.heap.size, 2, none⟩ = some (.int .i64 mr) := cell_of_block q4 2
            have y3 : w3.cell? ⟨wr.heap.size, 3, none⟩ = some (.int .i64 ms) := cell_of_block q4 3
            have y4 : w3.cell? ⟨wr.heap.size, 4, none⟩ = some (.int .i64 mt) := cell_of_block q4 4
            have y5 : w3.cell? ⟨wr.heap.size, 5, none⟩ = some (.int .i64 me) := cell_of_block q4 5
            have y6 : w3.cell? ⟨wr.heap.size, 6, none⟩ = some (.slice ma ml.length mc) := cell_of_block q4 6
            clear q4 ha
            go_wp2_with (at_mapUpdate; refine wp_vmap_put rfl _ _ _ 94 58 rfl Tryz.underlying94 w.heap.size _ k (by unfold maxLen; omega) mi him (.agg #[.string mp, .string mi, .int .i64 mr, .int .i64 ms, .int .i64 mt, .int .i64 me, .slice ma ml.length mc]) rfl hI3 rfl rfl ?_; intro w4 hI4 hg4)
            have hI5 : VMap w4 w.heap.size (mapM (best (L.take (k + 1)))) (k + 1) := by rw [Htk.out, best_snoc, bestS_take Hl1.out Hah.out, ← mapM_upd]; exact hI4
            have H := Lib.hid (And.intro hI5 (And.intro (Hf3.out.step hg4 (fun b hb e => by unfold Is at e; unfold From; omega)) hg4.size))
            clear hI4 hI5 hg4
            go_roundw
            case rel => exact ⟨k + 1, by omega, by go_num, H.out.1, H.out.2.1, by have := H.out.2.2; omega⟩
            case measure => simp [intOf]; omega
      · have hne : ((ml.length : Int) != 1) = true := by simp; omega
        have hx1 : Fr No wr (wr.alloc (.cells #[.string mp, .string mi, .int .i64 mr, .int .i64 ms, .int .i64 mt, .int .i64 me, .slice ma ml.length mc] 58)) := (Fr.refl _ _).alloc _
        have hI1 : VMap (wr.alloc (.cells #[.string mp, .string mi, .int .i64 mr, .int .i64 ms, .int .i64 mt, .int .i64 me, .slice ma ml.length mc] 58)) w.heap.size (mapM (best (L.take (k + 1)))) k := by rw [Htk.out, best_snoc, bestS_skip hl1]; exact hI.fr hx1 id
        have H := Lib.hid (And.intro hI1 (And.intro (hfr.step hx1 (fun _ _ h => h.elim)) hx1.size))
        clear hI1 hI hx1 hfr hl1
        go_wp2_with fail
        go_roundw
        case rel => exact ⟨k + 1, by omega, by go_num, H.out.1.mono (by omega), H.out.2.1, by have := H.out.2.2; omega⟩
        case measure => simp [intOf]; omega
    · obtain rfl : k = L.length := by omega
      rw [List.take_length] at hI
      go_wp2_with fail
      refine (m_keys _ _).mono ?_
      rintro en w1 ⟨rfl, rfl⟩
      have hx1 : Fr No wr (wr.alloc (.cells #[.map (some w.heap.size)] 94)) := (Fr.refl _ _).alloc _
      have q1 := block_alloc wr (.cells #[.map (some w.heap.size)] 94)
      have hs1 : wr.heap.size < (wr.alloc (.cells #[.map (some w.heap.size)] 94)).heap.size := by simp
      have hI1 := hI.fr hx1 id
      have Hf1 := Lib.hid (hfr.step hx1 (fun _ _ h => h.elim))
      clear hI hfr hx1
      go_wp2_with fail
      generalize wr.alloc (.cells #[.map (some w.heap.size)] 94) = W1 at *
      refine (m_sorted w.heap.size wr.heap.size _ L.length W1 hI1 (by omega) (cell_of_block q1 0) hs1).mono ?_
      rintro en w2 ⟨⟨ia, ic, ids, rfl, hS, hasc, hmem, hln, hfresh⟩, hf2⟩
      have hids : IsIds L ids := ⟨hasc, fun x => by rw [hmem]; unfold mapM; rw [Option.isSome_map]⟩
      have hI2 := hI1.fr hf2 id
      have Hf2 := Lib.hid (Hf1.out.step hf2 (fun _ _ h => h.elim))
      have hs2 := hf2.size
      have Hids := Lib.hid hids
      have hil := hS.lenmax
      clear q1 hI1 hf2 hasc hmem hids hfresh
      go_wp2_with fail
      go_loopw [9, 50] (fun v i wr => ∃ (j : Nat) (O : List Mem) (av : Option Addr) (cv : Nat), j ≤ ids.length ∧ O.length ≤ j ∧ v = .slice av O.length cv ∧ i = .int .i64 (j : Int) ∧ wr.ownsRow w2.heap.size 58 7 (.slice av O.length cv) O.length (mflat O) ∧ MFresh wr w2.heap.size O ∧ Hid (O.map Mem.k = own1 L (ids.take j)) ∧ Fr (From w2.heap.size) w2 wr) (fun _ i _ => ids.length - (intOf i).toNat)
      case atStart => exact ⟨0, [], none, 0, by omega, by simp, rfl, rfl, World.ownsRow_nil _ _ _ _, fun m hm => by simp at hm, by unfold Hid own1; simp, Fr.refl _ _⟩
      case round =>
        obtain ⟨j, O, av, cv, hj, hOj, rfl, rfl, hown, hMF, HO, hf⟩ := hrel
        by_cases hlt : j < ids.length
        · have hlt' : (j : Int) < ids.length := by omega
          obtain ⟨b, off, x, rfl, hxj, hc⟩ := (hS.keep hf (fun b hb h => by unfold From at h; omega)).at hlt
          have hxi := List.mem_of_getElem? hxj
          have Htj : Hid (ids.take (j + 1) = ids.take j ++ [x]) := by unfold Hid; rw [List.take_add_one, hxj]; rfl
          obtain ⟨o, ho⟩ := Option.isSome_iff_exists.1 ((Hids.out.mem x).1 hxi)
          obtain ⟨hoL, hol1, hok⟩ := best_mem _ _ _ ho
          have hosz := Hb.out.i o hoL
          have hoi := kb_inj hok
          have hxs : x.size ≤ maxLen := by rw [← hoi]; unfold maxLen; omega
          have hfw := Hf2.out.trans hf (fun b hb h => h) (fun b hb h => by unfold From at h ⊢; omega)
          have hoS := (Hlk.out _ hfw).ok o hoL
          have hv : (mapM (best L) (kb x)).getD zeroMem = o.v := by unfold mapM; rw [ho]; rfl
          have hI3 := hI2.fr hf (by unfold From; omega)
          have Hfw := Lib.hid hfw
          have Ho := Lib.hid ho
          clear ho hoL hosz hoi hok hxi hxj hfw
          obtain ⟨op, oi, or, os, ot, oe, oa, ol, oc⟩ := o
          simp only at hoS hol1
          unfold Mem.v Mem.vals at hv
          simp only at hv
          have hol2 : ol.length ≤ 1000000 := by omega
          have hx3 : Fr No wr (wr.alloc (.cells #[.string op, .string oi, .int .i64 or, .int .i64 os, .int .i64 ot, .int .i64 oe, .slice oa ol.length oc] 58)) := (Fr.refl _ _).alloc _
          have q3 := block_alloc wr (.cells #[.string op, .string oi, .int .i64 or, .int .i64 os, .int .i64 ot, .int .i64 oe, .slice oa ol.length oc] 58)
          have hoS3 := hoS.no hx3 (fun _ => id)
          have Hol1 := Lib.hid hol1
          clear hoS hol1
          go_upto_region 16 with (at_lookup; refine wp_vmap rfl _ _ 94 58 zeroMem (zeroM _) rfl Tryz.underlying94 w.heap.size _ _ x hxs rfl hI3 rfl (.agg #[.string op, .string oi, .int .i64 or, .int .i64 os, .int .i64 ot, .int .i64 oe, .slice oa ol.length oc]) hv ?_)
          generalize wr.alloc (.cells #[.string op, .string oi, .int .i64 or, .int .i64 os, .int .i64 ot, .int .i64 oe, .slice oa ol.length oc] 58) = W3 at *
          have z6 : W3.cell? ⟨wr.heap.size, 6, none⟩ = some (.slice oa ol.length oc) := cell_of_block q3 6
          clear hI3 hv hc
          go_wp2_with fail
          refine (strs_clone oa oc ol W3 hoS3 hol2).mono ?_
          rintro en w4 ⟨⟨a1, c1, rfl, hS4, hB4, hF4⟩, hf4⟩
          have q4 := hf4.heap q3 id
          have z7 : w4.frozen? ⟨wr.heap.size, 6, none⟩ = false := free_of_block q4 6
          have z8 : w4.cell? ⟨wr.heap.size, 6, none⟩ = some (.slice oa ol.length oc) := cell_of_block q4 6
          have q5 := block_setCell q4 6 (.slice a1 ol.length c1)
          have hs3 := hx3.size
          have hlb := lt_of_block q3
          have hf34 : Fr No wr w4 := hx3.step hf4 (fun _ _ h => h)
          have hf5 : Fr (Is wr.heap.size) w4 (w4.setCell ⟨wr.heap.size, 6, none⟩ (.slice a1 ol.length c1)) := Fr.setCell (S := Is wr.heap.size) (p := ⟨wr.heap.size, 6, none⟩) (Fr.refl _ _) (fun _ => rfl) _
          clear z6 q3 q4 hoS3
          go_upto_region 17 with (fail)
          generalize w4.setCell ⟨wr.heap.size, 6, none⟩ (.slice a1 ol.length c1) = W5 at *
          have hf25 : Fr (fun b => wr.heap.size ≤ b) wr W5 := (hf34.mono (fun _ _ h => h.elim)).step hf5 (fun b _ h => by unfold Is at h; omega)
          have hown5 := ownsRow_at hown hf25 (fun b hb h => by have h1 := ownsRow_lt hown hb; omega)
          have hMF5 := hMF.fr hf25 (fun b _ h1 h2 => by omega)
          have hS5 := hS4.fr hf5 (fun ad e _ h => by have := hF4 ad e; unfold Is at h; omega)
          have hB5 := hB4.fr hf5 (fun ad e h => by have := hF4 ad e; unfold Is at h; omega)
          simp at q5
          have y0 : W5.cell? ⟨wr.heap.size, 0, none⟩ = some (.string op) := cell_of_block q5 0
          have y1 : W5.cell? ⟨wr.heap.size, 1, none⟩ = some (.string oi) := cell_of_block q5 1
          have y2 : W5.cell? ⟨wr.heap.size, 2, none⟩ = some (.int .i64 or) := cell_of_block q5 2
          have y3 : W5.cell? ⟨wr.heap.size, 3, none⟩ = some (.int .i64 os) := cell_of_block q5 3
          have y4 : W5.cell? ⟨wr.heap.size, 4, none⟩ = some (.int .i64 ot) := cell_of_block q5 4
          have y5 : W5.cell? ⟨wr.heap.size, 5, none⟩ = some (.int .i64 oe) := cell_of_block q5 5
          have y6 : W5.cell? ⟨wr.heap.size, 6, none⟩ = some (.slice a1 ol.length c1) := cell_of_block q5 6
          have hsf := hf25.size
          have hsr2 := hf.size
          have Hf25 := Lib.hid hf25
          have HS5 := Lib.hid (And.intro hS5 (And.intro hB5 hF4))
          have Hown5 := Lib.hid hown5
          have HMF5 := Lib.hid hMF5
          clear z7 z8 q5 hf5 hf34 hx3 hf4 hS4 hB4 hF4 hown hMF hf25 hS5 hB5 hMF5
          go_wp2_with (at_builtin; refine wpList_append_own _ rfl _ _ 23 rfl w2.heap.size 58 i0 (.agg #[.string ByteArray.empty, .string ByteArray.empty, .int .i64 0, .int .i64 0, .int .i64 0, .int .i64 0, .slice none 0 0]) 7 88 Tryz.underlying23 hi0 hz0 hz1 hz2 rfl (by decide) _ _ _ rfl (hown5.alloc _) ⟨W5.heap.size, 0, none⟩ 1 1 (Mem.vals ⟨op, oi, or, os, ot, oe, a1, ol, c1⟩).toList rfl rfl (cells_new _ (Mem.vals ⟨op, oi, or, os, ot, oe, a1, ol, c1⟩) _ rfl) (mvals_one _) (by unfold maxLen; omega) (by omega) (by first | omega | (simp; done) | (simp; omega)) ?_; intro v' w6 hown6 hgrow6 _; obtain ⟨av', cv', rfl⟩ := ownsRow_slice hown6)
          have hal : Fr No W5 (W5.alloc (.cells #[.string op, .string oi, .int .i64 or, .int .i64 os, .int .i64 ot, .int .i64 oe, .slice a1 ol.length c1] 58)) := (Fr.refl _ _).alloc _
          have howa := Hown5.out.alloc (.cells #[.string op, .string oi, .int .i64 or, .int .i64 os, .int .i64 ot, .int .i64 oe, .slice a1 ol.length c1] 58)
          have hgf : Fr (fun b => (Value.slice av O.length cv).ownBlock = some b) (W5.alloc (.cells #[.string op, .string oi, .int .i64 or, .int .i64 os, .int .i64 ot, .int .i64 oe, .slice a1 ol.length c1] 58)) w6 := Fr.of_grown hgrow6
          have hMF6 : MFresh w6 w2.heap.size (O ++ [⟨op, oi, or, os, ot, oe, a1, ol, c1⟩]) := by
            refine MFresh.own (MFresh.snoc (HMF5.out.fr hal (fun _ _ _ => id)) (HS5.out.1.no hal (fun _ => id)) (HS5.out.2.1.fr hal (fun _ _ => id)) (fun ad e => ?_)) howa hgf
            have := HS5.out.2.2 ad e
            omega
          have hO6 : (O ++ [(⟨op, oi, or, os, ot, oe, a1, ol, c1⟩ : Mem)]).map Mem.k = own1 L (ids.take (j + 1)) := by
            rw [Htj.out]
            unfold own1
            rw [List.map_append, List.map_append, HO.out]
            congr 1
            simp only [List.map_cons, List.map_nil, Ho.out, Option.getD_some]
            rfl
          have hf6 : Fr (From w2.heap.size) w2 w6 := ((hf.step Hf25.out (fun b _ h => by unfold From; omega)).step hal (fun _ _ h => h.elim)).step hgf (fun b _ h => ownsRow_blk howa h)
          have HF := Lib.hid (And.intro hown6 (And.intro hMF6 (And.intro hO6 hf6)))
          clear hown6 hMF6 hO6 hf6 hgrow6 hgf howa hal y0 y1 y2 y3 y4 y5 y6 hown5 hf
          go_roundw
          case rel => exact ⟨j + 1, O ++ [⟨op, oi, or, os, ot, oe, a1, ol, c1⟩], av', cv', by omega, by simp; omega, by simp, by go_num, by rw [List.length_append, mflat_snoc]; exact HF.out.1, HF.out.2.1, Lib.hid HF.out.2.2.1, HF.out.2.2.2⟩
          case measure => simp [intOf]; omega
        · obtain rfl : j = ids.length := by omega
          obtain ⟨a', c', hv, hR, hfresh⟩ := Mems.of_own hown (fun m hm => (hMF m hm).1)
          cases hv
          have ho := HO.out
          rw [List.take_length] at ho
          have hs3 := Hf1.out.size
          have hs4 := hf.size
          have H := Lib.hid (And.intro hR (And.intro hfresh (And.intro hMF (And.intro ho ((Hf2.out.trans hf (fun b hb h => h) (fun b hb h => by unfold From at h ⊢; omega)).mono (T := No) (fun b hb h => by unfold From at h; omega))))))
          clear hown hMF HO hf hR hfresh ho
          go_wp2_with fail
          go_ret
          exact ⟨⟨_, _, O, ids, rfl, H.out.1, fun ad e => by have := H.out.2.1 ad e; omega, fun m hm => ⟨(H.out.2.2.1 m hm).1, (H.out.2.2.1 m hm).2.1, fun ad e => by have := (H.out.2.2.1 m hm).2.2 ad e; omega⟩, Hids.out, H.out.2.2.2.1, hln⟩, H.out.2.2.2.2⟩
end Go.Proofs.YtbblkknndaoefaaGreatDoor
