/- Records in memory: slices of api.Record that are read. -/
import Derived.Test.YtanaompgapiikaaGreatDoorL3
namespace Go.Proofs.YtanaompgapiikaaGreatDoor
open Go.RowKit
set_option linter.unusedVariables false

structure Rec where
  path : ByteArray
  index : Int
  props : List (ByteArray × ByteArray)
  tags : List ByteArray
  pa : Option Addr
  pc : Nat
  ta : Option Addr
  tc : Nat
  la : Option Addr
  ln : Nat
  lc : Nat
  ra : Option Addr
  rn : Nat
  rc : Nat
  oa : Option Addr
  on : Nat
  oc : Nat
  name : ByteArray
  prio : Int
  owner : ByteArray
  group : ByteArray
  mode : Int

def Rec.cell (r : Rec) : Nat → Value
  | 0 => .string r.path
  | 1 => .int .i64 r.index
  | 2 => .slice r.pa r.props.length r.pc
  | 3 => .slice r.ta r.tags.length r.tc
  | 4 => .slice r.la r.ln r.lc
  | 5 => .slice r.ra r.rn r.rc
  | 6 => .slice r.oa r.on r.oc
  | 7 => .string r.name
  | 8 => .int .i64 r.prio
  | 9 => .string r.owner
  | 10 => .string r.group
  | _ => .int .i64 r.mode
def Rec.vals (r : Rec) : Array Value := #[.string r.path, .int .i64 r.index, .slice r.pa r.props.length r.pc, .slice r.ta r.tags.length r.tc, .slice r.la r.ln r.lc, .slice r.ra r.rn r.rc, .slice r.oa r.on r.oc, .string r.name, .int .i64 r.prio, .string r.owner, .string r.group, .int .i64 r.mode]
def Rec.zero : Rec := ⟨⟨#[]⟩, 0, [], [], none, 0, none, 0, none, 0, 0, none, 0, 0, none, 0, 0, ⟨#[]⟩, 0, ⟨#[]⟩, ⟨#[]⟩, 0⟩

/-- What a record's properties and tags lie in. -/
structure RecOk (w : World) (r : Rec) : Prop where
  props : Atts w r.pa r.pc r.props
  tags : Strs w r.ta r.tc r.tags
theorem RecOk.no {S : Nat → Prop} {w w' : World} {r : Rec} (h : RecOk w r) (hf : Fr S w w') (hS : ∀ k, ¬ S k) : RecOk w' r := ⟨h.props.no hf hS, h.tags.no hf hS⟩
theorem RecOk.zero (w : World) : RecOk w Rec.zero := ⟨Atts.nil w, Strs.nil w⟩

structure Recs (w : World) (a : Option Addr) (cap : Nat) (l : List Rec) : Prop where
  len : l.length ≤ cap
  max : cap ≤ maxLen
  isNil : a = none → l = [] ∧ cap = 0
  ok : ∀ r ∈ l, RecOk w r
  cell : ∀ ad, a = some ad → l ≠ [] → ad.spot = none ∧ ad.block < w.heap.size ∧ ∀ i r, l[i]? = some r → ∀ j, j < 12 → w.cell? ⟨ad.block, ad.off + (i * 12 + j), none⟩ = some (r.cell j)

/-- The twelve cells of a record at (b, o). -/
structure RecAt (w : World) (b o : Nat) (r : Rec) : Prop where
  c0 : w.cell? ⟨b, o, none⟩ = some (.string r.path)
  c1 : w.cell? ⟨b, o + 1, none⟩ = some (.int .i64 r.index)
  c2 : w.cell? ⟨b, o + 2, none⟩ = some (.slice r.pa r.props.length r.pc)
  c3 : w.cell? ⟨b, o + 3, none⟩ = some (.slice r.ta r.tags.length r.tc)
  c4 : w.cell? ⟨b, o + 4, none⟩ = some (.slice r.la r.ln r.lc)
  c5 : w.cell? ⟨b, o + 5, none⟩ = some (.slice r.ra r.rn r.rc)
  c6 : w.cell? ⟨b, o + 6, none⟩ = some (.slice r.oa r.on r.oc)
  c7 : w.cell? ⟨b, o + 7, none⟩ = some (.string r.name)
  c8 : w.cell? ⟨b, o + 8, none⟩ = some (.int .i64 r.prio)
  c9 : w.cell? ⟨b, o + 9, none⟩ = some (.string r.owner)
  c10 : w.cell? ⟨b, o + 10, none⟩ = some (.string r.group)
  c11 : w.cell? ⟨b, o + 11, none⟩ = some (.int .i64 r.mode)

theorem Recs.elem {w : World} {a : Option Addr} {cap : Nat} {l : List Rec} (h : Recs w a cap l) {k : Nat} (hk : k < l.length) :
    ∃ b off r, a = some ⟨b, off, none⟩ ∧ l[k]? = some r ∧ RecOk w r ∧ RecAt w b (off + k * 12) r := by
  cases a with
  | none => obtain ⟨rfl, _⟩ := h.isNil rfl; simp at hk
  | some ad =>
    obtain ⟨b, off, sp⟩ := ad
    obtain ⟨h1, h2, h3⟩ := h.cell _ rfl (by intro e; subst e; simp at hk)
    simp at h1; subst h1
    have hc := h3 k _ (List.getElem?_eq_getElem hk)
    exact ⟨b, off, l[k], rfl, List.getElem?_eq_getElem hk, h.ok _ (List.getElem_mem hk), ⟨hc 0 (by omega), hc 1 (by omega), hc 2 (by omega), hc 3 (by omega), hc 4 (by omega), hc 5 (by omega), hc 6 (by omega), hc 7 (by omega), hc 8 (by omega), hc 9 (by omega), hc 10 (by omega), hc 11 (by omega)⟩⟩
theorem Recs.lenmax {w : World} {a : Option Addr} {cap : Nat} {l : List Rec} (h : Recs w a cap l) : l.length ≤ 9223372036854775807 := by
  have h1 := h.len; have h2 := h.max; unfold maxLen at h2; omega
theorem Recs.no {S : Nat → Prop} {w w' : World} {a : Option Addr} {cap : Nat} {l : List Rec} (h : Recs w a cap l) (hf : Fr S w w') (hS : ∀ k, ¬ S k) : Recs w' a cap l :=
  ⟨h.len, h.max, h.isNil, fun r hr => (h.ok r hr).no hf hS, fun ad e hne => by
    obtain ⟨h1, h2, h3⟩ := h.cell ad e hne
    exact ⟨h1, Nat.lt_of_lt_of_le h2 hf.size, fun i r hi j hj => hf.cell (h3 i r hi j hj) (hS _)⟩⟩
theorem Recs.nil (w : World) : Recs w none 0 [] := ⟨by simp, by simp, fun _ => ⟨rfl, rfl⟩, by simp, fun _ e _ => by cases e⟩

/-- A record is that of an Index and a place. -/
def Rec.is (n : Int) (p : ByteArray) (r : Rec) : Bool := decide (r.index = n) && (r.path.toList == p.toList)
/-- The place of the first such record, or -1. -/
def rplace : List Rec → Int → ByteArray → Int
  | [], _, _ => -1
  | r :: t, n, p => if r.is n p then 0 else if rplace t n p < 0 then -1 else rplace t n p + 1
theorem rplace_find : ∀ (l : List Rec) (n : Int) (p : ByteArray), (l.find? (Rec.is n p) = none ∧ rplace l n p = -1) ∨ ∃ (k : Nat) (r : Rec), l.find? (Rec.is n p) = some r ∧ rplace l n p = (k : Int) ∧ l[k]? = some r
  | [], n, p => .inl ⟨rfl, rfl⟩
  | r :: t, n, p => by
    unfold rplace
    rw [List.find?_cons]
    cases hr : r.is n p with
    | true => exact .inr ⟨0, r, rfl, rfl, rfl⟩
    | false =>
      rcases rplace_find t n p with ⟨h1, h2⟩ | ⟨k, x, h1, h2, h3⟩
      · left; refine ⟨h1, ?_⟩; simp [h2]
      · right; refine ⟨k + 1, x, h1, ?_, by simpa using h3⟩
        rw [h2, if_neg (by simp), if_neg (by omega)]; rfl
theorem rplace_take : ∀ (l : List Rec) (n : Int) (p : ByteArray) (k : Nat) (r : Rec), l[k]? = some r → r.is n p = true → (∀ x ∈ l.take k, x.is n p = false) → rplace l n p = k
  | [], n, p, k, r, h, _, _ => by simp at h
  | x :: t, n, p, 0, r, h, e, _ => by simp at h; subst h; simp [rplace, e]
  | x :: t, n, p, k + 1, r, h, e, hn => by
    have h1 : x.is n p = false := hn x (by simp)
    have h2 := rplace_take t n p k r (by simpa using h) e (fun y hy => hn y (by simp [hy]))
    unfold rplace
    rw [h1, h2]
    simp; omega
theorem rplace_none : ∀ (l : List Rec) (n : Int) (p : ByteArray), (∀ x ∈ l, x.is n p = false) → rplace l n p = -1
  | [], n, p, _ => rfl
  | x :: t, n, p, h => by
    unfold rplace
    rw [h x (by simp), rplace_none t n p (fun y hy => h y (by simp [hy]))]
    simp
/-- The record of a device. -/
def recOf (ds : List Dev) (l : List Rec) (n : Int) : Option Rec := if look ds n = none then none else l.find? (Rec.is n (pathOf (origin ds n)))
end Go.Proofs.YtanaompgapiikaaGreatDoor
