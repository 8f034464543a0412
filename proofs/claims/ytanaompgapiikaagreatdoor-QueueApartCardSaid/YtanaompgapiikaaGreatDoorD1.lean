/- Devices in memory: slices of api.Device that are read. index, Find. -/
import Derived.Test.YtanaompgapiikaaGreatDoorFr
import Derived.Test.YtanaompgapiikaaGreatDoorI1
namespace Go.Proofs.YtanaompgapiikaaGreatDoor
open Go.RowKit
set_option linter.unusedVariables false

structure Dev where
  index : Int
  parent : Int
  name : ByteArray
  orig : ByteArray
  sub : ByteArray
  drv : ByteArray
  ali : ByteArray
  kind : Int
  num : Int
  aa : Option Addr
  an : Nat
  ac : Nat

def Dev.cell (d : Dev) : Nat → Value
  | 0 => .int .i64 d.index
  | 1 => .int .i64 d.parent
  | 2 => .string d.name
  | 3 => .string d.orig
  | 4 => .string d.sub
  | 5 => .string d.drv
  | 6 => .string d.ali
  | 7 => .int .i64 d.kind
  | 8 => .int .i64 d.num
  | _ => .slice d.aa d.an d.ac
def Dev.vals (d : Dev) : Array Value := #[.int .i64 d.index, .int .i64 d.parent, .string d.name, .string d.orig, .string d.sub, .string d.drv, .string d.ali, .int .i64 d.kind, .int .i64 d.num, .slice d.aa d.an d.ac]
def Dev.zero : Dev := ⟨0, 0, ByteArray.empty, ByteArray.empty, ByteArray.empty, ByteArray.empty, ByteArray.empty, 0, 0, none, 0, 0⟩

/-- A slice of devices: its elements are 'ds'. -/
structure Devs (w : World) (a : Option Addr) (cap : Nat) (ds : List Dev) : Prop where
  len : ds.length ≤ cap
  max : cap ≤ maxLen
  isNil : a = none → ds = [] ∧ cap = 0
  cell : ∀ ad, a = some ad → ds ≠ [] → ad.spot = none ∧ ad.block < w.heap.size ∧ ∀ i d, ds[i]? = some d → ∀ j, j < 10 → w.cell? ⟨ad.block, ad.off + (i * 10 + j), none⟩ = some (d.cell j)

theorem Devs.at {w : World} {a : Option Addr} {cap : Nat} {ds : List Dev} (h : Devs w a cap ds) {k : Nat} (hk : k < ds.length) :
    ∃ b off d, a = some ⟨b, off, none⟩ ∧ ds[k]? = some d ∧ ∀ j, j < 10 → w.cell? ⟨b, off + (k * 10 + j), none⟩ = some (d.cell j) := by
  cases a with
  | none => obtain ⟨rfl, _⟩ := h.isNil rfl; simp at hk
  | some ad =>
    obtain ⟨b, off, sp⟩ := ad
    obtain ⟨h1, h2, h3⟩ := h.cell _ rfl (by intro e; subst e; simp at hk)
    simp at h1; subst h1
    exact ⟨b, off, ds[k], rfl, List.getElem?_eq_getElem hk, h3 k _ (List.getElem?_eq_getElem hk)⟩
/-- The ten cells of a device at (b, o). -/
structure DevAt (w : World) (b o : Nat) (d : Dev) : Prop where
  c0 : w.cell? ⟨b, o, none⟩ = some (.int .i64 d.index)
  c1 : w.cell? ⟨b, o + 1, none⟩ = some (.int .i64 d.parent)
  c2 : w.cell? ⟨b, o + 2, none⟩ = some (.string d.name)
  c3 : w.cell? ⟨b, o + 3, none⟩ = some (.string d.orig)
  c4 : w.cell? ⟨b, o + 4, none⟩ = some (.string d.sub)
  c5 : w.cell? ⟨b, o + 5, none⟩ = some (.string d.drv)
  c6 : w.cell? ⟨b, o + 6, none⟩ = some (.string d.ali)
  c7 : w.cell? ⟨b, o + 7, none⟩ = some (.int .i64 d.kind)
  c8 : w.cell? ⟨b, o + 8, none⟩ = some (.int .i64 d.num)
  c9 : w.cell? ⟨b, o + 9, none⟩ = some (.slice d.aa d.an d.ac)
theorem Devs.dev {w : World} {a : Option Addr} {cap : Nat} {ds : List Dev} (h : Devs w a cap ds) {k : Nat} (hk : k < ds.length) :
    ∃ b off d, a = some ⟨b, off, none⟩ ∧ ds[k]? = some d ∧ DevAt w b (off + k * 10) d := by
  obtain ⟨b, off, d, ha, hd, hc⟩ := h.at hk
  refine ⟨b, off, d, ha, hd, ?_⟩
  exact ⟨hc 0 (by omega), hc 1 (by omega), hc 2 (by omega), hc 3 (by omega), hc 4 (by omega), hc 5 (by omega), hc 6 (by omega), hc 7 (by omega), hc 8 (by omega), hc 9 (by omega)⟩
theorem Devs.lenmax {w : World} {a : Option Addr} {cap : Nat} {ds : List Dev} (h : Devs w a cap ds) : ds.length ≤ 9223372036854775807 := by
  have h1 := h.len; have h2 := h.max; unfold maxLen at h2; omega
theorem Devs.fr {S : Nat → Prop} {w w' : World} {a : Option Addr} {cap : Nat} {ds : List Dev} (h : Devs w a cap ds) (hf : Fr S w w') (hS : ∀ ad, a = some ad → ds ≠ [] → ¬ S ad.block) : Devs w' a cap ds :=
  ⟨h.len, h.max, h.isNil, fun ad e hne => by
    obtain ⟨h1, h2, h3⟩ := h.cell ad e hne
    exact ⟨h1, Nat.lt_of_lt_of_le h2 hf.size, fun i d hi j hj => hf.cell (h3 i d hi j hj) (hS ad e hne)⟩⟩
theorem Devs.no {S : Nat → Prop} {w w' : World} {a : Option Addr} {cap : Nat} {ds : List Dev} (h : Devs w a cap ds) (hf : Fr S w w') (hS : ∀ k, ¬ S k) : Devs w' a cap ds := h.fr hf (fun _ _ _ => hS _)
theorem Devs.nil (w : World) : Devs w none 0 [] := ⟨by simp, by simp, fun _ => ⟨rfl, rfl⟩, fun _ e _ => by cases e⟩

/-- Where the device with an Index stands, or -1. -/
def place : List Dev → Int → Int
  | [], _ => -1
  | d :: t, n => if d.index = n then 0 else if place t n < 0 then -1 else place t n + 1

theorem place_lo : ∀ (ds : List Dev) (n : Int), -1 ≤ place ds n ∧ place ds n < ds.length
  | [], n => by simp [place]
  | d :: t, n => by
    have := place_lo t n
    unfold place
    split
    · simp only [List.length_cons]; omega
    · split <;> simp only [List.length_cons] <;> omega
theorem place_take : ∀ (ds : List Dev) (n : Int) (k : Nat) (d : Dev), ds[k]? = some d → d.index = n → (∀ x ∈ ds.take k, x.index ≠ n) → place ds n = k
  | [], n, k, d, h, _, _ => by simp at h
  | x :: t, n, 0, d, h, e, _ => by simp at h; subst h; simp [place, e]
  | x :: t, n, k + 1, d, h, e, hn => by
    have h1 : x.index ≠ n := hn x (by simp)
    have h2 := place_take t n k d (by simpa using h) e (fun y hy => hn y (by simp [hy]))
    unfold place
    rw [if_neg h1, h2]
    split <;> omega
theorem place_none : ∀ (ds : List Dev) (n : Int), (∀ x ∈ ds, x.index ≠ n) → place ds n = -1
  | [], n, _ => rfl
  | x :: t, n, h => by
    unfold place
    rw [if_neg (h x (by simp)), place_none t n (fun y hy => h y (by simp [hy]))]
    simp

set_option maxHeartbeats 400000 in
theorem ref_index (a : Option Addr) (cap : Nat) (ds : List Dev) (n : Int) (w : World) (hl : Devs w a cap ds) :
    Calls Tryz.prog 103 #[.slice a ds.length cap, .int .i64 n] w fun e w' => e = .returned (.int .i64 (place ds n)) ∧ w = w' := by
  have hm := hl.lenmax
  go_enter Tryz.func103, Tryz.ntmps103
  go_wp2
  go_loop [5] (fun i => ∃ k : Nat, k ≤ ds.length ∧ i = .int .i64 k ∧ Hid (∀ x ∈ ds.take k, x.index ≠ n)) (fun i => ds.length - (intOf i).toNat)
  case atStart => exact ⟨0, by omega, rfl, by unfold Hid; simp⟩
  case round =>
    obtain ⟨k, hk, rfl, hno⟩ := hrel
    by_cases hlt : k < ds.length
    · obtain ⟨b, off, d, rfl, hx, hc⟩ := hl.at hlt
      have Hx := Lib.hid hx
      have c0 := hc 0 (by omega)
      simp only [Dev.cell, Nat.add_zero] at c0
      clear hx hc
      by_cases hxn : d.index = n
      · have hb : (d.index == n) = true := by simpa using hxn
        go_wp2
        go_ret
        exact ⟨ret_int (place_take ds n k d Hx.out hxn hno.out).symm, rfl⟩
      · have hb : (d.index == n) = false := by simpa using hxn
        go_wp2
        go_round
        case rel =>
          refine ⟨k + 1, by omega, by go_num, ?_⟩
          unfold Hid
          intro x hx
          rw [List.take_add_one, Hx.out] at hx
          rcases List.mem_append.1 hx with h | h
          · exact hno.out x h
          · simp at h; subst h; exact hxn
        case measure => simp [intOf]; omega
    · obtain rfl : k = ds.length := by omega
      have h := hno.out
      rw [List.take_of_length_le (by omega)] at h
      go_wp2
      go_ret
      exact ⟨ret_int (place_none _ _ h).symm, rfl⟩
/-- The device with an Index, or the zero device. -/
def devOf (ds : List Dev) (n : Int) : Dev := if place ds n < 0 then Dev.zero else (ds[(place ds n).toNat]?).getD Dev.zero

set_option maxHeartbeats 1000000 in
theorem ref_find (a : Option Addr) (cap : Nat) (ds : List Dev) (n : Int) (w : World) (hl : Devs w a cap ds) :
    Calls Tryz.prog 84 #[.agg #[.slice a ds.length cap], .int .i64 n] w fun e w' => e = .returned (.tuple #[.agg (devOf ds n).vals, .bool (decide (0 ≤ place ds n))]) ∧ Fr No w w' := by
  have hx : Fr No w (w.alloc (.cells #[.slice a ds.length cap] 25)) := (Fr.refl _ _).alloc _
  have hy : Fr No w ((w.alloc (.cells #[.slice a ds.length cap] 25)).alloc (.cells #[.int .i64 0, .int .i64 0, .string ByteArray.empty, .string ByteArray.empty, .string ByteArray.empty, .string ByteArray.empty, .string ByteArray.empty, .int .i64 0, .int .i64 0, .slice none 0 0] 36)) := hx.alloc _
  have hly := hl.no hy (fun _ => id)
  go_enter Tryz.func84, Tryz.ntmps84
  go_wp2_with fail
  refine (ref_index a cap ds n _ hly).mono ?_
  rintro e w1 ⟨rfl, rfl⟩
  obtain ⟨p, hp⟩ : ∃ p, p = place ds n := ⟨_, rfl⟩
  have hlo := place_lo ds n
  rw [← hp] at hlo
  rw [← hp]
  have Hp := Lib.hid hp
  clear hp
  by_cases hneg : p < 0
  · have hd : devOf ds n = Dev.zero := by unfold devOf; rw [if_pos (by rw [← Hp.out]; exact hneg)]
    have Hd := Lib.hid hd
    clear hd
    have Hb : Hid (decide (0 ≤ place ds n) = false) := decide_eq_false (by rw [← Hp.out]; omega)
    go_wp2_with fail
    refine bodyPost_ret (v := .tuple #[.agg Dev.zero.vals, .bool false]) (by simp [results, Tryz.results84, go_sem, Dev.vals, Dev.zero]; rfl) rfl ?_
    refine (fun (hfr : Fr No w _) => ⟨by rw [Hd.out, Hb.out], hfr⟩) ?_
    repeat (first | exact Fr.refl _ _ | refine Fr.alloc ?_ _ | refine Fr.setNew ?_ (by simp) _)
  · obtain ⟨k, rfl⟩ := Int.eq_ofNat_of_zero_le (by omega : 0 ≤ p)
    have hk : k < ds.length := by omega
    obtain ⟨b, off, d, rfl, hd, hc⟩ := hly.dev hk
    have hdd : devOf ds n = d := by
      unfold devOf
      rw [if_neg (by rw [← Hp.out]; exact hneg), ← Hp.out, Int.toNat_natCast, hd]
      rfl
    have Hd := Lib.hid hdd
    have Hb : Hid (decide (0 ≤ place ds n) = true) := decide_eq_true (by rw [← Hp.out]; omega)
    clear hdd hd
    obtain ⟨c0, c1, c2, c3, c4, c5, c6, c7, c8, c9⟩ := hc
    go_wp2_with fail
    refine bodyPost_ret (v := .tuple #[.agg d.vals, .bool true]) (by simp [results, Tryz.results84, go_sem, Dev.vals]) rfl ?_
    refine (fun (hfr : Fr No w _) => ⟨by rw [Hd.out, Hb.out], hfr⟩) ?_
    repeat (first | exact Fr.refl _ _ | refine Fr.alloc ?_ _ | refine Fr.setNew ?_ (by simp) _)
end Go.Proofs.YtanaompgapiikaaGreatDoor
/- A device stored over ten cells. -/
namespace Go.Proofs.YtanaompgapiikaaGreatDoor
open Go.RowKit
set_option linter.unusedVariables false

theorem Fr.setAt {b i : Nat} {a w : World} (h : Fr (Is b) a w) (v : Value) : Fr (Is b) a (w.setCell ⟨b, i, none⟩ v) := h.setCell (p := ⟨b, i, none⟩) (fun _ => rfl) v
/-- A device stored over ten cells. -/
theorem set10 {W : World} {b : Nat} {cs : Array Value} {T : TypeId} (h : W.heap[b]? = some (.cells cs T)) (hs : cs.size = 10) (p : Dev) :
    ((((((((((W.setCell ⟨b, 0, none⟩ (.int .i64 p.index)).setCell ⟨b, 1, none⟩ (.int .i64 p.parent)).setCell ⟨b, 2, none⟩ (.string p.name)).setCell ⟨b, 3, none⟩ (.string p.orig)).setCell ⟨b, 4, none⟩ (.string p.sub)).setCell ⟨b, 5, none⟩ (.string p.drv)).setCell ⟨b, 6, none⟩ (.string p.ali)).setCell ⟨b, 7, none⟩ (.int .i64 p.kind)).setCell ⟨b, 8, none⟩ (.int .i64 p.num)).setCell ⟨b, 9, none⟩ (.slice p.aa p.an p.ac)).heap[b]? = some (.cells p.vals T) ∧ Fr (Is b) W ((((((((((W.setCell ⟨b, 0, none⟩ (.int .i64 p.index)).setCell ⟨b, 1, none⟩ (.int .i64 p.parent)).setCell ⟨b, 2, none⟩ (.string p.name)).setCell ⟨b, 3, none⟩ (.string p.orig)).setCell ⟨b, 4, none⟩ (.string p.sub)).setCell ⟨b, 5, none⟩ (.string p.drv)).setCell ⟨b, 6, none⟩ (.string p.ali)).setCell ⟨b, 7, none⟩ (.int .i64 p.kind)).setCell ⟨b, 8, none⟩ (.int .i64 p.num)).setCell ⟨b, 9, none⟩ (.slice p.aa p.an p.ac)) := by
  refine ⟨?_, Fr.setAt (Fr.setAt (Fr.setAt (Fr.setAt (Fr.setAt (Fr.setAt (Fr.setAt (Fr.setAt (Fr.setAt (Fr.setAt (Fr.refl _ _) _) _) _) _) _) _) _) _) _) _⟩
  obtain ⟨l⟩ := cs
  match l, hs with
  | [_, _, _, _, _, _, _, _, _, _], _ =>
    have h0 := block_setCell h 0 (.int .i64 p.index)
    have h1 := block_setCell h0 1 (.int .i64 p.parent)
    have h2 := block_setCell h1 2 (.string p.name)
    have h3 := block_setCell h2 3 (.string p.orig)
    have h4 := block_setCell h3 4 (.string p.sub)
    have h5 := block_setCell h4 5 (.string p.drv)
    have h6 := block_setCell h5 6 (.string p.ali)
    have h7 := block_setCell h6 7 (.int .i64 p.kind)
    have h8 := block_setCell h7 8 (.int .i64 p.num)
    have h9 := block_setCell h8 9 (.slice p.aa p.an p.ac)
    simp only [List.setIfInBounds_toArray, List.set_cons_zero, List.set_cons_succ] at h9
    exact h9
/-- A text as a name is: no longer than 32 bytes, and without a slash. -/
def OkN (s : ByteArray) : Prop := s.size ≤ 32 ∧ ∀ b ∈ s.data.toList, b ≠ 47
end Go.Proofs.YtanaompgapiikaaGreatDoor
