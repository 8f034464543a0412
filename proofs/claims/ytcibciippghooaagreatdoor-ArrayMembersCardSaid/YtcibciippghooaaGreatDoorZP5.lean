/- Deadlines in memory: slices of api.Deadline. The next deadline. coldplugref32.With on ascending texts: plain, and the walk. coldplugref32.IDs. -/
import Derived.Test.YtcibciippghooaaGreatDoorZL20
import Derived.Test.YtcibciippghooaaGreatDoorZL22
import Derived.Test.YtcibciippghooaaGreatDoorZL4
import Derived.Test.YtcibciippghooaaGreatDoorZL6
import Derived.Sort.Walk0
namespace Go.Proofs.YtcibciippghooaaGreatDoor
open Go.RowKit Go.Maps
set_option linter.unusedVariables false

structure Dl where
  i : ByteArray
  a : Int
def Dl.vals (v : Dl) : Array Value := #[.string v.i, .int .i64 v.a]
structure Dls (w : World) (a : Option Addr) (cap : Nat) (L : List Dl) : Prop where
  len : L.length ≤ cap
  max : cap ≤ maxLen
  isNil : a = none → L = [] ∧ cap = 0
  cell : ∀ ad, a = some ad → L ≠ [] → ad.spot = none ∧ ad.block < w.heap.size ∧ ∀ i m, L[i]? = some m → ∀ j, j < 2 → w.cell? ⟨ad.block, ad.off + (i * 2 + j), none⟩ = m.vals[j]?
/-- The two cells of a deadline at (b, o). -/
structure DlAt (w : World) (b o : Nat) (m : Dl) : Prop where
  c0 : w.cell? ⟨b, o, none⟩ = some (.string m.i)
  c1 : w.cell? ⟨b, o + 1, none⟩ = some (.int .i64 m.a)
theorem Dls.elem {w : World} {a : Option Addr} {cap : Nat} {L : List Dl} (h : Dls w a cap L) {k : Nat} (hk : k < L.length) :
    ∃ b off m, a = some ⟨b, off, none⟩ ∧ L[k]? = some m ∧ DlAt w b (off + k * 2) m ∧ b < w.heap.size := by
  cases a with
  | none => obtain ⟨rfl, _⟩ := h.isNil rfl; simp at hk
  | some ad =>
    obtain ⟨b, off, sp⟩ := ad
    obtain ⟨h1, h2, h3⟩ := h.cell _ rfl (by intro e; subst e; simp at hk)
    simp at h1; subst h1
    have hc := h3 k _ (List.getElem?_eq_getElem hk)
    exact ⟨b, off, L[k], rfl, List.getElem?_eq_getElem hk, ⟨hc 0 (by omega), hc 1 (by omega)⟩, h2⟩
theorem Dls.lenmax {w : World} {a : Option Addr} {cap : Nat} {L : List Dl} (h : Dls w a cap L) : L.length ≤ 9223372036854775807 := by
  have h1 := h.len; have h2 := h.max; unfold maxLen at h2; omega
theorem Dls.fr {S : Nat → Prop} {w w' : World} {a : Option Addr} {cap : Nat} {L : List Dl} (h : Dls w a cap L) (hf : Fr S w w') (hS : ∀ ad, a = some ad → L ≠ [] → ¬ S ad.block) : Dls w' a cap L :=
  ⟨h.len, h.max, h.isNil, fun ad e hne => by
    obtain ⟨h1, h2, h3⟩ := h.cell ad e hne
    refine ⟨h1, Nat.lt_of_lt_of_le h2 hf.size, fun i m hi j hj => ?_⟩
    rw [← h3 i m hi j hj]
    exact World.cell?_of_block (hf.block _ h2 (hS ad e hne))⟩
theorem Dls.no {S : Nat → Prop} {w w' : World} {a : Option Addr} {cap : Nat} {L : List Dl} (h : Dls w a cap L) (hf : Fr S w w') (hS : ∀ k, ¬ S k) : Dls w' a cap L := h.fr hf (fun _ _ _ => hS _)
theorem Dls.nil (w : World) : Dls w none 0 [] := ⟨by simp, by simp, fun _ => ⟨rfl, rfl⟩, fun _ e _ => by cases e⟩
theorem infoDl : (Tryz.prog.info? 68).map (fun i => (i.zero, i.size, i.bytes)) = some (some (.agg #[.string ByteArray.empty, .int .i64 0]), 2, 24) := by kernel_rfl
def dflat (L : List Dl) : List Value := L.flatMap (fun m => m.vals.toList)
theorem dflat_snoc (L : List Dl) (m : Dl) : dflat (L ++ [m]) = dflat L ++ m.vals.toList := by simp [dflat]
theorem dvals_one (m : Dl) : ∀ u ∈ m.vals.toList, u.oneCell' = true := by
  intro u hu
  simp [Dl.vals] at hu
  rcases hu with rfl | rfl <;> rfl
theorem dflat_at : ∀ (L : List Dl) (i : Nat) (m : Dl), L[i]? = some m → ∀ j, j < 2 → (dflat L)[i * 2 + j]? = m.vals[j]?
  | [], i, m, h, j, hj => by simp at h
  | x :: t, 0, m, h, j, hj => by
    simp at h; subst h
    have : dflat (x :: t) = x.vals.toList ++ dflat t := by simp [dflat]
    rw [this, List.getElem?_append_left (by simp [Dl.vals]; omega)]
    simp
  | x :: t, i + 1, m, h, j, hj => by
    have : dflat (x :: t) = x.vals.toList ++ dflat t := by simp [dflat]
    rw [this, List.getElem?_append_right (by simp [Dl.vals]; omega), show (i + 1) * 2 + j - x.vals.toList.length = i * 2 + j from by simp [Dl.vals]; omega]
    exact dflat_at t i m (by simpa using h) j hj
theorem Dls.of_own {w : World} {base : Nat} {e : TypeId} {v : Value} {L : List Dl} (h : w.ownsRow base e 2 v L.length (dflat L)) :
    ∃ a cap, v = .slice a L.length cap ∧ Dls w a cap L ∧ ∀ ad, a = some ad → base ≤ ad.block := by
  obtain ⟨_, ⟨rfl, h2⟩ | ⟨g, cap, cur, rfl, hg, hb, h1, h2, h3, h4⟩⟩ := h
  · have : L = [] := List.eq_nil_of_length_eq_zero h2
    subst this
    exact ⟨none, 0, rfl, Dls.nil w, fun _ e => by cases e⟩
  · refine ⟨some ⟨g, 0, none⟩, cap, rfl, ⟨h1, h2, (fun e => by cases e), ?_⟩, fun ad e => by cases e; exact hg⟩
    intro ad e hne
    cases e
    refine ⟨rfl, lt_of_block hb, fun i m hi j hj => ?_⟩
    rw [cell_of_block hb]
    simp only [Nat.zero_add]
    have hlt : i < L.length := (List.getElem?_eq_some_iff.1 hi).1
    have e1 : (cur.toList.take (L.length * 2))[i * 2 + j]? = (dflat L)[i * 2 + j]? := by rw [h4]
    rw [List.getElem?_take_of_lt (by omega), dflat_at L i m hi j hj] at e1
    rw [← Array.getElem?_toList, e1]
theorem dflat_len (L : List Dl) : (dflat L).length = L.length * 2 := by
  induction L with
  | nil => rfl
  | cons d t ih =>
    have : dflat (d :: t) = d.vals.toList ++ dflat t := by simp [dflat]
    rw [this, List.length_append, ih]
    simp [Dl.vals]; omega
theorem dflat_one (L : List Dl) : ∀ u ∈ dflat L, u.oneCell' = true := by
  intro u hu
  obtain ⟨m, _, h⟩ := List.mem_flatMap.1 hu
  exact dvals_one m u h
theorem dflat_append (L M : List Dl) : dflat (L ++ M) = dflat L ++ dflat M := by simp [dflat]
theorem Dls.keep {S : Nat → Prop} {w w' : World} {a : Option Addr} {cap : Nat} {L : List Dl} (h : Dls w a cap L) (hf : Fr S w w') (hS : ∀ b, b < w.heap.size → ¬ S b) : Dls w' a cap L :=
  h.fr hf (fun ad e hne => hS _ (h.cell ad e hne).2.1)
theorem dflat_get : ∀ (L : List Dl) (j : Nat) (u : Value), (dflat L)[j]? = some u → ∃ m, L[j / 2]? = some m ∧ m.vals[j % 2]? = some u
  | [], j, u, h => by simp [dflat] at h
  | x :: t, j, u, h => by
    have e : dflat (x :: t) = x.vals.toList ++ dflat t := by simp [dflat]
    have hl : x.vals.toList.length = 2 := by simp [Dl.vals]
    rw [e] at h
    by_cases hj : j < 2
    · rw [List.getElem?_append_left (by omega)] at h
      refine ⟨x, by rw [show j / 2 = 0 by omega]; rfl, ?_⟩
      rw [show j % 2 = j by omega, ← Array.getElem?_toList]; exact h
    · rw [List.getElem?_append_right (by omega), hl] at h
      obtain ⟨m, h1, h2⟩ := dflat_get t (j - 2) u h
      refine ⟨m, ?_, ?_⟩
      · rw [show j / 2 = (j - 2) / 2 + 1 by omega]; simpa using h1
      · rw [show j % 2 = (j - 2) % 2 by omega]; exact h2
theorem Dls.all {w : World} {a : Option Addr} {cap : Nat} {L : List Dl} (h : Dls w a cap L) :
    (∀ ad, a = some ad → ∀ j u, (dflat L)[j]? = some u → w.cell? (ad.add j) = some u) ∧ (a = none → L.length = 0 ∧ cap = 0) := by
  constructor
  · intro ad e j u hu
    obtain ⟨m, h1, h2⟩ := dflat_get _ _ _ hu
    obtain ⟨hsp, _, h3⟩ := h.cell ad e (by intro e; subst e; simp at h1)
    have h4 := h3 (j / 2) m h1 (j % 2) (by omega)
    obtain ⟨b, o, sp⟩ := ad
    simp only at hsp h4
    subst hsp
    rw [Addr.add_lit, show o + j = o + (j / 2 * 2 + j % 2) by omega, h4]
    exact h2
  · intro e
    obtain ⟨h1, h2⟩ := h.isNil e
    rw [h1]; exact ⟨rfl, h2⟩

open Go.ChangeShapes
section
variable {H : Type} {enc : TypeId × Value → H} {w : World} {base : Nat} {spare : Nat → Bool} {held : Bool}
set_option maxRecDepth 100000 in
theorem structDl : ∃ f0 f1 : Field, Tryz.prog.underlying 68 = some (.struct #[f0, f1]) ∧ (f0.offset = 0 ∧ f0.type = 9) ∧ (f1.offset = 1 ∧ f1.type = 3) :=
  ⟨_, _, Tryz.underlying68, ⟨rfl, rfl⟩, ⟨rfl, rfl⟩⟩
/-- The bounds of deadlines that came in. -/
structure DlsIn (L : List Dl) : Prop where
  n : L.length * 24 ≤ reachBytes
  i : ∀ m ∈ L, m.i.size ≤ reachBytes
  a : ∀ m ∈ L, (Lit.int .i64 m.a).wf = true
set_option maxRecDepth 100000 in
theorem open_dl_raw {fuel : Nat} {cs : List Value} {x : DataW H × List MemPlace} (h : DataW.trod enc Tryz.prog w base spare held fuel 68 cs = some x) (hz : Wt 68 x.1) :
    ∃ m : Dl, cs = m.vals.toList ∧ m.i.size ≤ reachBytes ∧ (Lit.int .i64 m.a).wf = true := by
  obtain ⟨f0, f1, hu, ⟨o0, t0⟩, ⟨o1, t1⟩⟩ := structDl
  obtain ⟨xs, k, hk, hxy, hlen, hxl, hf⟩ := DataW.trod_struct hu h
  have hc : Tryz.prog.cellsOf 68 = 2 := by kernel_rfl
  have hcs : Tryz.prog.cellsOf 9 = 1 := by kernel_rfl
  have hci : Tryz.prog.cellsOf 3 = 1 := by kernel_rfl
  rw [hc] at hlen
  match xs, hxl, cs, hlen with
  | [y0, y1], _, [v0, v1], _ =>
    have g0 := hf 0 f0 rfl
    have g1 := hf 1 f1 rfl
    rw [o0, t0, hcs] at g0
    rw [o1, t1, hci] at g1
    subst hxy
    have z0 := wt_struct (j := 0) (f := f0) (d := y0.1) hu hz rfl rfl
    rw [t0] at z0
    obtain ⟨s0, e0, d0, b0⟩ := DataW.trod_string Tryz.underlying9 (show DataW.trod enc Tryz.prog w base spare held k 9 [v0] = some y0 from g0)
    obtain ⟨n1, e1, _, b1⟩ := DataW.trod_int Tryz.underlying3 (show DataW.trod enc Tryz.prog w base spare held k 3 [v1] = some y1 from g1)
    rw [d0] at z0
    cases e0; cases e1
    exact ⟨⟨s0, n1⟩, rfl, wt_string z0, b1⟩
set_option maxRecDepth 100000 in
theorem open_dls_raw {fuel : Nat} {cs : List Value} {x : DataW H × List MemPlace} (h : DataW.trod enc Tryz.prog w base spare held fuel 62 cs = some x) (hz : Wt 62 x.1) :
    ∃ a c L, cs = [.slice a (L : List Dl).length c] ∧ Dls w a c L ∧ DlsIn L := by
  rcases Go.Deep.open_slice Tryz.underlying62 h with ⟨rfl, _⟩ | ⟨a, len, cap, m, n, D, Pl, rfl, hb, hl, hm, hmm, rfl, hx⟩
  · exact ⟨none, 0, [], rfl, Dls.nil w, ⟨by simp, by simp, by simp⟩⟩
  · have hc : Tryz.prog.cellsOf 68 = 2 := by kernel_rfl
    rw [hc] at hx
    have hlm : len ≤ m := by rw [hmm]; split <;> omega
    obtain ⟨z1, z2⟩ := wt_slice Tryz.underlying62 hz
    have hbs : Tryz.prog.bytesOf 68 = 24 := by kernel_rfl
    rw [hbs] at z1
    have each : ∀ i, i < len → ∃ M : Dl, (∀ j, j < 2 → w.cell? ((a.add (i * 2)).add j) = M.vals[j]?) ∧ M.i.size ≤ reachBytes ∧ (Lit.int .i64 M.a).wf = true := fun i hi => by
      obtain ⟨cs', h1, h2⟩ := hx i (by omega)
      obtain ⟨M, rfl, hS, hM⟩ := open_dl_raw h2 (z2 _ (List.mem_map.2 ⟨i, List.mem_range.2 hi, rfl⟩))
      obtain ⟨_, _, h3⟩ := World.cells?_some h1
      exact ⟨M, fun j hj => by rw [h3 j hj]; simp, hS, hM⟩
    obtain ⟨F, hF⟩ : ∃ F : Nat → Dl, ∀ i, i < len → (∀ j, j < 2 → w.cell? ((a.add (i * 2)).add j) = (F i).vals[j]?) ∧ (F i).i.size ≤ reachBytes ∧ (Lit.int .i64 (F i).a).wf = true := by
      refine ⟨fun i => if hi : i < len then Classical.choose (each i hi) else ⟨⟨#[]⟩, 0⟩, fun i hi => ?_⟩
      simp only [hi, dif_pos]
      exact Classical.choose_spec (each i hi)
    have hL : ((List.range len).map F).length = len := by simp
    refine ⟨some a, cap, (List.range len).map F, by rw [hL], ⟨by rw [hL]; exact hl, hm, (fun e => by cases e), fun ad e hne => ?_⟩, ⟨?_, fun M hM => ?_, fun M hM => ?_⟩⟩
    · cases e
      have hpos : 0 < len := by rw [← hL]; exact List.length_pos_iff.2 hne
      have h0 := (hF 0 hpos).1 0 (by omega)
      have h0' : w.cell? ((a.add (0 * 2)).add 0) = some (.string (F 0).i) := by rw [h0]; rfl
      have hsp : a.spot = none := by simpa [Addr.add] using World.cell?_spot h0'
      have hbl := lt_of_cell h0'
      obtain ⟨b, off, sp⟩ := a
      simp at hsp
      subst hsp
      rw [Addr.add_lit, Addr.add_lit] at hbl
      refine ⟨rfl, hbl, fun i M hi j hj => ?_⟩
      have hil : i < len := by rw [← hL]; exact (List.getElem?_eq_some_iff.1 hi).1
      have h6 := (hF i hil).1 j hj
      rw [List.getElem?_map, List.getElem?_range hil] at hi
      obtain rfl : F i = M := by simpa using hi
      rw [Addr.add_lit, Addr.add_lit] at h6
      rw [← h6]
      rw [← Nat.add_assoc]
    · rw [hL]; rw [List.length_map, List.length_range] at z1; omega
    · obtain ⟨i, hi, rfl⟩ := List.mem_map.1 hM
      exact (hF i (List.mem_range.1 hi)).2.1
    · obtain ⟨i, hi, rfl⟩ := List.mem_map.1 hM
      exact (hF i (List.mem_range.1 hi)).2.2
end
end Go.Proofs.YtcibciippghooaaGreatDoor
namespace Go.Proofs.YtcibciippghooaaGreatDoor
open Go.RowKit Go.Maps
set_option linter.unusedVariables false

def nxS (now : Int) (o : Option Int) (d : Dl) : Option Int := if now < d.a then (match o with | none => some d.a | some x => if d.a < x then some d.a else some x) else o
def nextV (D : List Dl) (now : Int) : Option Int := D.foldl (nxS now) none
theorem nextV_take {D : List Dl} {k : Nat} {d : Dl} (now : Int) (h : D[k]? = some d) : nextV (D.take (k + 1)) now = nxS now (nextV (D.take k) now) d := by
  unfold nextV; rw [List.take_add_one, h, List.foldl_append]; rfl
def NextR (o : Option Int) (e : Ending) : Prop := e = .returned (.tuple #[.int .i64 (o.getD 0), .bool o.isSome])

set_option maxRecDepth 100000 in
set_option maxHeartbeats 2000000 in
theorem a_next (a : Option Addr) (cap : Nat) (D : List Dl) (now : Int) (w : World) (hD : Dls w a cap D) :
    Calls Tryz.prog 34 #[.slice a D.length cap, .int .i64 now] w fun e w' => NextR (nextV D now) e ∧ Fr No w w' := by
  have hm := hD.lenmax
  go_enter Tryz.func34, Tryz.ntmps34
  go_wp2_with fail
  go_loopw [6, 7, 12] (fun at_ ok i wr => ∃ (k : Nat) (o : Option Int), k ≤ D.length ∧ at_ = .int .i64 (o.getD 0) ∧ ok = .bool o.isSome ∧ i = .int .i64 (k : Int) ∧ Hid (nextV (D.take k) now = o) ∧ Fr No w wr) (fun _ _ i _ => D.length - (intOf i).toNat)
  case atStart => exact ⟨0, none, by omega, rfl, rfl, rfl, by unfold Hid; simp [nextV], Fr.refl _ _⟩
  case round =>
    obtain ⟨k, o, hk, rfl, rfl, rfl, HO, hf⟩ := hrel
    by_cases hlt : k < D.length
    · have hlt' : (k : Int) < D.length := by omega
      obtain ⟨b, off, d, rfl, hdk, ⟨c0, c1⟩, _⟩ := (hD.no hf (fun _ => id)).elem hlt
      have Htk := Lib.hid (nextV_take now hdk)
      clear hdk
      have hal : Fr No wr (wr.alloc (.cells #[.string d.i, .int .i64 d.a] 68)) := (Fr.refl _ _).alloc _
      have z1 : (wr.alloc (.cells #[.string d.i, .int .i64 d.a] 68)).cell? ⟨wr.heap.size, 1, none⟩ = some (.int .i64 d.a) := cell_of_block (block_alloc _ _) 1
      have Hf := Lib.hid (hf.step hal (fun _ _ h => h))
      clear hf
      by_cases h1 : now < d.a
      · rcases o with _ | x
        · simp only [Option.getD_none, Option.isSome_none]
          have HO' : Hid (nextV (D.take (k + 1)) now = some d.a) := by unfold Hid; rw [Htk.out, HO.out]; unfold nxS; simp [h1]
          go_wp2_with fail
          go_roundw
          case rel => exact ⟨k + 1, some d.a, by omega, rfl, rfl, by go_num, HO', Hf.out⟩
          case measure => simp [intOf]; omega
        · simp only [Option.getD_some, Option.isSome_some]
          by_cases h2 : d.a < x
          · have HO' : Hid (nextV (D.take (k + 1)) now = some d.a) := by unfold Hid; rw [Htk.out, HO.out]; unfold nxS; simp [h1, h2]
            go_wp2_with fail
            go_roundw
            case rel => exact ⟨k + 1, some d.a, by omega, rfl, rfl, by go_num, HO', Hf.out⟩
            case measure => simp [intOf]; omega
          · have HO' : Hid (nextV (D.take (k + 1)) now = some x) := by unfold Hid; rw [Htk.out, HO.out]; unfold nxS; simp [h1, h2]
            go_wp2_with fail
            go_roundw
            case rel => exact ⟨k + 1, some x, by omega, rfl, rfl, by go_num, HO', Hf.out⟩
            case measure => simp [intOf]; omega
      · rcases o with _ | x
        · simp only [Option.getD_none, Option.isSome_none]
          have HO' : Hid (nextV (D.take (k + 1)) now = none) := by unfold Hid; rw [Htk.out, HO.out]; unfold nxS; simp [h1]
          go_wp2_with fail
          go_roundw
          case rel => exact ⟨k + 1, none, by omega, rfl, rfl, by go_num, HO', Hf.out⟩
          case measure => simp [intOf]; omega
        · simp only [Option.getD_some, Option.isSome_some]
          have HO' : Hid (nextV (D.take (k + 1)) now = some x) := by unfold Hid; rw [Htk.out, HO.out]; unfold nxS; simp [h1]
          go_wp2_with fail
          go_roundw
          case rel => exact ⟨k + 1, some x, by omega, rfl, rfl, by go_num, HO', Hf.out⟩
          case measure => simp [intOf]; omega
    · obtain rfl : k = D.length := by omega
      have hO := HO.out
      rw [List.take_length] at hO
      have HOe := Lib.hid hO
      clear hO HO
      go_wp2_with fail
      go_ret2
      exact ⟨by unfold NextR; rw [HOe.out]; rfl, hf⟩
end Go.Proofs.YtcibciippghooaaGreatDoor
namespace Go.Proofs.YtcibciippghooaaGreatDoor
open Go.RowKit Go.Maps Go.Sort
set_option linter.unusedVariables false

def wbl (x : ByteArray) : List UInt8 := x.data.toList
def wlb (x : List UInt8) : ByteArray := ⟨x.toArray⟩
theorem wlb_wbl (x : ByteArray) : wlb (wbl x) = x := by unfold wlb wbl; simp
theorem wle_ne_lt {x y : List UInt8} (h : x ≤ y) (hne : y ≠ x) : x < y := by
  apply Classical.byContradiction
  intro hn
  exact hne (List.le_antisymm (List.not_lt.1 hn) h)
/-- A text stands before another. -/
def ltS (x y : ByteArray) : Prop := Op.bytesLess x.toList y.toList = true
theorem ltS_iff {x y : ByteArray} : ltS x y ↔ wbl x < wbl y := by
  unfold ltS
  rw [bytesLess_eq, ByteArray.toList_eq, ByteArray.toList_eq]
  unfold wbl
  simp
theorem wbl_inj {x y : ByteArray} (h : wbl x = wbl y) : x = y := by rw [← wlb_wbl x, h, wlb_wbl]
theorem ltS_trans {x y z : ByteArray} (h1 : ltS x y) (h2 : ltS y z) : ltS x z := by
  rw [ltS_iff] at *; exact List.lt_trans h1 h2
theorem ltS_irrefl (x : ByteArray) : ¬ ltS x x := by rw [ltS_iff]; exact List.lt_irrefl _
theorem ltS_of_ge {x y : ByteArray} (h : ¬ ltS x y) (hne : x ≠ y) : ltS y x := by
  rw [ltS_iff] at *
  exact wle_ne_lt (List.not_lt.1 h) (fun e => hne (wbl_inj e))
theorem ltS_le {x y z : ByteArray} (h1 : ¬ ltS y x) (h2 : ltS y z) : ltS x z := by
  rw [ltS_iff] at *
  exact List.lt_of_le_of_lt (List.not_lt.1 h1) h2

def wStep (s : ByteArray) (o : List ByteArray × Bool) (x : ByteArray) : List ByteArray × Bool :=
  let o1 := if (!o.2 && !Op.bytesLess x.toList s.toList) = true then (o.1 ++ [s], true) else o
  if (x.toList == s.toList) = true then o1 else (o1.1 ++ [x], o1.2)
def wFold (s : ByteArray) (l : List ByteArray) : List ByteArray × Bool := l.foldl (wStep s) ([], false)
/-- coldplugref32.With. -/
def with32 (l : List ByteArray) (s : ByteArray) : List ByteArray := if (wFold s l).2 = true then (wFold s l).1 else (wFold s l).1 ++ [s]
theorem wFold_snoc (s : ByteArray) (l : List ByteArray) (x : ByteArray) : wFold s (l ++ [x]) = wStep s (wFold s l) x := by
  unfold wFold; rw [List.foldl_append]; rfl
theorem wFold_take {s : ByteArray} {l : List ByteArray} {k : Nat} {x : ByteArray} (h : l[k]? = some x) : wFold s (l.take (k + 1)) = wStep s (wFold s (l.take k)) x := by
  rw [List.take_add_one, h]; exact wFold_snoc s _ x

structure SInv (s : ByteArray) (p : List ByteArray) (o : List ByteArray × Bool) : Prop where
  no : o.2 = false → o.1 = p ∧ ∀ y ∈ p, ltS y s
  yes : o.2 = true → o.1.Pairwise ltS ∧ (∀ y, y ∈ o.1 ↔ y = s ∨ y ∈ p) ∧ ∃ y ∈ p, ¬ ltS y s
theorem SInv.nil (s : ByteArray) : SInv s [] ([], false) := ⟨fun _ => ⟨rfl, by simp⟩, fun e => by cases e⟩
theorem SInv.step {s : ByteArray} {p : List ByteArray} {o : List ByteArray × Bool} {x : ByteArray} (h : SInv s p o) (hp : (p ++ [x]).Pairwise ltS) : SInv s (p ++ [x]) (wStep s o x) := by
  obtain ⟨o1, d⟩ := o
  rw [List.pairwise_append] at hp
  obtain ⟨hp1, -, hp2⟩ := hp
  have hx : ∀ y ∈ p, ltS y x := fun y hy => hp2 y hy x (by simp)
  cases d with
  | false =>
    obtain ⟨e, hlt⟩ := h.no rfl
    simp only at e
    subst e
    by_cases hxs : ltS x s
    · have hne : (x.toList == s.toList) = false := by
        rw [strEq]
        exact decide_eq_false fun e => by subst e; exact ltS_irrefl _ hxs
      have e : wStep s (o1, false) x = (o1 ++ [x], false) := by
        have : Op.bytesLess x.toList s.toList = true := hxs
        simp [wStep, this, hne]
      rw [e]
      refine ⟨fun _ => ⟨rfl, fun y hy => ?_⟩, fun e => by cases e⟩
      rcases List.mem_append.1 hy with h1 | h1
      · exact hlt y h1
      · simp at h1; subst h1; exact hxs
    · have hb : Op.bytesLess x.toList s.toList = false := by
        unfold ltS at hxs; simpa using hxs
      by_cases hne : x = s
      · subst hne
        have e : wStep x (o1, false) x = (o1 ++ [x], true) := by simp [wStep, hb]
        rw [e]
        refine ⟨(fun e => by cases e), fun _ => ⟨?_, ?_, ⟨x, by simp, hxs⟩⟩⟩
        · simp only [List.pairwise_append]; exact ⟨hp1, by simp, fun y hy z hz => by simp at hz; subst hz; exact hx y hy⟩
        · intro y
          simp only [List.mem_append, List.mem_singleton]
          exact ⟨fun h => h.elim (fun a => .inr (.inl a)) .inl, fun h => h.elim .inr (fun h => h)⟩
      · have hq : (x.toList == s.toList) = false := by rw [strEq]; exact decide_eq_false hne
        have e : wStep s (o1, false) x = (o1 ++ [s] ++ [x], true) := by simp [wStep, hb, hq]
        have hsx := ltS_of_ge hxs hne
        rw [e]
        refine ⟨(fun e => by cases e), fun _ => ⟨?_, ?_, ⟨x, by simp, hxs⟩⟩⟩
        · simp only [List.pairwise_append]
          refine ⟨⟨hp1, by simp, fun y hy z hz => by simp at hz; subst hz; exact hlt y hy⟩, by simp, fun y hy z hz => ?_⟩
          simp at hz; subst hz
          rcases List.mem_append.1 hy with h1 | h1
          · exact hx y h1
          · simp at h1; subst h1; exact hsx
        · intro y
          simp only [List.mem_append, List.mem_singleton]
          exact ⟨fun h => h.elim (fun h => h.elim (fun a => .inr (.inl a)) .inl) (fun a => .inr (.inr a)), fun h => h.elim (fun a => .inl (.inr a)) (fun h => h.elim (fun a => .inl (.inl a)) .inr)⟩
  | true =>
    obtain ⟨h1, h2, z, hz, hzs⟩ := h.yes rfl
    have hsx : ltS s x := ltS_le hzs (hx z hz)
    have hne : (x.toList == s.toList) = false := by
      rw [strEq]; exact decide_eq_false fun e => by subst e; exact ltS_irrefl _ hsx
    have e : wStep s (o1, true) x = (o1 ++ [x], true) := by simp [wStep, hne]
    rw [e]
    refine ⟨(fun e => by cases e), fun _ => ⟨?_, ?_, ⟨z, by simp [hz], hzs⟩⟩⟩
    · simp only [List.pairwise_append]
      refine ⟨h1, by simp, fun y hy z hz => ?_⟩
      simp at hz; subst hz
      rcases (h2 y).1 hy with rfl | h3
      · exact hsx
      · exact hx y h3
    · intro y
      have h4 := h2 y
      simp only [List.mem_append, List.mem_singleton]
      exact ⟨fun h => h.elim (fun a => (h4.1 a).elim .inl (fun b => .inr (.inl b))) (fun a => .inr (.inr a)), fun h => h.elim (fun a => .inl (h4.2 (.inl a))) (fun h => h.elim (fun a => .inl (h4.2 (.inr a))) .inr)⟩
theorem wFold_inv (s : ByteArray) : ∀ (q p : List ByteArray) (o : List ByteArray × Bool), (p ++ q).Pairwise ltS → SInv s p o → SInv s (p ++ q) (q.foldl (wStep s) o)
  | [], p, o, _, h => by simpa using h
  | x :: t, p, o, hp, h => by
    have e : p ++ x :: t = (p ++ [x]) ++ t := by simp
    rw [e] at hp ⊢
    exact wFold_inv s t (p ++ [x]) _ hp (h.step (List.pairwise_append.1 hp).1)
theorem with32_ok {l : List ByteArray} (s : ByteArray) (h : l.Pairwise ltS) : (with32 l s).Pairwise ltS ∧ ∀ y, y ∈ with32 l s ↔ y = s ∨ y ∈ l := by
  have hw := wFold_inv s l [] ([], false) (by simpa using h) (SInv.nil s)
  rw [List.nil_append] at hw
  change SInv s l (wFold s l) at hw
  unfold with32
  cases hd : (wFold s l).2 with
  | true => obtain ⟨h1, h2, _⟩ := hw.yes hd; simpa using ⟨h1, h2⟩
  | false =>
    obtain ⟨h1, h2⟩ := hw.no hd
    rw [h1]
    simp only [Bool.false_eq_true, if_false]
    refine ⟨?_, fun y => by simp only [List.mem_append, List.mem_singleton]; exact or_comm⟩
    rw [List.pairwise_append]
    exact ⟨h, by simp, fun y hy z hz => by simp at hz; subst hz; exact h2 y hy⟩
/-- Sorted lists of the same members are the same. -/
theorem sorted_eq : ∀ {l l' : List ByteArray}, l.Pairwise ltS → l'.Pairwise ltS → (∀ y, y ∈ l ↔ y ∈ l') → l = l'
  | [], [], _, _, _ => rfl
  | [], y :: t, _, _, h => by have := (h y).2 (by simp); simp at this
  | x :: t, [], _, _, h => by have := (h x).1 (by simp); simp at this
  | x :: t, y :: u, h1, h2, h => by
    rw [List.pairwise_cons] at h1 h2
    have hxy : x = y := by
      rcases List.mem_cons.1 ((h x).1 (by simp)) with e | hx
      · exact e
      · rcases List.mem_cons.1 ((h y).2 (by simp)) with e | hy
        · exact e.symm
        · exact absurd (ltS_trans (h1.1 y hy) (h2.1 x hx)) (ltS_irrefl _)
    subst hxy
    rw [sorted_eq h1.2 h2.2 (fun z => ?_)]
    have hz := h z
    constructor
    · intro hm
      rcases List.mem_cons.1 (hz.1 (by simp [hm])) with e | h3
      · subst e; exact absurd (h1.1 _ hm) (ltS_irrefl _)
      · exact h3
    · intro hm
      rcases List.mem_cons.1 (hz.2 (by simp [hm])) with e | h3
      · subst e; exact absurd (h2.1 _ hm) (ltS_irrefl _)
      · exact h3
theorem sorted_nodup {l : List ByteArray} (h : l.Pairwise ltS) : l.Nodup := h.imp (fun {a b} h e => by subst e; exact ltS_irrefl _ h)

theorem wStep_t {s x : ByteArray} (o : List ByteArray) (h : (x.toList == s.toList) = false) : wStep s (o, true) x = (o ++ [x], true) := by simp [wStep, h]
theorem wStep_lt {s x : ByteArray} (o : List ByteArray) (h1 : Op.bytesLess x.toList s.toList = true) (h : (x.toList == s.toList) = false) : wStep s (o, false) x = (o ++ [x], false) := by simp [wStep, h, h1]
theorem wStep_eq (s : ByteArray) (o : List ByteArray) (h1 : Op.bytesLess s.toList s.toList = false) : wStep s (o, false) s = (o ++ [s], true) := by simp [wStep, h1]
theorem wStep_gt {s x : ByteArray} (o : List ByteArray) (h1 : Op.bytesLess x.toList s.toList = false) (h : (x.toList == s.toList) = false) : wStep s (o, false) x = (o ++ [s] ++ [x], true) := by simp [wStep, h, h1]
theorem wStep_len (s : ByteArray) (o : List ByteArray × Bool) (x : ByteArray) : (wStep s o x).1.length ≤ o.1.length + 2 := by
  unfold wStep
  split <;> split <;> simp
theorem foldl_wlen (s : ByteArray) : ∀ (l : List ByteArray) (o : List ByteArray × Bool), (l.foldl (wStep s) o).1.length ≤ o.1.length + 2 * l.length
  | [], o => by simp
  | x :: t, o => by
    have h1 := foldl_wlen s t (wStep s o x)
    have h2 := wStep_len s o x
    simp only [List.foldl_cons, List.length_cons]
    omega
theorem wFold_len (s : ByteArray) (l : List ByteArray) : (wFold s l).1.length ≤ 2 * l.length := by
  have := foldl_wlen s l ([], false)
  simpa [wFold] using this
def wPot (o : List ByteArray × Bool) : Nat := o.1.length + if o.2 = true then 0 else 1
theorem wStep_pot (s : ByteArray) (o : List ByteArray × Bool) (x : ByteArray) : wPot (wStep s o x) ≤ wPot o + 1 := by
  obtain ⟨o, d⟩ := o
  unfold wStep wPot
  cases d <;> cases Op.bytesLess x.toList s.toList <;> cases (x.toList == s.toList) <;> simp
theorem foldl_pot (s : ByteArray) : ∀ (l : List ByteArray) (o : List ByteArray × Bool), wPot (l.foldl (wStep s) o) ≤ wPot o + l.length
  | [], o => by simp
  | x :: t, o => by
    have h1 := foldl_pot s t (wStep s o x)
    have h2 := wStep_pot s o x
    simp only [List.foldl_cons, List.length_cons]
    omega
theorem with32_len (l : List ByteArray) (s : ByteArray) : (with32 l s).length ≤ l.length + 1 := by
  have h : wPot (wFold s l) ≤ wPot ([], false) + l.length := foldl_pot s l ([], false)
  unfold wPot at h
  unfold with32
  cases hd : (wFold s l).2 with
  | true => simp [hd] at h ⊢; omega
  | false => simp [hd] at h ⊢; omega
theorem wFold_sinv {s : ByteArray} {l : List ByteArray} (hs : l.Pairwise ltS) : SInv s l (wFold s l) := by
  have hw := wFold_inv s l [] ([], false) (by simpa using hs) (SInv.nil s)
  rwa [List.nil_append] at hw
theorem lt_false {x y : ByteArray} (h : ¬ ltS x y) : Op.bytesLess x.toList y.toList = false := by unfold ltS at h; simpa using h
theorem ne_false {x s : ByteArray} (h : x ≠ s) : (x.toList == s.toList) = false := by rw [strEq]; exact decide_eq_false h
theorem sorted_front {l : List ByteArray} {k : Nat} {x : ByteArray} (h : l.Pairwise ltS) (hk : l[k]? = some x) : ∀ y ∈ l.take k, ltS y x := by
  intro y hy
  have h2 : (l.take (k + 1)).Pairwise ltS := List.Pairwise.sublist (List.take_sublist _ _) h
  rw [List.take_add_one, hk] at h2
  exact (List.pairwise_append.1 h2).2.2 y hy x (by simp)

end Go.Proofs.YtcibciippghooaaGreatDoor
namespace Go.Proofs.YtcibciippghooaaGreatDoor
open Go.RowKit Go.Maps
set_option linter.unusedVariables false

/-- The IDs, ascending, each once, as the reference gathers them. -/
def idsW (L : List Mem) : List ByteArray := L.foldl (fun o m => with32 o m.i) []
theorem idsW_snoc (L : List Mem) (m : Mem) : idsW (L ++ [m]) = with32 (idsW L) m.i := by simp [idsW, List.foldl_append]
theorem idsW_ok (L : List Mem) : (idsW L).Pairwise ltS ∧ (∀ y, y ∈ idsW L ↔ ∃ m ∈ L, m.i = y) ∧ (idsW L).length ≤ L.length := by
  refine rev_ind (P := fun L => (idsW L).Pairwise ltS ∧ (∀ y, y ∈ idsW L ↔ ∃ m ∈ L, m.i = y) ∧ (idsW L).length ≤ L.length) ?_ ?_ L
  · exact ⟨List.Pairwise.nil, by simp [idsW], by simp [idsW]⟩
  · intro l x ⟨h1, h2, h3⟩
    rw [idsW_snoc]
    obtain ⟨h4, h5⟩ := with32_ok x.i h1
    refine ⟨h4, fun y => ?_, ?_⟩
    · rw [h5, h2]
      constructor
      · rintro (rfl | ⟨m, hm, rfl⟩)
        · exact ⟨x, by simp, rfl⟩
        · exact ⟨m, by simp [hm], rfl⟩
      · rintro ⟨m, hm, rfl⟩
        rcases List.mem_append.1 hm with h | h
        · exact .inr ⟨m, h, rfl⟩
        · obtain rfl : m = x := by simpa using h
          exact .inl rfl
    · have := with32_len (idsW l) x.i
      simp only [List.length_append, List.length_cons, List.length_nil]
      omega
end Go.Proofs.YtcibciippghooaaGreatDoor
