/- Package relate: sets; partitions. -/
import Derived.Test.YtanaompgapiikaaGreatDoorStrs2
import Derived.Test.YtanaompgapiikaaGreatDoorG3
import Derived.Test.YtanaompgapiikaaGreatDoorI1
namespace Go.Proofs.YtanaompgapiikaaGreatDoor
open Go.RowKit Go.Maps
set_option linter.unusedVariables false

set_option maxHeartbeats 400000 in
theorem rset_has (mb : Nat) (f : Int → Bool) (N : Nat) (x : Int) (w : World) (hs : ISet w mb f N) (hx : (Lit.int .i64 x).wf = true) :
    Calls Tryz.prog 112 #[.map (some mb), .int .i64 x] w fun e w' => e = .returned (.bool (f x)) ∧ Fr No w w' := by
  obtain ⟨D, n, hn, ho, hf⟩ := hs
  have hkey := keyOf_int_mk Tryz.underlying3 hx
  rw [← hf x]
  clear hf
  go_enter Tryz.func112, Tryz.ntmps112
  go_wp2_with (at_lookup; refine wpList_lookup_own_unit _ rfl _ _ 163 rfl 3 121 lawI Tryz.underlying163 (zeroU _) mb n D rfl ho _ _ rfl hkey ?_)
  go_ret
  exact ⟨rfl, (Fr.refl _ _).alloc _⟩
theorem ISet.put {w w1 : World} {mb : Nat} {D : DataW Unit} {n N : Nat} {f : Int → Bool} (hn : n ≤ N) (ho : w.ownsMap Tryz.prog 3 unitElem mb n D) (h : ∀ x, has D (.int .i64 x) = f x) (x : Int) {v : DataW Unit} (ho1 : w1.ownsMap Tryz.prog 3 unitElem mb (n + 1) (D.put (.int .i64 x) v)) : ISet w1 mb (upd f x true) (N + 1) := by
  refine ⟨_, n + 1, by omega, ho1, fun y => ?_⟩
  unfold upd
  split
  · rename_i h; subst h; exact has_put_same ho.isMap (isKeyInt _) _
  · rename_i h2; rw [has_put_other (by intro e; exact h2 (by simpa using e))]; exact h y
theorem upd_take {l : List Int} {k : Nat} {x : Int} (h : l[k]? = some x) : upd (fun y => decide (y ∈ l.take k)) x true = fun y => decide (y ∈ l.take (k + 1)) := by
  funext y
  unfold upd
  rw [List.take_add_one, h]
  by_cases e : y = x
  · subst e; simp
  · simp [e]
theorem rset_made (w : World) : ISet (w.alloc (.map #[] 0)) w.heap.size (fun _ => false) 0 :=
  ⟨.map [], 0, Nat.le_refl _, World.ownsMap_made _ _ _ _, fun _ => rfl⟩

set_option maxRecDepth 100000 in
set_option maxHeartbeats 1000000 in
theorem rset_of (a : Option Addr) (cap : Nat) (l : List Int) (w : World) (hl : Ints w a cap l) (hb : l.length ≤ 1000000) :
    Calls Tryz.prog 109 #[.slice a l.length cap] w fun e w' => (∃ mb, e = .returned (.map (some mb)) ∧ ISet w' mb (fun x => decide (x ∈ l)) l.length ∧ w.heap.size ≤ mb) ∧ Fr No w w' := by
  have hmm := @run_makeMap Tryz.prog
  have hx : Fr No w (w.alloc (.map #[] 0)) := (Fr.refl _ _).alloc _
  have hI0 := rset_made w
  have hlx := hl.no hx (fun _ => id)
  have hs0 : w.heap.size < (w.alloc (.map #[] 0)).heap.size := by simp
  go_enter Tryz.func109, Tryz.ntmps109
  go_wp2_with fail
  clear hmm
  generalize w.alloc (.map #[] 0) = W0 at *
  go_loopw [9] (fun i wr => ∃ k : Nat, k ≤ l.length ∧ i = .int .i64 (k : Int) ∧ ISet wr w.heap.size (fun y => decide (y ∈ l.take k)) k ∧ Fr (From w.heap.size) w wr) (fun i _ => l.length - (intOf i).toNat)
  case atStart => exact ⟨0, by omega, rfl, by simpa using hI0, hx.mono (fun _ _ h => h.elim)⟩
  case round =>
    obtain ⟨k, hk, rfl, hI, hfr⟩ := hrel
    by_cases hlt : k < l.length
    · have hlt' : (k : Int) < l.length := by omega
      obtain ⟨b, off, x, rfl, hxk, hc⟩ := (hl.from hfr).at hlt
      have hxw := hl.wf x (List.mem_of_getElem? hxk)
      have hkey := keyOf_int_mk Tryz.underlying3 hxw
      have Hup := Lib.hid (upd_take hxk)
      obtain ⟨D, n, hn, ho, hf⟩ := hI
      have Hf := Lib.hid hf
      clear hxk hf
      go_wp2_with (at_mapUpdate; refine wpList_mapUpdate_own _ rfl _ _ _ 163 rfl 3 121 lawI Tryz.underlying163 _ w.heap.size n D rfl ho (by unfold maxLen; omega) _ _ _ rfl rfl hkey _ [] unitElem_mk ?_; intro w1 hown1 hgrow1)
      have hf1 : Fr (From w.heap.size) w w1 := hfr.step (Fr.of_grown_some hgrow1) (fun b hb e => by unfold Is at e; unfold From; omega)
      have hI1 := ISet.put hn ho Hf.out x hown1
      rw [Hup.out] at hI1
      have H := Lib.hid (And.intro hI1 hf1)
      clear hI1 hf1 hown1 hgrow1 ho hfr
      go_roundw
      case rel => exact ⟨k + 1, by omega, by go_num, H.out.1, H.out.2⟩
      case measure => simp [intOf]; omega
    · obtain rfl : k = l.length := by omega
      rw [List.take_length] at hI
      have H := Lib.hid (And.intro hI (hfr.mono (T := No) (fun b hb h => by unfold From at h; omega)))
      clear hI hfr
      go_wp2_with fail
      go_ret
      exact ⟨⟨_, rfl, H.out.1, Nat.le_refl _⟩, H.out.2⟩

/-- The variables ErrSyntax (its block) and ErrRange (its block) hold errors. -/
structure ErrV (w : World) : Prop where
  s : ∃ ev, w.cell? ⟨2, 0, none⟩ = some ev ∧ (ev = .nilIface ∨ ∃ te pe, ev = .iface te pe)
  r : ∃ ev, w.cell? ⟨3, 0, none⟩ = some ev ∧ (ev = .nilIface ∨ ∃ te pe, ev = .iface te pe)
theorem ErrV.fr {S : Nat → Prop} {w w' : World} (h : ErrV w) (hf : Fr S w w') (h5 : ¬ S 2) (h6 : ¬ S 3) : ErrV w' := by
  obtain ⟨e5, c5, k5⟩ := h.s
  obtain ⟨e6, c6, k6⟩ := h.r
  exact ⟨⟨e5, hf.cell c5 h5, k5⟩, ⟨e6, hf.cell c6 h6, k6⟩⟩
theorem ErrV.no {w w' : World} (h : ErrV w) (hf : Fr No w w') : ErrV w' := h.fr hf id id

/-- What follows the parent's original and a p in a device's original. -/
def digitsB (p d : Dev) : ByteArray := ⟨(Lib.trimPrefix d.orig.data.toList (p.orig ++ ⟨#[112]⟩).data.toList).toArray⟩
/-- The number of a partition. -/
def partB (p d : Dev) : Option Int := match Lib.atoiAll (digitsB p d).data.toList with
  | .ok v => if Lib.hasPrefix d.orig.data.toList (p.orig ++ ⟨#[112]⟩).data.toList = true ∧ 1 ≤ v ∧ v ≤ 16 ∧ (Lib.decDigits v.toNat) = (digitsB p d).data.toList ∧ d.kind = 2 ∧ p.kind = 2 then some v else none
  | _ => none
def PartRes (o : Option Int) (e : Ending) : Prop := e = .returned (.tuple #[.int .i64 (o.getD 0), .bool o.isSome])
theorem digits_size {p d : Dev} (h : d.orig.size ≤ 32) : (digitsB p d).size ≤ 32 := by
  unfold digitsB Lib.trimPrefix
  have h2 : d.orig.data.toList.length ≤ 32 := by rw [← Lib.size_eq]; exact h
  split
  · simp only [ByteArray.size, List.size_toArray, List.length_drop]; omega
  · simp only [ByteArray.size, List.size_toArray]; exact h2
end Go.Proofs.YtanaompgapiikaaGreatDoor
