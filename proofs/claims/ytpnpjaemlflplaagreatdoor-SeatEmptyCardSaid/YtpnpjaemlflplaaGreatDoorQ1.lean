/- The set of Indexes of package queue: has, add, drop. -/
import Derived.Test.YtpnpjaemlflplaaGreatDoorFr
namespace Go.Proofs.YtpnpjaemlflplaaGreatDoor
open Go.RowKit Go.Maps

def upd (f : Int → Bool) (x : Int) (b : Bool) : Int → Bool := fun y => if y = x then b else f y

/-- Block mb is a map[int]struct that holds just the numbers of f; N is a bound on how many. -/
def ISet (w : World) (mb : Nat) (f : Int → Bool) (N : Nat) : Prop :=
  ∃ (D : DataW Unit) (n : Nat), n ≤ N ∧ w.ownsMap Tryz.prog 3 unitElem mb n D ∧ ∀ x, has D (.int .i64 x) = f x

theorem ISet.lt {w : World} {mb : Nat} {f : Int → Bool} {N : Nat} (h : ISet w mb f N) : mb < w.heap.size := by
  obtain ⟨D, n, _, ho, _⟩ := h; exact ho.lt

theorem ISet.mono {w : World} {mb : Nat} {f : Int → Bool} {N M : Nat} (h : ISet w mb f N) (hN : N ≤ M) : ISet w mb f M := by
  obtain ⟨D, n, hn, r⟩ := h; exact ⟨D, n, by omega, r⟩

theorem ISet.fr {S : Nat → Prop} {w w' : World} {mb : Nat} {f : Int → Bool} {N : Nat} (h : ISet w mb f N) (hf : Fr S w w') (hS : ¬ S mb) : ISet w' mb f N := by
  obtain ⟨D, n, hn, ho, r⟩ := h; exact ⟨D, n, hn, hf.ownsMap ho hS, r⟩

theorem lawI : Keyed Tryz.prog 3 := int_keyed Tryz.underlying3
theorem zeroU (w : World) : (zeroValue 112).run Tryz.prog w = .ok (.agg #[]) w := by kernel_rfl

theorem isKeyInt (x : Int) : WideAt.IsKeyLit (.int .i64 x) := by
  simp [WideAt.IsKeyLit]

set_option maxHeartbeats 400000 in
theorem set_has (mb : Nat) (f : Int → Bool) (N : Nat) (x : Int) (w : World) (hs : ISet w mb f N) (hx : (Lit.int .i64 x).wf = true) :
    Calls Tryz.prog 78 #[.map (some mb), .int .i64 x] w fun e w' => e = .returned (.bool (f x)) ∧ Fr No w w' := by
  obtain ⟨D, n, hn, ho, hf⟩ := hs
  have hkey := keyOf_int_mk Tryz.underlying3 hx
  rw [← hf x]
  clear hf
  go_enter Tryz.func78, Tryz.ntmps78
  go_wp2_with (at_lookup; refine wpList_lookup_own_unit _ rfl _ _ 91 rfl 3 112 lawI Tryz.underlying91 (zeroU _) mb n D rfl ho _ _ rfl hkey ?_)
  go_ret
  exact ⟨rfl, (Fr.refl _ _).alloc _⟩

set_option maxHeartbeats 400000 in
theorem set_add (mb : Nat) (f : Int → Bool) (N : Nat) (x : Int) (w : World) (hs : ISet w mb f N) (hN : N < maxLen) (hx : (Lit.int .i64 x).wf = true) :
    Calls Tryz.prog 71 #[.map (some mb), .int .i64 x] w fun e w' => e = .returned (.tuple #[]) ∧ ISet w' mb (upd f x true) (N + 1) ∧ Fr (Is mb) w w' := by
  obtain ⟨D, n, hn, ho, hf⟩ := hs
  have hkey := keyOf_int_mk Tryz.underlying3 hx
  have Hf := Lib.hid hf
  clear hf
  go_enter Tryz.func71, Tryz.ntmps71
  go_wp2_with (at_mapUpdate; refine wpList_mapUpdate_own _ rfl _ _ _ 91 rfl 3 112 lawI Tryz.underlying91 _ mb n D rfl ho (by omega) _ _ _ rfl rfl hkey _ [] unitElem_mk ?_; intro w1 hown1 hgrow1)
  go_end0
  refine ⟨rfl, ⟨_, n + 1, by omega, hown1, fun y => ?_⟩, Fr.of_grown_some hgrow1⟩
  unfold upd
  split
  · rename_i h; subst h; exact has_put_same ho.isMap (isKeyInt _) _
  · rename_i h; rw [has_put_other (by intro e; exact h (by simpa using e))]; exact Hf.out y

set_option maxHeartbeats 400000 in
theorem set_drop (mb : Nat) (f : Int → Bool) (N : Nat) (x : Int) (w : World) (hs : ISet w mb f N) (hx : (Lit.int .i64 x).wf = true) :
    Calls Tryz.prog 79 #[.map (some mb), .int .i64 x] w fun e w' => e = .returned (.tuple #[]) ∧ ISet w' mb (upd f x false) N ∧ Fr (Is mb) w w' := by
  obtain ⟨D, n, hn, ho, hf⟩ := hs
  have hkey := keyOf_int_mk Tryz.underlying3 hx
  have Hf := Lib.hid hf
  clear hf
  go_enter Tryz.func79, Tryz.ntmps79
  go_wp2_with (at_delete; refine wpList_delete_own _ rfl _ _ 91 3 rfl 112 lawI Tryz.underlying91 _ mb n D rfl ho _ _ rfl hkey ?_; intro w1 hown1 hturn1)
  go_end0
  refine ⟨rfl, ⟨_, n, by omega, hown1, fun y => ?_⟩, Fr.of_grown_some hturn1.grown⟩
  unfold upd
  split
  · rename_i h; subst h; exact has_del_same
  · rename_i h; rw [has_del_other (by intro e; exact h (by simpa using e))]; exact Hf.out y
end Go.Proofs.YtpnpjaemlflplaaGreatDoor
