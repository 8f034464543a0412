/- The reference's place: a path of names. -/
import Derived.Test.YtpnpjaemlflplaaGreatDoorL4
import Derived.Test.YtpnpjaemlflplaaGreatDoorStrs
namespace Go.Proofs.YtpnpjaemlflplaaGreatDoor
open Go.RowKit Go.Maps
set_option linter.unusedVariables false

theorem fold_bytes : ∀ (l : List ByteArray) (s : ByteArray), (l.foldl (fun s x => s ++ ⟨#[47]⟩ ++ x) s).data.toList = s.data.toList ++ Lib.joinTail [47] (l.map (·.data.toList))
  | [], s => by simp [Lib.joinTail]
  | x :: t, s => by
    rw [List.foldl_cons, fold_bytes t]
    simp [Lib.joinTail]
theorem path_bytes (l : List ByteArray) : (pathOf l).data.toList = Lib.joinTail [47] (l.map (·.data.toList)) := by
  unfold pathOf; rw [fold_bytes]; rfl
theorem path_join {l : List ByteArray} (h : l ≠ []) : (⟨#[47]⟩ : ByteArray) ++ ⟨(Lib.join (l.map (·.data.toList)) [47]).toArray⟩ = pathOf l := by
  refine bytes_eq ?_
  rw [path_bytes]
  cases l with
  | nil => exact absurd rfl h
  | cons x t => simp [Lib.join_cons, Lib.joinTail]
theorem tail_le : ∀ (l : List ByteArray), (∀ x ∈ l, x.size ≤ 32) → (Lib.joinTail [47] (l.map (·.data.toList))).length ≤ 33 * l.length
  | [], _ => by simp [Lib.joinTail]
  | x :: t, h => by
    have h1 := tail_le t (fun y hy => h y (List.mem_cons_of_mem _ hy))
    have h2 := h x (List.mem_cons_self ..)
    have h3 : x.data.toList.length = x.size := by simp
    simp only [Lib.joinTail, List.map_cons, List.flatten_cons, List.length_append, List.length_cons, List.length_nil, List.map_map] at h1 ⊢
    omega
theorem join_le {l : List ByteArray} (h : ∀ x ∈ l, x.size ≤ 32) : (Lib.join (l.map (·.data.toList)) [47]).length ≤ 33 * l.length := by
  cases l with
  | nil => simp [Lib.join, List.intercalate]
  | cons x t =>
    have := tail_le (x :: t) h
    simp only [List.map_cons, Lib.join_cons, Lib.joinTail, List.flatten_cons, List.length_append, List.length_cons, List.length_nil] at this ⊢
    omega

set_option maxRecDepth 100000 in
set_option maxHeartbeats 1000000 in
theorem ref_join (a : Option Addr) (cap : Nat) (l : List ByteArray) (w : World) (hl : Strs w a cap l) (hne : l ≠ []) (hs : ∀ x ∈ l, x.size ≤ 32) (hn : l.length ≤ 1000000) :
    Calls Tryz.prog 67 #[.slice a l.length cap] w fun e w' => e = .returned (.string (pathOf l)) ∧ Fr No w w' := by
  have h1 : l.length ≠ 0 := fun h => hne (List.eq_nil_of_length_eq_zero h)
  obtain ⟨b, off, x, rfl, _, _⟩ := hl.at (k := 0) (by omega)
  obtain ⟨_, hb, hc⟩ := hl.cell _ rfl hne
  have hj := join_le hs
  have hcap := hl.len
  have hp := Lib.hid (path_join hne)
  go_enter Tryz.func67, Tryz.ntmps67
  go_wp2_with fail
  refine (Tryz.strings_Join b off cap l ⟨#[47]⟩ _ (fun j x hx => hc j x hx) hb (by omega) hcap (by show (Lib.join _ [47]).length ≤ _; omega)).mono ?_
  rintro e w1 ⟨rfl, hf⟩
  have hf1 := Fr.of_below_size hf
  have hsz : (Lib.join (l.map (·.data.toList)) [47]).length ≤ 33000000 := by omega
  have e47 : (⟨#[47]⟩ : ByteArray).data.toList = [47] := rfl
  rw [e47]
  go_wp2_with fail
  go_ret
  refine ⟨?_, hf1⟩
  rw [← hp.out]; rfl

theorem origin_sz {ds : List Dev} (hT : TreeOk ds) (n : Int) : ∀ x ∈ origin ds n, x.size ≤ 32 := by
  intro x hx
  unfold origin at hx
  rw [List.mem_reverse] at hx
  obtain ⟨d, hd, rfl⟩ := List.mem_map.1 hx
  exact hT.sz d (chain_mem hd)

set_option maxRecDepth 100000 in
set_option maxHeartbeats 1000000 in
theorem ref_place (a : Option Addr) (cap : Nat) (ds : List Dev) (n : Int) (w : World) (hl : Devs w a cap ds) (hT : TreeOk ds) (hb : ds.length ≤ 1000000) :
    Calls Tryz.prog 26 #[.agg #[.slice a ds.length cap], .int .i64 n] w fun e w' => e = .returned (.string (pathOf (origin ds n))) ∧ Fr No w w' := by
  have hx : Fr No w (w.alloc (.cells #[.slice a ds.length cap] 25)) := (Fr.refl _ _).alloc _
  have hlx := hl.no hx (fun _ => id)
  have hol : (origin ds n).length ≤ 1000000 := by unfold origin; simp; have := chain_len ds n; omega
  have hz := Lib.hid (origin_sz hT n)
  go_enter Tryz.func26, Tryz.ntmps26
  go_wp2_with fail
  refine (ref_origin a cap ds n _ hlx hb).mono ?_
  rintro e w1 ⟨⟨v, rfl, hown⟩, hf1⟩
  obtain ⟨ac, cc, rfl, hS, hfresh⟩ := Strs.of_own hown
  have hfr1 := hx.step hf1 (fun _ _ h => h)
  clear hown hx hlx hl
  by_cases hne : origin ds n = []
  · have Hne := Lib.hid hne
    have h0 : (origin ds n).length = 0 := by rw [hne]; rfl
    clear hne hol hS
    go_wp2_with fail
    go_ret
    refine ⟨?_, hfr1⟩
    rw [Hne.out]; rfl
  · have h0 : 0 < (origin ds n).length := List.length_pos_iff.2 hne
    have h0' : (0 : Int) < (origin ds n).length := by omega
    have Hne := Lib.hid hne
    clear hne
    go_wp2_with fail
    refine (ref_join ac cc (origin ds n) _ hS Hne.out hz.out hol).mono ?_
    rintro e w2 ⟨rfl, hf2⟩
    go_wp2_with fail
    go_ret
    exact ⟨rfl, hfr1.step hf2 (fun _ _ h => h)⟩
end Go.Proofs.YtpnpjaemlflplaaGreatDoor
