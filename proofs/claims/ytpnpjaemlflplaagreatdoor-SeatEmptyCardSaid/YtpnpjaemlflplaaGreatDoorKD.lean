/- SameTexts; the example in memory. -/
import Derived.Test.YtpnpjaemlflplaaGreatDoorKC
namespace Go.Proofs.YtpnpjaemlflplaaGreatDoor
open Go.RowKit Go.Maps
set_option linter.unusedVariables false

def sameT (l l' : List ByteArray) : Bool := decide (l.map (·.toList) = l'.map (·.toList))

set_option maxHeartbeats 1000000 in
theorem same_texts (a a' : Option Addr) (cap cap' : Nat) (l l' : List ByteArray) (w : World) (hl : Strs w a cap l) (hl' : Strs w a' cap' l') :
    Calls Tryz.prog 23 #[.slice a l.length cap, .slice a' l'.length cap'] w fun e w' => e = .returned (.bool (sameT l l')) ∧ Fr No w w' := by
  have hm := hl.lenmax
  have hm' := hl'.lenmax
  by_cases hlen : l.length = l'.length
  · have hlb : ((l.length : Int) != l'.length) = false := by simp [hlen]
    have Hlen := Lib.hid hlen
    clear hlen
    go_enter Tryz.func23, Tryz.ntmps23
    go_wp2_with fail
    go_loopw [5] (fun i wr => ∃ k : Nat, k ≤ l.length ∧ i = .int .i64 (k : Int) ∧ Hid ((l.take k).map (·.toList) = (l'.take k).map (·.toList)) ∧ Fr No w wr) (fun i _ => l.length - (intOf i).toNat)
    case atStart => exact ⟨0, by omega, rfl, by unfold Hid; simp, Fr.refl _ _⟩
    case round =>
      obtain ⟨k, hk, rfl, hp, hf⟩ := hrel
      by_cases hlt : k < l.length
      · have hlt1 : (k : Int) < l.length := by omega
        have hlt2 : (k : Int) < l'.length := by have := Hlen.out; omega
        have hlt3 : k < l'.length := by omega
        go_wp2_with fail
        refine region_sig No [(0, false), (1, false), (2, false), (3, false), (4, false), (5, false), (6, false), (7, false), (8, false)] (by kernel_rfl) (by kernel_rfl) (fun w0 hf0 => ?_)
        have hf1 := hf.step hf0 (fun _ _ h => h)
        obtain ⟨b, off, x, rfl, hx, c0⟩ := (hl.no hf1 (fun _ => id)).at hlt
        obtain ⟨b', off', x', rfl, hx', c1⟩ := (hl'.no hf1 (fun _ => id)).at hlt3
        have g0 : ∀ g : Gr No w0, g.W.cell? ⟨b, off + k, none⟩ = some (.string x) := fun g => g.fr.cell c0 id
        have g1 : ∀ g : Gr No w0, g.W.cell? ⟨b', off' + k, none⟩ = some (.string x') := fun g => g.fr.cell c1 id
        have Hx := Lib.hid hx
        have Hx' := Lib.hid hx'
        clear c0 c1 hx hx'
        repeat (apply sig_q; exact rfl; exact rfl; exact rfl; intro K hK; go_big_quiet_op; go_big_quiet_on)
        refine sig_end ?_
        rcases he : (x.toList == x'.toList) with _ | _
        · have Hs : Hid (sameT l l' = false) := by
            unfold Hid sameT
            rw [decide_eq_false_iff_not]
            intro h
            have h1 : (l.map (·.toList))[k]? = (l'.map (·.toList))[k]? := by rw [h]
            rw [List.getElem?_map, List.getElem?_map, Hx.out, Hx'.out] at h1
            simp at h1
            rw [h1] at he
            simp at he
          go_wp2_with fail
          go_ret
          exact ⟨ret_bool Hs.out.symm, hf1⟩
        · have He := Lib.hid he
          go_wp2_with fail
          go_roundw
          case rel =>
            refine ⟨k + 1, by omega, by go_num, ?_, hf1⟩
            unfold Hid
            rw [List.take_add_one, List.take_add_one, Hx.out, Hx'.out, List.map_append, List.map_append, hp.out]
            have := He.out
            simp at this
            simp [this]
          case measure => simp [intOf]; omega
      · obtain rfl : k = l.length := by omega
        have Hs : Hid (sameT l l' = true) := by
          unfold Hid sameT
          have h := hp.out
          rw [List.take_length, Hlen.out, List.take_length] at h
          simpa using h
        go_wp2_with fail
        go_ret
        exact ⟨ret_bool Hs.out.symm, hf⟩
  · have hlb : ((l.length : Int) != l'.length) = true := by simp; omega
    have Hs : Hid (sameT l l' = false) := by
      unfold Hid sameT
      rw [decide_eq_false_iff_not]
      intro h
      have := congrArg List.length h
      simp at this
      exact hlen this
    clear hlen
    go_enter Tryz.func23, Tryz.ntmps23
    go_wp2_with fail
    go_ret
    exact ⟨ret_bool Hs.out.symm, Fr.refl _ _⟩
end Go.Proofs.YtpnpjaemlflplaaGreatDoor
