/- coldplugref36.Tagged. -/
import Derived.Test.YtpnpjaemlflplaaGreatDoorK6
import Derived.Test.YtpnpjaemlflplaaGreatDoorKG
namespace Go.Proofs.YtpnpjaemlflplaaGreatDoor
open Go.RowKit Go.Maps
set_option linter.unusedVariables false

set_option maxRecDepth 100000 in
set_option maxHeartbeats 1000000 in
theorem ref_tagged (a ra : Option Addr) (cap rcap : Nat) (ds : List Dev) (l : List Rec) (n : Int) (tag : ByteArray) (w : World) (hl : Devs w a cap ds) (hT : TreeOk ds) (hn : ds.length ≤ 1000) (hr : Recs w ra rcap l) :
    Calls Tryz.prog 29 #[.agg #[.slice a ds.length cap], .slice ra l.length rcap, .int .i64 n, .string tag] w fun e w' => e = .returned (.bool (tagOk ds l [tag] n)) ∧ Fr No w w' := by
  have h0 : Fr No w (w.alloc (.cells #[.slice a ds.length cap] 25)) := (Fr.refl _ _).alloc _
  go_enter Tryz.func29, Tryz.ntmps29
  go_wp2_with fail
  refine (ref_record a ra cap rcap ds l n _ (hl.no h0 (fun _ => id)) hT hn (hr.no h0 (fun _ => id))).mono ?_
  rintro e w1 ⟨hF, hf1⟩
  obtain rfl := hF.eq
  have hok := recOf_ok ((hr.no h0 (fun _ => id)).no hf1 (fun _ => id)) ds n
  have hto : tagOk ds l [tag] n = ((recOf ds l n).isSome && [tag].all (hasS ((recOf ds l n).getD Rec.zero).tags)) := rfl
  have Hto := Lib.hid hto
  have Hf1 := Lib.hid (h0.step hf1 (fun _ _ h => h))
  clear hto hF h0 hf1
  generalize (recOf ds l n).isSome = bs at *
  generalize (recOf ds l n).getD Rec.zero = r at *
  have hyy : Fr No w1 (w1.alloc (.cells r.vals 42)) := (Fr.refl _ _).alloc _
  have Hok := Lib.hid (hok.no hyy (fun _ => id))
  have Hf2 := Lib.hid (Hf1.out.step hyy (fun _ _ h => h))
  clear hok hyy
  unfold Rec.vals
  cases bs with
  | false =>
    go_wp2_with fail
    go_ret
    exact ⟨by rw [Hto.out]; rfl, Hf2.out⟩
  | true =>
    go_wp2_with fail
    refine (ref_in32 _ _ r.tags tag _ Hok.out.tags).mono ?_
    rintro e w2 ⟨rfl, hf2⟩
    have Hf3 := Lib.hid (Hf2.out.step hf2 (fun _ _ h => h))
    clear hf2
    go_wp2_with fail
    go_ret
    exact ⟨by rw [Hto.out]; simp, Hf3.out⟩
end Go.Proofs.YtpnpjaemlflplaaGreatDoor
