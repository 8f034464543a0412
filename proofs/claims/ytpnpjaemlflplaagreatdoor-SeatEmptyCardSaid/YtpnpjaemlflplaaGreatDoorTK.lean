/- A tree in memory under frames; a new tape. -/
import Derived.Test.YtpnpjaemlflplaaGreatDoorTB
namespace Go.Proofs.YtpnpjaemlflplaaGreatDoor
open Go.RowKit Go.Maps
set_option linter.unusedVariables false

theorem Tr.keep {X W : World} {base : Nat} {a : Option Addr} {cap : Nat} {ds : List Dev} {S : Nat → Prop} (h : Tr X base a cap ds) (hf : Fr S X W) (hS : ∀ b, b < X.heap.size → base ≤ b → ¬ S b) : Tr W base a cap ds := by
  refine ⟨h.dv.fr hf (fun ad e hne => hS _ (h.dv.cell ad e hne).2.1 (h.fresh ad e)), h.wf, h.fresh, fun d hd => ?_⟩
  have he := h.el d hd
  obtain ⟨l, h1, h2⟩ := he.att
  exact ⟨he.sz, he.drv, ⟨l, h1.fr hf (fun ad e hne => hS _ (h1.cell ad e hne).2.1 (he.fresh ad e)), h2⟩, he.fresh⟩
theorem Tape.make {w : World} {a : Option Addr} {cap : Nat} {l : List Int} (h : Ints w a cap l) (T : TypeId) :
    Tape (w.alloc (.cells #[.slice a l.length cap, .int .i64 0] T)) w.heap.size w.heap.size 0 :=
  ⟨a, cap, l, T, h.fr ((Fr.refl No _).alloc _) (fun _ _ _ h => h), fun ad e hne => (h.cell ad e hne).2.1, Nat.le_refl _, block_alloc _ _⟩
end Go.Proofs.YtpnpjaemlflplaaGreatDoor
