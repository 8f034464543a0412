/- A device stored over ten cells. -/
import Derived.Test.YtpnpjaemlflplaaGreatDoorD1
namespace Go.Proofs.YtpnpjaemlflplaaGreatDoor
open Go.RowKit
set_option linter.unusedVariables false

theorem Fr.setAt {b i : Nat} {a w : World} (h : Fr (Is b) a w) (v : Value) : Fr (Is b) a (w.setCell ⟨b, i, none⟩ v) := h.setCell (p := ⟨b, i, none⟩) (fun _ => rfl) v
/-- A device stored over ten cells. -/
theorem set10 {W : World} {b : Nat} {cs : Array Value} {T : TypeId} (h : W.heap[b]? = some (.cells cs T)) (hs : cs.size = 10) (p : Dev) :
    ((((((((((W.setCell ⟨b, 0, none⟩ (.int .i64 p.index)).setCell ⟨b, 1, none⟩ (.int .i64 p.parent)).setCell ⟨b, 2, none⟩ (.string p.name)).setCell ⟨b, 3, none⟩ (.string p.orig)).setCell ⟨b, 4, none⟩ (.string p.sub)).setCell ⟨b, 5, none⟩ (.string p.drv)).setCell ⟨b, 6, none⟩ (.string p.ali)).setCell ⟨b, 7, none⟩ (.int .i64 p.kind)).setCell ⟨b, 8, none⟩ (.int .i64 p.num)).setCell ⟨b, 9, none⟩ (.slice p.aa p.an p.ac)).heap[b]? = some (.cells p.vals T) ∧ Fr (Is b) W ((((((((((W.setCell ⟨b, 0, none⟩ (.int .i64 p.index)).setCell ⟨b, 1, none⟩ (.int .i64 p.parent)).setCell ⟨b, 2, none⟩ (.string p.name)).setCell ⟨b, 3, none⟩ (.string p.orig)).setCell ⟨b, 4, none⟩ (.string p.sub)).setCell ⟨b, 5, none⟩ (.string p.drv)).setCell ⟨b, 6, none⟩ (.string p.ali)).setCell ⟨b, 7, none⟩ (.int .i64 p.kind)).setCell ⟨b, 8, none⟩ (.int .i64 p.num)).setCell ⟨b, 9, none⟩ (.slice p.aa p.an p.ac)) := by
  refine ⟨?_, Fr.setAt (Fr.setAt (Fr.setAt (Fr.setAt (Fr.setAt (Fr.setAt (Fr.setAt (Fr.setAt (Fr.setAt (Fr.setAt (Fr.refl _ _) _) _) _) _) _) _) _) _) _) _⟩
  obtain ⟨l⟩ := cs
  match l, hs with
  | [_, _, _, _, _, _, _, _, _, _], _ =>
    have h0 := block_setCell h 0 (.int .i64 p.index)
    have h1 := block_setCell h0 1 (.int .i64 p.parent)
    have h2 := block_setCell h1 2 (.string p.name)
    have h3 := block_setCell h2 3 (.string p.orig)
    have h4 := block_setCell h3 4 (.string p.sub)
    have h5 := block_setCell h4 5 (.string p.drv)
    have h6 := block_setCell h5 6 (.string p.ali)
    have h7 := block_setCell h6 7 (.int .i64 p.kind)
    have h8 := block_setCell h7 8 (.int .i64 p.num)
    have h9 := block_setCell h8 9 (.slice p.aa p.an p.ac)
    simp only [List.setIfInBounds_toArray, List.set_cons_zero, List.set_cons_succ] at h9
    exact h9
end Go.Proofs.YtpnpjaemlflplaaGreatDoor
