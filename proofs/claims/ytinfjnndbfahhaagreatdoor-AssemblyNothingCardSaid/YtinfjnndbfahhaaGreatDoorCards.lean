/-
  DERIVED. GIVEN WITH THE SEED: THE CARDS: each row of YtinfjnndbfahhaaGreatDoorRows.lean that lists a variable, with what it lists TIED to the program's text (the seventh form; the later family's looks); each row that meets fmt, with fmt's text TOLD by the authors' own Lean function (tested against real Go, not proved from fmt's source: count such statements apart). THE CARD IS WHAT COUNTS. Prove the row's statement (the work); the ties are given (YtinfjnndbfahhaaGreatDoorTie.lean); close each card by the builder's one call (the guide's Derived/Test/ToyasCard.lean, 'card_holds'). Laid BY PROGRAM, IN A SANDBOX (cutbox-door.mjs). By AI agents, Wed Nov 11 2026. No macro, syntax, notation, axiom, sorry.
-/
import Derived.Test.YtinfjnndbfahhaaGreatDoorRows
import GoSem.ClaimSeven
namespace Go.Proofs.YtinfjnndbfahhaaGreatDoor
namespace Rows

/-- THE TIED CARD OF 'coldpluglaw35.AssemblyNothing'. -/
def assemblyNothingCard : Claim7 := { stood := { row := assemblyNothingRow, standIns := [], harness := (true, "f001992a249a5ac51cdd41fbd1c6353ccb7b5a982127091b7842870b3849f593"), looks := true }, kinds := [], alts := [], laidByText := true, laidKinds := [.data, .data, .data, .data, .sentinel, .sentinel, .pinned, .pinned], laidTests := true, laidLooks := .later }
def AssemblyNothingCardSaid : Prop := Claim7.holds Tryz.pinned (.plain (OpenSpec.ofChange assemblyNothingSpec)) assemblyNothingCard

/-- THE SECOND FORM's CARD OF 'coldpluglaw35.AssemblyNothing'. -/
def assemblyNothingUptoCard : Claim7 := { stood := { row := assemblyNothingUptoRow, standIns := [], harness := (true, "f001992a249a5ac51cdd41fbd1c6353ccb7b5a982127091b7842870b3849f593"), looks := true }, kinds := [], alts := [], laidByText := true, laidKinds := [.data, .data, .data, .data, .sentinel, .sentinel, .pinned, .pinned], laidTests := true, laidLooks := .later }
def AssemblyNothingUptoCardSaid : Prop := Claim7.holds Tryz.pinned (.plain (OpenSpec.upto assemblyNothingSpec)) assemblyNothingUptoCard
end Rows
end Go.Proofs.YtinfjnndbfahhaaGreatDoor
