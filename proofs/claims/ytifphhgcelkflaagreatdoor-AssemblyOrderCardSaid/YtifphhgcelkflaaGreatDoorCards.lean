/-
  DERIVED. GIVEN WITH THE SEED: THE CARDS: each row of YtifphhgcelkflaaGreatDoorRows.lean that lists a variable, with what it lists TIED to the program's text (the seventh form; the later family's looks); each row that meets fmt, with fmt's text TOLD by the authors' own Lean function (tested against real Go, not proved from fmt's source: count such statements apart). THE CARD IS WHAT COUNTS. Prove the row's statement (the work); the ties are given (YtifphhgcelkflaaGreatDoorTie.lean); close each card by the builder's one call (the guide's Derived/Test/ToyasCard.lean, 'card_holds'). Laid BY PROGRAM, IN A SANDBOX (cutbox-door.mjs). By AI agents, Wed Nov 11 2026. No macro, syntax, notation, axiom, sorry.
-/
import Derived.Test.YtifphhgcelkflaaGreatDoorRows
import GoSem.ClaimSeven
namespace Go.Proofs.YtifphhgcelkflaaGreatDoor
namespace Rows

/-- THE TIED CARD OF 'coldpluglaw35.AssemblyOrder'. -/
def assemblyOrderCard : Claim7 := { stood := { row := assemblyOrderRow, standIns := [], harness := (true, "e6a7891d8529cb58c21994edf4a8e688c4d2cffac03ec78871053d50b0e7ba33"), looks := true }, kinds := [], alts := [], laidByText := true, laidKinds := [.data, .data, .data, .data, .sentinel, .sentinel, .pinned, .pinned], laidTests := true, laidLooks := .later }
def AssemblyOrderCardSaid : Prop := Claim7.holds Tryz.pinned (.plain (OpenSpec.ofChange assemblyOrderSpec)) assemblyOrderCard

/-- THE SECOND FORM's CARD OF 'coldpluglaw35.AssemblyOrder'. -/
def assemblyOrderUptoCard : Claim7 := { stood := { row := assemblyOrderUptoRow, standIns := [], harness := (true, "e6a7891d8529cb58c21994edf4a8e688c4d2cffac03ec78871053d50b0e7ba33"), looks := true }, kinds := [], alts := [], laidByText := true, laidKinds := [.data, .data, .data, .data, .sentinel, .sentinel, .pinned, .pinned], laidTests := true, laidLooks := .later }
def AssemblyOrderUptoCardSaid : Prop := Claim7.holds Tryz.pinned (.plain (OpenSpec.upto assemblyOrderSpec)) assemblyOrderUptoCard
end Rows
end Go.Proofs.YtifphhgcelkflaaGreatDoor
