/-
  DERIVED. GIVEN WITH THE SEED: THE CARDS: each row of YtjoipgjdpnjjiaaGreatDoorRows.lean that lists a variable, with what it lists TIED to the program's text (the seventh form; the later family's looks); each row that meets fmt, with fmt's text TOLD by the authors' own Lean function (tested against real Go, not proved from fmt's source: count such statements apart). THE CARD IS WHAT COUNTS. Prove the row's statement (the work); the ties are given (YtjoipgjdpnjjiaaGreatDoorTie.lean); close each card by the builder's one call (the guide's Derived/Test/ToyasCard.lean, 'card_holds'). Laid BY PROGRAM, IN A SANDBOX (cutbox-door.mjs). By AI agents, Wed Nov 11 2026. No macro, syntax, notation, axiom, sorry.
-/
import Derived.Test.YtjoipgjdpnjjiaaGreatDoorRows
import GoSem.ClaimSeven
namespace Go.Proofs.YtjoipgjdpnjjiaaGreatDoor
namespace Rows

/-- THE TIED CARD OF 'coldpluglaw35.AssemblyIgnores'. -/
def assemblyIgnoresCard : Claim7 := { stood := { row := assemblyIgnoresRow, standIns := [], harness := (true, "83d769d1615b9f73580f750c535e5900ddebf286c521483b20c182b375a3a6e7"), looks := true }, kinds := [], alts := [], laidByText := true, laidKinds := [.data, .data, .data, .data, .sentinel, .sentinel, .pinned, .pinned], laidTests := true, laidLooks := .later }
def AssemblyIgnoresCardSaid : Prop := Claim7.holds Tryz.pinned (.plain (OpenSpec.ofChange assemblyIgnoresSpec)) assemblyIgnoresCard

/-- THE SECOND FORM's CARD OF 'coldpluglaw35.AssemblyIgnores'. -/
def assemblyIgnoresUptoCard : Claim7 := { stood := { row := assemblyIgnoresUptoRow, standIns := [], harness := (true, "83d769d1615b9f73580f750c535e5900ddebf286c521483b20c182b375a3a6e7"), looks := true }, kinds := [], alts := [], laidByText := true, laidKinds := [.data, .data, .data, .data, .sentinel, .sentinel, .pinned, .pinned], laidTests := true, laidLooks := .later }
def AssemblyIgnoresUptoCardSaid : Prop := Claim7.holds Tryz.pinned (.plain (OpenSpec.upto assemblyIgnoresSpec)) assemblyIgnoresUptoCard
end Rows
end Go.Proofs.YtjoipgjdpnjjiaaGreatDoor
