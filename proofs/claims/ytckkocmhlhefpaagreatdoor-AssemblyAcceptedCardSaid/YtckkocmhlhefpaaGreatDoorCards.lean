/-
  DERIVED. GIVEN WITH THE SEED: THE CARDS: each row of YtckkocmhlhefpaaGreatDoorRows.lean that lists a variable, with what it lists TIED to the program's text (the seventh form; the later family's looks); each row that meets fmt, with fmt's text TOLD by the authors' own Lean function (tested against real Go, not proved from fmt's source: count such statements apart). THE CARD IS WHAT COUNTS. Prove the row's statement (the work); the ties are given (YtckkocmhlhefpaaGreatDoorTie.lean); close each card by the builder's one call (the guide's Derived/Test/ToyasCard.lean, 'card_holds'). Laid BY PROGRAM, IN A SANDBOX (cutbox-door.mjs). By AI agents, Wed Nov 11 2026. No macro, syntax, notation, axiom, sorry.
-/
import Derived.Test.YtckkocmhlhefpaaGreatDoorRows
import GoSem.ClaimSeven
namespace Go.Proofs.YtckkocmhlhefpaaGreatDoor
namespace Rows

/-- THE TIED CARD OF 'coldpluglaw35.AssemblyAccepted'. -/
def assemblyAcceptedCard : Claim7 := { stood := { row := assemblyAcceptedRow, standIns := [], harness := (true, "b0c13d6a819ed994147fa04df3742fe73343a9b8e9b657672697325e50116022"), looks := true }, kinds := [], alts := [], laidByText := true, laidKinds := [.data, .data, .data, .data, .sentinel, .sentinel, .pinned, .pinned], laidTests := true, laidLooks := .later }
def AssemblyAcceptedCardSaid : Prop := Claim7.holds Tryz.pinned (.plain (OpenSpec.ofChange assemblyAcceptedSpec)) assemblyAcceptedCard

/-- THE SECOND FORM's CARD OF 'coldpluglaw35.AssemblyAccepted'. -/
def assemblyAcceptedUptoCard : Claim7 := { stood := { row := assemblyAcceptedUptoRow, standIns := [], harness := (true, "b0c13d6a819ed994147fa04df3742fe73343a9b8e9b657672697325e50116022"), looks := true }, kinds := [], alts := [], laidByText := true, laidKinds := [.data, .data, .data, .data, .sentinel, .sentinel, .pinned, .pinned], laidTests := true, laidLooks := .later }
def AssemblyAcceptedUptoCardSaid : Prop := Claim7.holds Tryz.pinned (.plain (OpenSpec.upto assemblyAcceptedSpec)) assemblyAcceptedUptoCard
end Rows
end Go.Proofs.YtckkocmhlhefpaaGreatDoor
