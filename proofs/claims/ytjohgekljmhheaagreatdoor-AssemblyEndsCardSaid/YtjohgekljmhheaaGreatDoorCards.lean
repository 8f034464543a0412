/-
  DERIVED. GIVEN WITH THE SEED: THE CARDS: each row of YtjohgekljmhheaaGreatDoorRows.lean that lists a variable, with what it lists TIED to the program's text (the seventh form; the later family's looks); each row that meets fmt, with fmt's text TOLD by the authors' own Lean function (tested against real Go, not proved from fmt's source: count such statements apart). THE CARD IS WHAT COUNTS. Prove the row's statement (the work); the ties are given (YtjohgekljmhheaaGreatDoorTie.lean); close each card by the builder's one call (the guide's Derived/Test/ToyasCard.lean, 'card_holds'). Laid BY PROGRAM, IN A SANDBOX (cutbox-door.mjs). By AI agents, Wed Nov 11 2026. No macro, syntax, notation, axiom, sorry.
-/
import Derived.Test.YtjohgekljmhheaaGreatDoorRows
import GoSem.ClaimSeven
namespace Go.Proofs.YtjohgekljmhheaaGreatDoor
namespace Rows

/-- THE TIED CARD OF 'coldpluglaw35.AssemblyEnds'. -/
def assemblyEndsCard : Claim7 := { stood := { row := assemblyEndsRow, standIns := [], harness := (true, "3c2d9279c09c10d5f1c6051ea405f4e5e08e00663b1d4bd336e3fe703d8cb940"), looks := true }, kinds := [], alts := [], laidByText := true, laidKinds := [.data, .data, .data, .data, .sentinel, .sentinel, .pinned, .pinned], laidTests := true, laidLooks := .later }
def AssemblyEndsCardSaid : Prop := Claim7.holds Tryz.pinned (.plain (OpenSpec.ofChange assemblyEndsSpec)) assemblyEndsCard

/-- THE SECOND FORM's CARD OF 'coldpluglaw35.AssemblyEnds'. -/
def assemblyEndsUptoCard : Claim7 := { stood := { row := assemblyEndsUptoRow, standIns := [], harness := (true, "3c2d9279c09c10d5f1c6051ea405f4e5e08e00663b1d4bd336e3fe703d8cb940"), looks := true }, kinds := [], alts := [], laidByText := true, laidKinds := [.data, .data, .data, .data, .sentinel, .sentinel, .pinned, .pinned], laidTests := true, laidLooks := .later }
def AssemblyEndsUptoCardSaid : Prop := Claim7.holds Tryz.pinned (.plain (OpenSpec.upto assemblyEndsSpec)) assemblyEndsUptoCard
end Rows
end Go.Proofs.YtjohgekljmhheaaGreatDoor
