/-
  DERIVED. GIVEN WITH THE SEED: THE CARDS: each row of YtmajgldaplkpiaaGreatDoorRows.lean that lists a variable, with what it lists TIED to the program's text (the seventh form; the later family's looks); each row that meets fmt, with fmt's text TOLD by the authors' own Lean function (tested against real Go, not proved from fmt's source: count such statements apart). THE CARD IS WHAT COUNTS. Prove the row's statement (the work); the ties are given (YtmajgldaplkpiaaGreatDoorTie.lean); close each card by the builder's one call (the guide's Derived/Test/ToyasCard.lean, 'card_holds'). Laid BY PROGRAM, IN A SANDBOX (cutbox-door.mjs). By AI agents, Wed Nov 11 2026. No macro, syntax, notation, axiom, sorry.
-/
import Derived.Test.YtmajgldaplkpiaaGreatDoorRows
import GoSem.ClaimSeven
namespace Go.Proofs.YtmajgldaplkpiaaGreatDoor
namespace Rows

/-- THE TIED CARD OF 'coldpluglaw35.AssemblyVirtuals'. -/
def assemblyVirtualsCard : Claim7 := { stood := { row := assemblyVirtualsRow, standIns := [], harness := (true, "4fb816296dc396e215dcfc51d36874c89ae4f8ab4c0d011575997cc5cf96189a"), looks := true }, kinds := [], alts := [], laidByText := true, laidKinds := [.data, .data, .data, .data, .sentinel, .sentinel, .pinned, .pinned], laidTests := true, laidLooks := .later }
def AssemblyVirtualsCardSaid : Prop := Claim7.holds Tryz.pinned (.plain (OpenSpec.ofChange assemblyVirtualsSpec)) assemblyVirtualsCard

/-- THE SECOND FORM's CARD OF 'coldpluglaw35.AssemblyVirtuals'. -/
def assemblyVirtualsUptoCard : Claim7 := { stood := { row := assemblyVirtualsUptoRow, standIns := [], harness := (true, "4fb816296dc396e215dcfc51d36874c89ae4f8ab4c0d011575997cc5cf96189a"), looks := true }, kinds := [], alts := [], laidByText := true, laidKinds := [.data, .data, .data, .data, .sentinel, .sentinel, .pinned, .pinned], laidTests := true, laidLooks := .later }
def AssemblyVirtualsUptoCardSaid : Prop := Claim7.holds Tryz.pinned (.plain (OpenSpec.upto assemblyVirtualsSpec)) assemblyVirtualsUptoCard
end Rows
end Go.Proofs.YtmajgldaplkpiaaGreatDoor
