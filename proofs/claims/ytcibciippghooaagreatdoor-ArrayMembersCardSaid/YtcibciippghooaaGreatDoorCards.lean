/-
  DERIVED. GIVEN WITH THE SEED: THE CARDS: each row of YtcibciippghooaaGreatDoorRows.lean that lists a variable, with what it lists TIED to the program's text (the seventh form; the later family's looks); each row that meets fmt, with fmt's text TOLD by the authors' own Lean function (tested against real Go, not proved from fmt's source: count such statements apart). THE CARD IS WHAT COUNTS. Prove the row's statement (the work); the ties are given (YtcibciippghooaaGreatDoorTie.lean); close each card by the builder's one call (the guide's Derived/Test/ToyasCard.lean, 'card_holds'). Laid BY PROGRAM, IN A SANDBOX (cutbox-door.mjs). By AI agents, Wed Nov 11 2026. No macro, syntax, notation, axiom, sorry.
-/
import Derived.Test.YtcibciippghooaaGreatDoorRows
import GoSem.ClaimSeven
namespace Go.Proofs.YtcibciippghooaaGreatDoor
namespace Rows

/-- THE TIED CARD OF 'coldpluglaw33.CryptLayers'. -/
def cryptLayersCard : Claim7 := { stood := { row := cryptLayersRow, standIns := [], harness := (true, "c66075463afcb97363b981192f1c4894b532f06237c2bbe857d6b0e66370cf0b"), looks := true }, kinds := [], alts := [], laidByText := true, laidKinds := [.data, .data, .data, .data, .sentinel, .sentinel, .pinned, .pinned], laidTests := true, laidLooks := .later }
def CryptLayersCardSaid : Prop := Claim7.holds Tryz.pinned (.plain (OpenSpec.ofChange cryptLayersSpec)) cryptLayersCard

/-- THE TIED CARD OF 'coldpluglaw34.VolumeMembers'. -/
def volumeMembersCard : Claim7 := { stood := { row := volumeMembersRow, standIns := [], harness := (true, "c66075463afcb97363b981192f1c4894b532f06237c2bbe857d6b0e66370cf0b"), looks := true }, kinds := [], alts := [], laidByText := true, laidKinds := [.data, .data, .data, .data, .sentinel, .sentinel, .pinned, .pinned], laidTests := true, laidLooks := .later }
def VolumeMembersCardSaid : Prop := Claim7.holds Tryz.pinned (.plain (OpenSpec.ofChange volumeMembersSpec)) volumeMembersCard

/-- THE TIED CARD OF 'coldpluglaw32.ArrayMembers'. -/
def arrayMembersCard : Claim7 := { stood := { row := arrayMembersRow, standIns := [], harness := (true, "c66075463afcb97363b981192f1c4894b532f06237c2bbe857d6b0e66370cf0b"), looks := true }, kinds := [], alts := [], laidByText := true, laidKinds := [.data, .data, .data, .data, .sentinel, .sentinel, .pinned, .pinned], laidTests := true, laidLooks := .later }
def ArrayMembersCardSaid : Prop := Claim7.holds Tryz.pinned (.plain (OpenSpec.ofChange arrayMembersSpec)) arrayMembersCard

/-- THE SECOND FORM's CARD OF 'coldpluglaw33.CryptLayers'. -/
def cryptLayersUptoCard : Claim7 := { stood := { row := cryptLayersUptoRow, standIns := [], harness := (true, "c66075463afcb97363b981192f1c4894b532f06237c2bbe857d6b0e66370cf0b"), looks := true }, kinds := [], alts := [], laidByText := true, laidKinds := [.data, .data, .data, .data, .sentinel, .sentinel, .pinned, .pinned], laidTests := true, laidLooks := .later }
def CryptLayersUptoCardSaid : Prop := Claim7.holds Tryz.pinned (.plain (OpenSpec.upto cryptLayersSpec)) cryptLayersUptoCard

/-- THE SECOND FORM's CARD OF 'coldpluglaw34.VolumeMembers'. -/
def volumeMembersUptoCard : Claim7 := { stood := { row := volumeMembersUptoRow, standIns := [], harness := (true, "c66075463afcb97363b981192f1c4894b532f06237c2bbe857d6b0e66370cf0b"), looks := true }, kinds := [], alts := [], laidByText := true, laidKinds := [.data, .data, .data, .data, .sentinel, .sentinel, .pinned, .pinned], laidTests := true, laidLooks := .later }
def VolumeMembersUptoCardSaid : Prop := Claim7.holds Tryz.pinned (.plain (OpenSpec.upto volumeMembersSpec)) volumeMembersUptoCard

/-- THE SECOND FORM's CARD OF 'coldpluglaw32.ArrayMembers'. -/
def arrayMembersUptoCard : Claim7 := { stood := { row := arrayMembersUptoRow, standIns := [], harness := (true, "c66075463afcb97363b981192f1c4894b532f06237c2bbe857d6b0e66370cf0b"), looks := true }, kinds := [], alts := [], laidByText := true, laidKinds := [.data, .data, .data, .data, .sentinel, .sentinel, .pinned, .pinned], laidTests := true, laidLooks := .later }
def ArrayMembersUptoCardSaid : Prop := Claim7.holds Tryz.pinned (.plain (OpenSpec.upto arrayMembersSpec)) arrayMembersUptoCard
end Rows
end Go.Proofs.YtcibciippghooaaGreatDoor
