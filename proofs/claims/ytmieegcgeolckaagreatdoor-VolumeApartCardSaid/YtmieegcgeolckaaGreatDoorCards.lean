/-
  DERIVED. GIVEN WITH THE SEED: THE CARDS: each row of YtmieegcgeolckaaGreatDoorRows.lean that lists a variable, with what it lists TIED to the program's text (the seventh form; the later family's looks); each row that meets fmt, with fmt's text TOLD by the authors' own Lean function (tested against real Go, not proved from fmt's source: count such statements apart). THE CARD IS WHAT COUNTS. Prove the row's statement (the work); the ties are given (YtmieegcgeolckaaGreatDoorTie.lean); close each card by the builder's one call (the guide's Derived/Test/ToyasCard.lean, 'card_holds'). Laid BY PROGRAM, IN A SANDBOX (cutbox-door.mjs). By AI agents, Wed Nov 11 2026. No macro, syntax, notation, axiom, sorry.
-/
import Derived.Test.YtmieegcgeolckaaGreatDoorRows
import GoSem.ClaimSeven
namespace Go.Proofs.YtmieegcgeolckaaGreatDoor
namespace Rows

/-- THE TIED CARD OF 'coldpluglaw33.CryptLayers'. -/
def cryptLayersCard : Claim7 := { stood := { row := cryptLayersRow, standIns := [], harness := (true, "177d71cd04eb8f01a4c58fd606c8e7c617fc26990225ed53480681c1f264cbbf"), looks := true }, kinds := [], alts := [], laidByText := true, laidKinds := [.data, .data, .data, .data, .sentinel, .sentinel, .pinned, .pinned], laidTests := true, laidLooks := .later }
def CryptLayersCardSaid : Prop := Claim7.holds Tryz.pinned (.plain (OpenSpec.ofChange cryptLayersSpec)) cryptLayersCard

/-- THE TIED CARD OF 'coldpluglaw33.CryptShares'. -/
def cryptSharesCard : Claim7 := { stood := { row := cryptSharesRow, standIns := [], harness := (true, "177d71cd04eb8f01a4c58fd606c8e7c617fc26990225ed53480681c1f264cbbf"), looks := true }, kinds := [], alts := [], laidByText := true, laidKinds := [.data, .data, .data, .data, .sentinel, .sentinel, .pinned, .pinned], laidTests := true, laidLooks := .later }
def CryptSharesCardSaid : Prop := Claim7.holds Tryz.pinned (.plain (OpenSpec.ofChange cryptSharesSpec)) cryptSharesCard

/-- THE TIED CARD OF 'coldpluglaw33.CryptKeys'. -/
def cryptKeysCard : Claim7 := { stood := { row := cryptKeysRow, standIns := [], harness := (true, "177d71cd04eb8f01a4c58fd606c8e7c617fc26990225ed53480681c1f264cbbf"), looks := true }, kinds := [], alts := [], laidByText := true, laidKinds := [.data, .data, .data, .data, .sentinel, .sentinel, .pinned, .pinned], laidTests := true, laidLooks := .later }
def CryptKeysCardSaid : Prop := Claim7.holds Tryz.pinned (.plain (OpenSpec.ofChange cryptKeysSpec)) cryptKeysCard

/-- THE TIED CARD OF 'coldpluglaw33.CryptOrder'. -/
def cryptOrderCard : Claim7 := { stood := { row := cryptOrderRow, standIns := [], harness := (true, "177d71cd04eb8f01a4c58fd606c8e7c617fc26990225ed53480681c1f264cbbf"), looks := true }, kinds := [], alts := [], laidByText := true, laidKinds := [.data, .data, .data, .data, .sentinel, .sentinel, .pinned, .pinned], laidTests := true, laidLooks := .later }
def CryptOrderCardSaid : Prop := Claim7.holds Tryz.pinned (.plain (OpenSpec.ofChange cryptOrderSpec)) cryptOrderCard

/-- THE TIED CARD OF 'coldpluglaw33.CryptEarlier'. -/
def cryptEarlierCard : Claim7 := { stood := { row := cryptEarlierRow, standIns := [], harness := (true, "177d71cd04eb8f01a4c58fd606c8e7c617fc26990225ed53480681c1f264cbbf"), looks := true }, kinds := [], alts := [], laidByText := true, laidKinds := [.data, .data, .data, .data, .sentinel, .sentinel, .pinned, .pinned], laidTests := true, laidLooks := .later }
def CryptEarlierCardSaid : Prop := Claim7.holds Tryz.pinned (.plain (OpenSpec.ofChange cryptEarlierSpec)) cryptEarlierCard

/-- THE TIED CARD OF 'coldpluglaw33.CryptInner'. -/
def cryptInnerCard : Claim7 := { stood := { row := cryptInnerRow, standIns := [], harness := (true, "177d71cd04eb8f01a4c58fd606c8e7c617fc26990225ed53480681c1f264cbbf"), looks := true }, kinds := [], alts := [], laidByText := true, laidKinds := [.data, .data, .data, .data, .sentinel, .sentinel, .pinned, .pinned], laidTests := true, laidLooks := .later }
def CryptInnerCardSaid : Prop := Claim7.holds Tryz.pinned (.plain (OpenSpec.ofChange cryptInnerSpec)) cryptInnerCard

/-- THE TIED CARD OF 'coldpluglaw33.CryptOwners'. -/
def cryptOwnersCard : Claim7 := { stood := { row := cryptOwnersRow, standIns := [], harness := (true, "177d71cd04eb8f01a4c58fd606c8e7c617fc26990225ed53480681c1f264cbbf"), looks := true }, kinds := [], alts := [], laidByText := true, laidKinds := [.data, .data, .data, .data, .sentinel, .sentinel, .pinned, .pinned], laidTests := true, laidLooks := .later }
def CryptOwnersCardSaid : Prop := Claim7.holds Tryz.pinned (.plain (OpenSpec.ofChange cryptOwnersSpec)) cryptOwnersCard

/-- THE TIED CARD OF 'coldpluglaw33.CryptOpens'. -/
def cryptOpensCard : Claim7 := { stood := { row := cryptOpensRow, standIns := [], harness := (true, "177d71cd04eb8f01a4c58fd606c8e7c617fc26990225ed53480681c1f264cbbf"), looks := true }, kinds := [], alts := [], laidByText := true, laidKinds := [.data, .data, .data, .data, .sentinel, .sentinel, .pinned, .pinned], laidTests := true, laidLooks := .later }
def CryptOpensCardSaid : Prop := Claim7.holds Tryz.pinned (.plain (OpenSpec.ofChange cryptOpensSpec)) cryptOpensCard

/-- THE TIED CARD OF 'coldpluglaw34.VolumeNames'. -/
def volumeNamesCard : Claim7 := { stood := { row := volumeNamesRow, standIns := [], harness := (true, "177d71cd04eb8f01a4c58fd606c8e7c617fc26990225ed53480681c1f264cbbf"), looks := true }, kinds := [], alts := [], laidByText := true, laidKinds := [.data, .data, .data, .data, .sentinel, .sentinel, .pinned, .pinned], laidTests := true, laidLooks := .later }
def VolumeNamesCardSaid : Prop := Claim7.holds Tryz.pinned (.plain (OpenSpec.ofChange volumeNamesSpec)) volumeNamesCard

/-- THE TIED CARD OF 'coldpluglaw34.VolumeAll'. -/
def volumeAllCard : Claim7 := { stood := { row := volumeAllRow, standIns := [], harness := (true, "177d71cd04eb8f01a4c58fd606c8e7c617fc26990225ed53480681c1f264cbbf"), looks := true }, kinds := [], alts := [], laidByText := true, laidKinds := [.data, .data, .data, .data, .sentinel, .sentinel, .pinned, .pinned], laidTests := true, laidLooks := .later }
def VolumeAllCardSaid : Prop := Claim7.holds Tryz.pinned (.plain (OpenSpec.ofChange volumeAllSpec)) volumeAllCard

/-- THE TIED CARD OF 'coldpluglaw34.VolumeOrder'. -/
def volumeOrderCard : Claim7 := { stood := { row := volumeOrderRow, standIns := [], harness := (true, "177d71cd04eb8f01a4c58fd606c8e7c617fc26990225ed53480681c1f264cbbf"), looks := true }, kinds := [], alts := [], laidByText := true, laidKinds := [.data, .data, .data, .data, .sentinel, .sentinel, .pinned, .pinned], laidTests := true, laidLooks := .later }
def VolumeOrderCardSaid : Prop := Claim7.holds Tryz.pinned (.plain (OpenSpec.ofChange volumeOrderSpec)) volumeOrderCard

/-- THE TIED CARD OF 'coldpluglaw34.VolumeApart'. -/
def volumeApartCard : Claim7 := { stood := { row := volumeApartRow, standIns := [], harness := (true, "177d71cd04eb8f01a4c58fd606c8e7c617fc26990225ed53480681c1f264cbbf"), looks := true }, kinds := [], alts := [], laidByText := true, laidKinds := [.data, .data, .data, .data, .sentinel, .sentinel, .pinned, .pinned], laidTests := true, laidLooks := .later }
def VolumeApartCardSaid : Prop := Claim7.holds Tryz.pinned (.plain (OpenSpec.ofChange volumeApartSpec)) volumeApartCard

/-- THE SECOND FORM's CARD OF 'coldpluglaw33.CryptLayers'. -/
def cryptLayersUptoCard : Claim7 := { stood := { row := cryptLayersUptoRow, standIns := [], harness := (true, "177d71cd04eb8f01a4c58fd606c8e7c617fc26990225ed53480681c1f264cbbf"), looks := true }, kinds := [], alts := [], laidByText := true, laidKinds := [.data, .data, .data, .data, .sentinel, .sentinel, .pinned, .pinned], laidTests := true, laidLooks := .later }
def CryptLayersUptoCardSaid : Prop := Claim7.holds Tryz.pinned (.plain (OpenSpec.upto cryptLayersSpec)) cryptLayersUptoCard

/-- THE SECOND FORM's CARD OF 'coldpluglaw33.CryptShares'. -/
def cryptSharesUptoCard : Claim7 := { stood := { row := cryptSharesUptoRow, standIns := [], harness := (true, "177d71cd04eb8f01a4c58fd606c8e7c617fc26990225ed53480681c1f264cbbf"), looks := true }, kinds := [], alts := [], laidByText := true, laidKinds := [.data, .data, .data, .data, .sentinel, .sentinel, .pinned, .pinned], laidTests := true, laidLooks := .later }
def CryptSharesUptoCardSaid : Prop := Claim7.holds Tryz.pinned (.plain (OpenSpec.upto cryptSharesSpec)) cryptSharesUptoCard

/-- THE SECOND FORM's CARD OF 'coldpluglaw33.CryptKeys'. -/
def cryptKeysUptoCard : Claim7 := { stood := { row := cryptKeysUptoRow, standIns := [], harness := (true, "177d71cd04eb8f01a4c58fd606c8e7c617fc26990225ed53480681c1f264cbbf"), looks := true }, kinds := [], alts := [], laidByText := true, laidKinds := [.data, .data, .data, .data, .sentinel, .sentinel, .pinned, .pinned], laidTests := true, laidLooks := .later }
def CryptKeysUptoCardSaid : Prop := Claim7.holds Tryz.pinned (.plain (OpenSpec.upto cryptKeysSpec)) cryptKeysUptoCard

/-- THE SECOND FORM's CARD OF 'coldpluglaw33.CryptOrder'. -/
def cryptOrderUptoCard : Claim7 := { stood := { row := cryptOrderUptoRow, standIns := [], harness := (true, "177d71cd04eb8f01a4c58fd606c8e7c617fc26990225ed53480681c1f264cbbf"), looks := true }, kinds := [], alts := [], laidByText := true, laidKinds := [.data, .data, .data, .data, .sentinel, .sentinel, .pinned, .pinned], laidTests := true, laidLooks := .later }
def CryptOrderUptoCardSaid : Prop := Claim7.holds Tryz.pinned (.plain (OpenSpec.upto cryptOrderSpec)) cryptOrderUptoCard

/-- THE SECOND FORM's CARD OF 'coldpluglaw33.CryptEarlier'. -/
def cryptEarlierUptoCard : Claim7 := { stood := { row := cryptEarlierUptoRow, standIns := [], harness := (true, "177d71cd04eb8f01a4c58fd606c8e7c617fc26990225ed53480681c1f264cbbf"), looks := true }, kinds := [], alts := [], laidByText := true, laidKinds := [.data, .data, .data, .data, .sentinel, .sentinel, .pinned, .pinned], laidTests := true, laidLooks := .later }
def CryptEarlierUptoCardSaid : Prop := Claim7.holds Tryz.pinned (.plain (OpenSpec.upto cryptEarlierSpec)) cryptEarlierUptoCard

/-- THE SECOND FORM's CARD OF 'coldpluglaw33.CryptInner'. -/
def cryptInnerUptoCard : Claim7 := { stood := { row := cryptInnerUptoRow, standIns := [], harness := (true, "177d71cd04eb8f01a4c58fd606c8e7c617fc26990225ed53480681c1f264cbbf"), looks := true }, kinds := [], alts := [], laidByText := true, laidKinds := [.data, .data, .data, .data, .sentinel, .sentinel, .pinned, .pinned], laidTests := true, laidLooks := .later }
def CryptInnerUptoCardSaid : Prop := Claim7.holds Tryz.pinned (.plain (OpenSpec.upto cryptInnerSpec)) cryptInnerUptoCard

/-- THE SECOND FORM's CARD OF 'coldpluglaw33.CryptOwners'. -/
def cryptOwnersUptoCard : Claim7 := { stood := { row := cryptOwnersUptoRow, standIns := [], harness := (true, "177d71cd04eb8f01a4c58fd606c8e7c617fc26990225ed53480681c1f264cbbf"), looks := true }, kinds := [], alts := [], laidByText := true, laidKinds := [.data, .data, .data, .data, .sentinel, .sentinel, .pinned, .pinned], laidTests := true, laidLooks := .later }
def CryptOwnersUptoCardSaid : Prop := Claim7.holds Tryz.pinned (.plain (OpenSpec.upto cryptOwnersSpec)) cryptOwnersUptoCard

/-- THE SECOND FORM's CARD OF 'coldpluglaw33.CryptOpens'. -/
def cryptOpensUptoCard : Claim7 := { stood := { row := cryptOpensUptoRow, standIns := [], harness := (true, "177d71cd04eb8f01a4c58fd606c8e7c617fc26990225ed53480681c1f264cbbf"), looks := true }, kinds := [], alts := [], laidByText := true, laidKinds := [.data, .data, .data, .data, .sentinel, .sentinel, .pinned, .pinned], laidTests := true, laidLooks := .later }
def CryptOpensUptoCardSaid : Prop := Claim7.holds Tryz.pinned (.plain (OpenSpec.upto cryptOpensSpec)) cryptOpensUptoCard

/-- THE SECOND FORM's CARD OF 'coldpluglaw34.VolumeNames'. -/
def volumeNamesUptoCard : Claim7 := { stood := { row := volumeNamesUptoRow, standIns := [], harness := (true, "177d71cd04eb8f01a4c58fd606c8e7c617fc26990225ed53480681c1f264cbbf"), looks := true }, kinds := [], alts := [], laidByText := true, laidKinds := [.data, .data, .data, .data, .sentinel, .sentinel, .pinned, .pinned], laidTests := true, laidLooks := .later }
def VolumeNamesUptoCardSaid : Prop := Claim7.holds Tryz.pinned (.plain (OpenSpec.upto volumeNamesSpec)) volumeNamesUptoCard

/-- THE SECOND FORM's CARD OF 'coldpluglaw34.VolumeAll'. -/
def volumeAllUptoCard : Claim7 := { stood := { row := volumeAllUptoRow, standIns := [], harness := (true, "177d71cd04eb8f01a4c58fd606c8e7c617fc26990225ed53480681c1f264cbbf"), looks := true }, kinds := [], alts := [], laidByText := true, laidKinds := [.data, .data, .data, .data, .sentinel, .sentinel, .pinned, .pinned], laidTests := true, laidLooks := .later }
def VolumeAllUptoCardSaid : Prop := Claim7.holds Tryz.pinned (.plain (OpenSpec.upto volumeAllSpec)) volumeAllUptoCard

/-- THE SECOND FORM's CARD OF 'coldpluglaw34.VolumeOrder'. -/
def volumeOrderUptoCard : Claim7 := { stood := { row := volumeOrderUptoRow, standIns := [], harness := (true, "177d71cd04eb8f01a4c58fd606c8e7c617fc26990225ed53480681c1f264cbbf"), looks := true }, kinds := [], alts := [], laidByText := true, laidKinds := [.data, .data, .data, .data, .sentinel, .sentinel, .pinned, .pinned], laidTests := true, laidLooks := .later }
def VolumeOrderUptoCardSaid : Prop := Claim7.holds Tryz.pinned (.plain (OpenSpec.upto volumeOrderSpec)) volumeOrderUptoCard

/-- THE SECOND FORM's CARD OF 'coldpluglaw34.VolumeApart'. -/
def volumeApartUptoCard : Claim7 := { stood := { row := volumeApartUptoRow, standIns := [], harness := (true, "177d71cd04eb8f01a4c58fd606c8e7c617fc26990225ed53480681c1f264cbbf"), looks := true }, kinds := [], alts := [], laidByText := true, laidKinds := [.data, .data, .data, .data, .sentinel, .sentinel, .pinned, .pinned], laidTests := true, laidLooks := .later }
def VolumeApartUptoCardSaid : Prop := Claim7.holds Tryz.pinned (.plain (OpenSpec.upto volumeApartSpec)) volumeApartUptoCard
end Rows
end Go.Proofs.YtmieegcgeolckaaGreatDoor
