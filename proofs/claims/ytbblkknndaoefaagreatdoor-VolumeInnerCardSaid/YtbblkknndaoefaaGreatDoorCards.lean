/-
  DERIVED. GIVEN WITH THE SEED: THE CARDS: each row of YtbblkknndaoefaaGreatDoorRows.lean that lists a variable, with what it lists TIED to the program's text (the seventh form; the later family's looks); each row that meets fmt, with fmt's text TOLD by the authors' own Lean function (tested against real Go, not proved from fmt's source: count such statements apart). THE CARD IS WHAT COUNTS. Prove the row's statement (the work); the ties are given (YtbblkknndaoefaaGreatDoorTie.lean); close each card by the builder's one call (the guide's Derived/Test/ToyasCard.lean, 'card_holds'). Laid BY PROGRAM, IN A SANDBOX (cutbox-door.mjs). By AI agents, Wed Nov 11 2026. No macro, syntax, notation, axiom, sorry.
-/
import Derived.Test.YtbblkknndaoefaaGreatDoorRows
import GoSem.ClaimSeven
namespace Go.Proofs.YtbblkknndaoefaaGreatDoor
namespace Rows

/-- THE TIED CARD OF 'coldpluglaw33.CryptOwners'. -/
def cryptOwnersCard : Claim7 := { stood := { row := cryptOwnersRow, standIns := [], harness := (true, "7c35bbe876a6797357c7d4d4c7eda80dfa3d5b512daa5cf20d9229a0a48d5af4"), looks := true }, kinds := [], alts := [], laidByText := true, laidKinds := [.data, .data, .data, .data, .sentinel, .sentinel, .pinned, .pinned], laidTests := true, laidLooks := .later }
def CryptOwnersCardSaid : Prop := Claim7.holds Tryz.pinned (.plain (OpenSpec.ofChange cryptOwnersSpec)) cryptOwnersCard

/-- THE TIED CARD OF 'coldpluglaw33.CryptOpens'. -/
def cryptOpensCard : Claim7 := { stood := { row := cryptOpensRow, standIns := [], harness := (true, "7c35bbe876a6797357c7d4d4c7eda80dfa3d5b512daa5cf20d9229a0a48d5af4"), looks := true }, kinds := [], alts := [], laidByText := true, laidKinds := [.data, .data, .data, .data, .sentinel, .sentinel, .pinned, .pinned], laidTests := true, laidLooks := .later }
def CryptOpensCardSaid : Prop := Claim7.holds Tryz.pinned (.plain (OpenSpec.ofChange cryptOpensSpec)) cryptOpensCard

/-- THE TIED CARD OF 'coldpluglaw34.VolumeWants'. -/
def volumeWantsCard : Claim7 := { stood := { row := volumeWantsRow, standIns := [], harness := (true, "7c35bbe876a6797357c7d4d4c7eda80dfa3d5b512daa5cf20d9229a0a48d5af4"), looks := true }, kinds := [], alts := [], laidByText := true, laidKinds := [.data, .data, .data, .data, .sentinel, .sentinel, .pinned, .pinned], laidTests := true, laidLooks := .later }
def VolumeWantsCardSaid : Prop := Claim7.holds Tryz.pinned (.plain (OpenSpec.ofChange volumeWantsSpec)) volumeWantsCard

/-- THE TIED CARD OF 'coldpluglaw34.VolumeInner'. -/
def volumeInnerCard : Claim7 := { stood := { row := volumeInnerRow, standIns := [], harness := (true, "7c35bbe876a6797357c7d4d4c7eda80dfa3d5b512daa5cf20d9229a0a48d5af4"), looks := true }, kinds := [], alts := [], laidByText := true, laidKinds := [.data, .data, .data, .data, .sentinel, .sentinel, .pinned, .pinned], laidTests := true, laidLooks := .later }
def VolumeInnerCardSaid : Prop := Claim7.holds Tryz.pinned (.plain (OpenSpec.ofChange volumeInnerSpec)) volumeInnerCard

/-- THE TIED CARD OF 'coldpluglaw34.VolumeGroups'. -/
def volumeGroupsCard : Claim7 := { stood := { row := volumeGroupsRow, standIns := [], harness := (true, "7c35bbe876a6797357c7d4d4c7eda80dfa3d5b512daa5cf20d9229a0a48d5af4"), looks := true }, kinds := [], alts := [], laidByText := true, laidKinds := [.data, .data, .data, .data, .sentinel, .sentinel, .pinned, .pinned], laidTests := true, laidLooks := .later }
def VolumeGroupsCardSaid : Prop := Claim7.holds Tryz.pinned (.plain (OpenSpec.ofChange volumeGroupsSpec)) volumeGroupsCard

/-- THE TIED CARD OF 'coldpluglaw32.ArrayOrder'. -/
def arrayOrderCard : Claim7 := { stood := { row := arrayOrderRow, standIns := [], harness := (true, "7c35bbe876a6797357c7d4d4c7eda80dfa3d5b512daa5cf20d9229a0a48d5af4"), looks := true }, kinds := [], alts := [], laidByText := true, laidKinds := [.data, .data, .data, .data, .sentinel, .sentinel, .pinned, .pinned], laidTests := true, laidLooks := .later }
def ArrayOrderCardSaid : Prop := Claim7.holds Tryz.pinned (.plain (OpenSpec.ofChange arrayOrderSpec)) arrayOrderCard

/-- THE TIED CARD OF 'coldpluglaw32.ArrayLater'. -/
def arrayLaterCard : Claim7 := { stood := { row := arrayLaterRow, standIns := [], harness := (true, "7c35bbe876a6797357c7d4d4c7eda80dfa3d5b512daa5cf20d9229a0a48d5af4"), looks := true }, kinds := [], alts := [], laidByText := true, laidKinds := [.data, .data, .data, .data, .sentinel, .sentinel, .pinned, .pinned], laidTests := true, laidLooks := .later }
def ArrayLaterCardSaid : Prop := Claim7.holds Tryz.pinned (.plain (OpenSpec.ofChange arrayLaterSpec)) arrayLaterCard

/-- THE TIED CARD OF 'coldpluglaw32.ArrayGrows'. -/
def arrayGrowsCard : Claim7 := { stood := { row := arrayGrowsRow, standIns := [], harness := (true, "7c35bbe876a6797357c7d4d4c7eda80dfa3d5b512daa5cf20d9229a0a48d5af4"), looks := true }, kinds := [], alts := [], laidByText := true, laidKinds := [.data, .data, .data, .data, .sentinel, .sentinel, .pinned, .pinned], laidTests := true, laidLooks := .later }
def ArrayGrowsCardSaid : Prop := Claim7.holds Tryz.pinned (.plain (OpenSpec.ofChange arrayGrowsSpec)) arrayGrowsCard

/-- THE TIED CARD OF 'coldpluglaw32.ArrayWatches'. -/
def arrayWatchesCard : Claim7 := { stood := { row := arrayWatchesRow, standIns := [], harness := (true, "7c35bbe876a6797357c7d4d4c7eda80dfa3d5b512daa5cf20d9229a0a48d5af4"), looks := true }, kinds := [], alts := [], laidByText := true, laidKinds := [.data, .data, .data, .data, .sentinel, .sentinel, .pinned, .pinned], laidTests := true, laidLooks := .later }
def ArrayWatchesCardSaid : Prop := Claim7.holds Tryz.pinned (.plain (OpenSpec.ofChange arrayWatchesSpec)) arrayWatchesCard

/-- THE TIED CARD OF 'coldpluglaw32.ArrayWaits'. -/
def arrayWaitsCard : Claim7 := { stood := { row := arrayWaitsRow, standIns := [], harness := (true, "7c35bbe876a6797357c7d4d4c7eda80dfa3d5b512daa5cf20d9229a0a48d5af4"), looks := true }, kinds := [], alts := [], laidByText := true, laidKinds := [.data, .data, .data, .data, .sentinel, .sentinel, .pinned, .pinned], laidTests := true, laidLooks := .later }
def ArrayWaitsCardSaid : Prop := Claim7.holds Tryz.pinned (.plain (OpenSpec.ofChange arrayWaitsSpec)) arrayWaitsCard

/-- THE TIED CARD OF 'coldpluglaw32.ArrayGroups'. -/
def arrayGroupsCard : Claim7 := { stood := { row := arrayGroupsRow, standIns := [], harness := (true, "7c35bbe876a6797357c7d4d4c7eda80dfa3d5b512daa5cf20d9229a0a48d5af4"), looks := true }, kinds := [], alts := [], laidByText := true, laidKinds := [.data, .data, .data, .data, .sentinel, .sentinel, .pinned, .pinned], laidTests := true, laidLooks := .later }
def ArrayGroupsCardSaid : Prop := Claim7.holds Tryz.pinned (.plain (OpenSpec.ofChange arrayGroupsSpec)) arrayGroupsCard

/-- THE TIED CARD OF 'coldpluglaw32.ArrayMusts'. -/
def arrayMustsCard : Claim7 := { stood := { row := arrayMustsRow, standIns := [], harness := (true, "7c35bbe876a6797357c7d4d4c7eda80dfa3d5b512daa5cf20d9229a0a48d5af4"), looks := true }, kinds := [], alts := [], laidByText := true, laidKinds := [.data, .data, .data, .data, .sentinel, .sentinel, .pinned, .pinned], laidTests := true, laidLooks := .later }
def ArrayMustsCardSaid : Prop := Claim7.holds Tryz.pinned (.plain (OpenSpec.ofChange arrayMustsSpec)) arrayMustsCard

/-- THE SECOND FORM's CARD OF 'coldpluglaw33.CryptOwners'. -/
def cryptOwnersUptoCard : Claim7 := { stood := { row := cryptOwnersUptoRow, standIns := [], harness := (true, "7c35bbe876a6797357c7d4d4c7eda80dfa3d5b512daa5cf20d9229a0a48d5af4"), looks := true }, kinds := [], alts := [], laidByText := true, laidKinds := [.data, .data, .data, .data, .sentinel, .sentinel, .pinned, .pinned], laidTests := true, laidLooks := .later }
def CryptOwnersUptoCardSaid : Prop := Claim7.holds Tryz.pinned (.plain (OpenSpec.upto cryptOwnersSpec)) cryptOwnersUptoCard

/-- THE SECOND FORM's CARD OF 'coldpluglaw33.CryptOpens'. -/
def cryptOpensUptoCard : Claim7 := { stood := { row := cryptOpensUptoRow, standIns := [], harness := (true, "7c35bbe876a6797357c7d4d4c7eda80dfa3d5b512daa5cf20d9229a0a48d5af4"), looks := true }, kinds := [], alts := [], laidByText := true, laidKinds := [.data, .data, .data, .data, .sentinel, .sentinel, .pinned, .pinned], laidTests := true, laidLooks := .later }
def CryptOpensUptoCardSaid : Prop := Claim7.holds Tryz.pinned (.plain (OpenSpec.upto cryptOpensSpec)) cryptOpensUptoCard

/-- THE SECOND FORM's CARD OF 'coldpluglaw34.VolumeWants'. -/
def volumeWantsUptoCard : Claim7 := { stood := { row := volumeWantsUptoRow, standIns := [], harness := (true, "7c35bbe876a6797357c7d4d4c7eda80dfa3d5b512daa5cf20d9229a0a48d5af4"), looks := true }, kinds := [], alts := [], laidByText := true, laidKinds := [.data, .data, .data, .data, .sentinel, .sentinel, .pinned, .pinned], laidTests := true, laidLooks := .later }
def VolumeWantsUptoCardSaid : Prop := Claim7.holds Tryz.pinned (.plain (OpenSpec.upto volumeWantsSpec)) volumeWantsUptoCard

/-- THE SECOND FORM's CARD OF 'coldpluglaw34.VolumeInner'. -/
def volumeInnerUptoCard : Claim7 := { stood := { row := volumeInnerUptoRow, standIns := [], harness := (true, "7c35bbe876a6797357c7d4d4c7eda80dfa3d5b512daa5cf20d9229a0a48d5af4"), looks := true }, kinds := [], alts := [], laidByText := true, laidKinds := [.data, .data, .data, .data, .sentinel, .sentinel, .pinned, .pinned], laidTests := true, laidLooks := .later }
def VolumeInnerUptoCardSaid : Prop := Claim7.holds Tryz.pinned (.plain (OpenSpec.upto volumeInnerSpec)) volumeInnerUptoCard

/-- THE SECOND FORM's CARD OF 'coldpluglaw34.VolumeGroups'. -/
def volumeGroupsUptoCard : Claim7 := { stood := { row := volumeGroupsUptoRow, standIns := [], harness := (true, "7c35bbe876a6797357c7d4d4c7eda80dfa3d5b512daa5cf20d9229a0a48d5af4"), looks := true }, kinds := [], alts := [], laidByText := true, laidKinds := [.data, .data, .data, .data, .sentinel, .sentinel, .pinned, .pinned], laidTests := true, laidLooks := .later }
def VolumeGroupsUptoCardSaid : Prop := Claim7.holds Tryz.pinned (.plain (OpenSpec.upto volumeGroupsSpec)) volumeGroupsUptoCard

/-- THE SECOND FORM's CARD OF 'coldpluglaw32.ArrayOrder'. -/
def arrayOrderUptoCard : Claim7 := { stood := { row := arrayOrderUptoRow, standIns := [], harness := (true, "7c35bbe876a6797357c7d4d4c7eda80dfa3d5b512daa5cf20d9229a0a48d5af4"), looks := true }, kinds := [], alts := [], laidByText := true, laidKinds := [.data, .data, .data, .data, .sentinel, .sentinel, .pinned, .pinned], laidTests := true, laidLooks := .later }
def ArrayOrderUptoCardSaid : Prop := Claim7.holds Tryz.pinned (.plain (OpenSpec.upto arrayOrderSpec)) arrayOrderUptoCard

/-- THE SECOND FORM's CARD OF 'coldpluglaw32.ArrayLater'. -/
def arrayLaterUptoCard : Claim7 := { stood := { row := arrayLaterUptoRow, standIns := [], harness := (true, "7c35bbe876a6797357c7d4d4c7eda80dfa3d5b512daa5cf20d9229a0a48d5af4"), looks := true }, kinds := [], alts := [], laidByText := true, laidKinds := [.data, .data, .data, .data, .sentinel, .sentinel, .pinned, .pinned], laidTests := true, laidLooks := .later }
def ArrayLaterUptoCardSaid : Prop := Claim7.holds Tryz.pinned (.plain (OpenSpec.upto arrayLaterSpec)) arrayLaterUptoCard

/-- THE SECOND FORM's CARD OF 'coldpluglaw32.ArrayGrows'. -/
def arrayGrowsUptoCard : Claim7 := { stood := { row := arrayGrowsUptoRow, standIns := [], harness := (true, "7c35bbe876a6797357c7d4d4c7eda80dfa3d5b512daa5cf20d9229a0a48d5af4"), looks := true }, kinds := [], alts := [], laidByText := true, laidKinds := [.data, .data, .data, .data, .sentinel, .sentinel, .pinned, .pinned], laidTests := true, laidLooks := .later }
def ArrayGrowsUptoCardSaid : Prop := Claim7.holds Tryz.pinned (.plain (OpenSpec.upto arrayGrowsSpec)) arrayGrowsUptoCard

/-- THE SECOND FORM's CARD OF 'coldpluglaw32.ArrayWatches'. -/
def arrayWatchesUptoCard : Claim7 := { stood := { row := arrayWatchesUptoRow, standIns := [], harness := (true, "7c35bbe876a6797357c7d4d4c7eda80dfa3d5b512daa5cf20d9229a0a48d5af4"), looks := true }, kinds := [], alts := [], laidByText := true, laidKinds := [.data, .data, .data, .data, .sentinel, .sentinel, .pinned, .pinned], laidTests := true, laidLooks := .later }
def ArrayWatchesUptoCardSaid : Prop := Claim7.holds Tryz.pinned (.plain (OpenSpec.upto arrayWatchesSpec)) arrayWatchesUptoCard

/-- THE SECOND FORM's CARD OF 'coldpluglaw32.ArrayWaits'. -/
def arrayWaitsUptoCard : Claim7 := { stood := { row := arrayWaitsUptoRow, standIns := [], harness := (true, "7c35bbe876a6797357c7d4d4c7eda80dfa3d5b512daa5cf20d9229a0a48d5af4"), looks := true }, kinds := [], alts := [], laidByText := true, laidKinds := [.data, .data, .data, .data, .sentinel, .sentinel, .pinned, .pinned], laidTests := true, laidLooks := .later }
def ArrayWaitsUptoCardSaid : Prop := Claim7.holds Tryz.pinned (.plain (OpenSpec.upto arrayWaitsSpec)) arrayWaitsUptoCard

/-- THE SECOND FORM's CARD OF 'coldpluglaw32.ArrayGroups'. -/
def arrayGroupsUptoCard : Claim7 := { stood := { row := arrayGroupsUptoRow, standIns := [], harness := (true, "7c35bbe876a6797357c7d4d4c7eda80dfa3d5b512daa5cf20d9229a0a48d5af4"), looks := true }, kinds := [], alts := [], laidByText := true, laidKinds := [.data, .data, .data, .data, .sentinel, .sentinel, .pinned, .pinned], laidTests := true, laidLooks := .later }
def ArrayGroupsUptoCardSaid : Prop := Claim7.holds Tryz.pinned (.plain (OpenSpec.upto arrayGroupsSpec)) arrayGroupsUptoCard

/-- THE SECOND FORM's CARD OF 'coldpluglaw32.ArrayMusts'. -/
def arrayMustsUptoCard : Claim7 := { stood := { row := arrayMustsUptoRow, standIns := [], harness := (true, "7c35bbe876a6797357c7d4d4c7eda80dfa3d5b512daa5cf20d9229a0a48d5af4"), looks := true }, kinds := [], alts := [], laidByText := true, laidKinds := [.data, .data, .data, .data, .sentinel, .sentinel, .pinned, .pinned], laidTests := true, laidLooks := .later }
def ArrayMustsUptoCardSaid : Prop := Claim7.holds Tryz.pinned (.plain (OpenSpec.upto arrayMustsSpec)) arrayMustsUptoCard
end Rows
end Go.Proofs.YtbblkknndaoefaaGreatDoor
