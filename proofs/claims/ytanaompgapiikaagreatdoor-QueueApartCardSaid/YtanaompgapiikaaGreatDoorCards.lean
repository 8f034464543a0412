/-
  DERIVED. GIVEN WITH THE SEED: THE CARDS: each row of YtanaompgapiikaaGreatDoorRows.lean that lists a variable, with what it lists TIED to the program's text (the seventh form; the later family's looks); each row that meets fmt, with fmt's text TOLD by the authors' own Lean function (tested against real Go, not proved from fmt's source: count such statements apart). THE CARD IS WHAT COUNTS. Prove the row's statement (the work); the ties are given (YtanaompgapiikaaGreatDoorTie.lean); close each card by the builder's one call (the guide's Derived/Test/ToyasCard.lean, 'card_holds'). Laid BY PROGRAM, IN A SANDBOX (cutbox-door.mjs). By AI agents, Wed Nov 11 2026. No macro, syntax, notation, axiom, sorry.
-/
import Derived.Test.YtanaompgapiikaaGreatDoorRows
import GoSem.ClaimSeven
namespace Go.Proofs.YtanaompgapiikaaGreatDoor
namespace Rows

/-- THE TIED CARD OF 'coldpluglaw28.QueueEnds'. -/
def queueEndsCard : Claim7 := { stood := { row := queueEndsRow, standIns := [], harness := (true, "1852527f1e65bc2eb1b1bf9b6bf28953c5a7842975eab0de623da82f7332d0ef"), looks := true }, kinds := [], alts := [], laidByText := true, laidKinds := [.data, .data, .data, .data, .sentinel, .sentinel, .pinned], laidTests := true, laidLooks := .later }
def QueueEndsCardSaid : Prop := Claim7.holds Tryz.pinned (.plain (OpenSpec.ofChange queueEndsSpec)) queueEndsCard

/-- THE TIED CARD OF 'coldpluglaw28.QueueFrees'. -/
def queueFreesCard : Claim7 := { stood := { row := queueFreesRow, standIns := [], harness := (true, "1852527f1e65bc2eb1b1bf9b6bf28953c5a7842975eab0de623da82f7332d0ef"), looks := true }, kinds := [], alts := [], laidByText := true, laidKinds := [.data, .data, .data, .data, .sentinel, .sentinel, .pinned], laidTests := true, laidLooks := .later }
def QueueFreesCardSaid : Prop := Claim7.holds Tryz.pinned (.plain (OpenSpec.ofChange queueFreesSpec)) queueFreesCard

/-- THE TIED CARD OF 'coldpluglaw28.QueueApart'. -/
def queueApartCard : Claim7 := { stood := { row := queueApartRow, standIns := [], harness := (true, "1852527f1e65bc2eb1b1bf9b6bf28953c5a7842975eab0de623da82f7332d0ef"), looks := true }, kinds := [], alts := [], laidByText := true, laidKinds := [.data, .data, .data, .data, .sentinel, .sentinel, .pinned, .pinned], laidTests := true, laidLooks := .later }
def QueueApartCardSaid : Prop := Claim7.holds Tryz.pinned (.plain (OpenSpec.ofChange queueApartSpec)) queueApartCard

/-- THE TIED CARD OF 'coldpluglaw33.CryptLayers'. -/
def cryptLayersCard : Claim7 := { stood := { row := cryptLayersRow, standIns := [], harness := (true, "1852527f1e65bc2eb1b1bf9b6bf28953c5a7842975eab0de623da82f7332d0ef"), looks := true }, kinds := [], alts := [], laidByText := true, laidKinds := [.data, .data, .data, .data, .sentinel, .sentinel, .pinned, .pinned], laidTests := true, laidLooks := .later }
def CryptLayersCardSaid : Prop := Claim7.holds Tryz.pinned (.plain (OpenSpec.ofChange cryptLayersSpec)) cryptLayersCard

/-- THE TIED CARD OF 'coldpluglaw33.CryptShares'. -/
def cryptSharesCard : Claim7 := { stood := { row := cryptSharesRow, standIns := [], harness := (true, "1852527f1e65bc2eb1b1bf9b6bf28953c5a7842975eab0de623da82f7332d0ef"), looks := true }, kinds := [], alts := [], laidByText := true, laidKinds := [.data, .data, .data, .data, .sentinel, .sentinel, .pinned, .pinned], laidTests := true, laidLooks := .later }
def CryptSharesCardSaid : Prop := Claim7.holds Tryz.pinned (.plain (OpenSpec.ofChange cryptSharesSpec)) cryptSharesCard

/-- THE TIED CARD OF 'coldpluglaw33.CryptKeys'. -/
def cryptKeysCard : Claim7 := { stood := { row := cryptKeysRow, standIns := [], harness := (true, "1852527f1e65bc2eb1b1bf9b6bf28953c5a7842975eab0de623da82f7332d0ef"), looks := true }, kinds := [], alts := [], laidByText := true, laidKinds := [.data, .data, .data, .data, .sentinel, .sentinel, .pinned, .pinned], laidTests := true, laidLooks := .later }
def CryptKeysCardSaid : Prop := Claim7.holds Tryz.pinned (.plain (OpenSpec.ofChange cryptKeysSpec)) cryptKeysCard

/-- THE TIED CARD OF 'coldpluglaw33.CryptOrder'. -/
def cryptOrderCard : Claim7 := { stood := { row := cryptOrderRow, standIns := [], harness := (true, "1852527f1e65bc2eb1b1bf9b6bf28953c5a7842975eab0de623da82f7332d0ef"), looks := true }, kinds := [], alts := [], laidByText := true, laidKinds := [.data, .data, .data, .data, .sentinel, .sentinel, .pinned, .pinned], laidTests := true, laidLooks := .later }
def CryptOrderCardSaid : Prop := Claim7.holds Tryz.pinned (.plain (OpenSpec.ofChange cryptOrderSpec)) cryptOrderCard

/-- THE TIED CARD OF 'coldpluglaw33.CryptEarlier'. -/
def cryptEarlierCard : Claim7 := { stood := { row := cryptEarlierRow, standIns := [], harness := (true, "1852527f1e65bc2eb1b1bf9b6bf28953c5a7842975eab0de623da82f7332d0ef"), looks := true }, kinds := [], alts := [], laidByText := true, laidKinds := [.data, .data, .data, .data, .sentinel, .sentinel, .pinned, .pinned], laidTests := true, laidLooks := .later }
def CryptEarlierCardSaid : Prop := Claim7.holds Tryz.pinned (.plain (OpenSpec.ofChange cryptEarlierSpec)) cryptEarlierCard

/-- THE TIED CARD OF 'coldpluglaw33.CryptInner'. -/
def cryptInnerCard : Claim7 := { stood := { row := cryptInnerRow, standIns := [], harness := (true, "1852527f1e65bc2eb1b1bf9b6bf28953c5a7842975eab0de623da82f7332d0ef"), looks := true }, kinds := [], alts := [], laidByText := true, laidKinds := [.data, .data, .data, .data, .sentinel, .sentinel, .pinned, .pinned], laidTests := true, laidLooks := .later }
def CryptInnerCardSaid : Prop := Claim7.holds Tryz.pinned (.plain (OpenSpec.ofChange cryptInnerSpec)) cryptInnerCard

/-- THE TIED CARD OF 'coldpluglaw33.CryptOwners'. -/
def cryptOwnersCard : Claim7 := { stood := { row := cryptOwnersRow, standIns := [], harness := (true, "1852527f1e65bc2eb1b1bf9b6bf28953c5a7842975eab0de623da82f7332d0ef"), looks := true }, kinds := [], alts := [], laidByText := true, laidKinds := [.data, .data, .data, .data, .sentinel, .sentinel, .pinned, .pinned], laidTests := true, laidLooks := .later }
def CryptOwnersCardSaid : Prop := Claim7.holds Tryz.pinned (.plain (OpenSpec.ofChange cryptOwnersSpec)) cryptOwnersCard

/-- THE TIED CARD OF 'coldpluglaw33.CryptOpens'. -/
def cryptOpensCard : Claim7 := { stood := { row := cryptOpensRow, standIns := [], harness := (true, "1852527f1e65bc2eb1b1bf9b6bf28953c5a7842975eab0de623da82f7332d0ef"), looks := true }, kinds := [], alts := [], laidByText := true, laidKinds := [.data, .data, .data, .data, .sentinel, .sentinel, .pinned, .pinned], laidTests := true, laidLooks := .later }
def CryptOpensCardSaid : Prop := Claim7.holds Tryz.pinned (.plain (OpenSpec.ofChange cryptOpensSpec)) cryptOpensCard

/-- THE SECOND FORM's CARD OF 'coldpluglaw28.QueueEnds'. -/
def queueEndsUptoCard : Claim7 := { stood := { row := queueEndsUptoRow, standIns := [], harness := (true, "1852527f1e65bc2eb1b1bf9b6bf28953c5a7842975eab0de623da82f7332d0ef"), looks := true }, kinds := [], alts := [], laidByText := true, laidKinds := [.data, .data, .data, .data, .sentinel, .sentinel, .pinned], laidTests := true, laidLooks := .later }
def QueueEndsUptoCardSaid : Prop := Claim7.holds Tryz.pinned (.plain (OpenSpec.upto queueEndsSpec)) queueEndsUptoCard

/-- THE SECOND FORM's CARD OF 'coldpluglaw28.QueueFrees'. -/
def queueFreesUptoCard : Claim7 := { stood := { row := queueFreesUptoRow, standIns := [], harness := (true, "1852527f1e65bc2eb1b1bf9b6bf28953c5a7842975eab0de623da82f7332d0ef"), looks := true }, kinds := [], alts := [], laidByText := true, laidKinds := [.data, .data, .data, .data, .sentinel, .sentinel, .pinned], laidTests := true, laidLooks := .later }
def QueueFreesUptoCardSaid : Prop := Claim7.holds Tryz.pinned (.plain (OpenSpec.upto queueFreesSpec)) queueFreesUptoCard

/-- THE SECOND FORM's CARD OF 'coldpluglaw28.QueueApart'. -/
def queueApartUptoCard : Claim7 := { stood := { row := queueApartUptoRow, standIns := [], harness := (true, "1852527f1e65bc2eb1b1bf9b6bf28953c5a7842975eab0de623da82f7332d0ef"), looks := true }, kinds := [], alts := [], laidByText := true, laidKinds := [.data, .data, .data, .data, .sentinel, .sentinel, .pinned, .pinned], laidTests := true, laidLooks := .later }
def QueueApartUptoCardSaid : Prop := Claim7.holds Tryz.pinned (.plain (OpenSpec.upto queueApartSpec)) queueApartUptoCard

/-- THE SECOND FORM's CARD OF 'coldpluglaw33.CryptLayers'. -/
def cryptLayersUptoCard : Claim7 := { stood := { row := cryptLayersUptoRow, standIns := [], harness := (true, "1852527f1e65bc2eb1b1bf9b6bf28953c5a7842975eab0de623da82f7332d0ef"), looks := true }, kinds := [], alts := [], laidByText := true, laidKinds := [.data, .data, .data, .data, .sentinel, .sentinel, .pinned, .pinned], laidTests := true, laidLooks := .later }
def CryptLayersUptoCardSaid : Prop := Claim7.holds Tryz.pinned (.plain (OpenSpec.upto cryptLayersSpec)) cryptLayersUptoCard

/-- THE SECOND FORM's CARD OF 'coldpluglaw33.CryptShares'. -/
def cryptSharesUptoCard : Claim7 := { stood := { row := cryptSharesUptoRow, standIns := [], harness := (true, "1852527f1e65bc2eb1b1bf9b6bf28953c5a7842975eab0de623da82f7332d0ef"), looks := true }, kinds := [], alts := [], laidByText := true, laidKinds := [.data, .data, .data, .data, .sentinel, .sentinel, .pinned, .pinned], laidTests := true, laidLooks := .later }
def CryptSharesUptoCardSaid : Prop := Claim7.holds Tryz.pinned (.plain (OpenSpec.upto cryptSharesSpec)) cryptSharesUptoCard

/-- THE SECOND FORM's CARD OF 'coldpluglaw33.CryptKeys'. -/
def cryptKeysUptoCard : Claim7 := { stood := { row := cryptKeysUptoRow, standIns := [], harness := (true, "1852527f1e65bc2eb1b1bf9b6bf28953c5a7842975eab0de623da82f7332d0ef"), looks := true }, kinds := [], alts := [], laidByText := true, laidKinds := [.data, .data, .data, .data, .sentinel, .sentinel, .pinned, .pinned], laidTests := true, laidLooks := .later }
def CryptKeysUptoCardSaid : Prop := Claim7.holds Tryz.pinned (.plain (OpenSpec.upto cryptKeysSpec)) cryptKeysUptoCard

/-- THE SECOND FORM's CARD OF 'coldpluglaw33.CryptOrder'. -/
def cryptOrderUptoCard : Claim7 := { stood := { row := cryptOrderUptoRow, standIns := [], harness := (true, "1852527f1e65bc2eb1b1bf9b6bf28953c5a7842975eab0de623da82f7332d0ef"), looks := true }, kinds := [], alts := [], laidByText := true, laidKinds := [.data, .data, .data, .data, .sentinel, .sentinel, .pinned, .pinned], laidTests := true, laidLooks := .later }
def CryptOrderUptoCardSaid : Prop := Claim7.holds Tryz.pinned (.plain (OpenSpec.upto cryptOrderSpec)) cryptOrderUptoCard

/-- THE SECOND FORM's CARD OF 'coldpluglaw33.CryptEarlier'. -/
def cryptEarlierUptoCard : Claim7 := { stood := { row := cryptEarlierUptoRow, standIns := [], harness := (true, "1852527f1e65bc2eb1b1bf9b6bf28953c5a7842975eab0de623da82f7332d0ef"), looks := true }, kinds := [], alts := [], laidByText := true, laidKinds := [.data, .data, .data, .data, .sentinel, .sentinel, .pinned, .pinned], laidTests := true, laidLooks := .later }
def CryptEarlierUptoCardSaid : Prop := Claim7.holds Tryz.pinned (.plain (OpenSpec.upto cryptEarlierSpec)) cryptEarlierUptoCard

/-- THE SECOND FORM's CARD OF 'coldpluglaw33.CryptInner'. -/
def cryptInnerUptoCard : Claim7 := { stood := { row := cryptInnerUptoRow, standIns := [], harness := (true, "1852527f1e65bc2eb1b1bf9b6bf28953c5a7842975eab0de623da82f7332d0ef"), looks := true }, kinds := [], alts := [], laidByText := true, laidKinds := [.data, .data, .data, .data, .sentinel, .sentinel, .pinned, .pinned], laidTests := true, laidLooks := .later }
def CryptInnerUptoCardSaid : Prop := Claim7.holds Tryz.pinned (.plain (OpenSpec.upto cryptInnerSpec)) cryptInnerUptoCard

/-- THE SECOND FORM's CARD OF 'coldpluglaw33.CryptOwners'. -/
def cryptOwnersUptoCard : Claim7 := { stood := { row := cryptOwnersUptoRow, standIns := [], harness := (true, "1852527f1e65bc2eb1b1bf9b6bf28953c5a7842975eab0de623da82f7332d0ef"), looks := true }, kinds := [], alts := [], laidByText := true, laidKinds := [.data, .data, .data, .data, .sentinel, .sentinel, .pinned, .pinned], laidTests := true, laidLooks := .later }
def CryptOwnersUptoCardSaid : Prop := Claim7.holds Tryz.pinned (.plain (OpenSpec.upto cryptOwnersSpec)) cryptOwnersUptoCard

/-- THE SECOND FORM's CARD OF 'coldpluglaw33.CryptOpens'. -/
def cryptOpensUptoCard : Claim7 := { stood := { row := cryptOpensUptoRow, standIns := [], harness := (true, "1852527f1e65bc2eb1b1bf9b6bf28953c5a7842975eab0de623da82f7332d0ef"), looks := true }, kinds := [], alts := [], laidByText := true, laidKinds := [.data, .data, .data, .data, .sentinel, .sentinel, .pinned, .pinned], laidTests := true, laidLooks := .later }
def CryptOpensUptoCardSaid : Prop := Claim7.holds Tryz.pinned (.plain (OpenSpec.upto cryptOpensSpec)) cryptOpensUptoCard
end Rows
end Go.Proofs.YtanaompgapiikaaGreatDoor
