/-
  DERIVED. GIVEN WITH THE SEED: THE CARDS: each row of YtpnpjaemlflplaaGreatDoorRows.lean that lists a variable, with what it lists TIED to the program's text (the seventh form; the later family's looks); each row that meets fmt, with fmt's text TOLD by the authors' own Lean function (tested against real Go, not proved from fmt's source: count such statements apart). THE CARD IS WHAT COUNTS. Prove the row's statement (the work); the ties are given (YtpnpjaemlflplaaGreatDoorTie.lean); close each card by the builder's one call (the guide's Derived/Test/ToyasCard.lean, 'card_holds'). Laid BY PROGRAM, IN A SANDBOX (cutbox-door.mjs). By AI agents, Wed Nov 11 2026. No macro, syntax, notation, axiom, sorry.
-/
import Derived.Test.YtpnpjaemlflplaaGreatDoorRows
import GoSem.ClaimSeven
namespace Go.Proofs.YtpnpjaemlflplaaGreatDoor
namespace Rows

/-- THE TIED CARD OF 'coldpluglaw36.SeatOf'. -/
def seatOfCard : Claim7 := { stood := { row := seatOfRow, standIns := [], harness := (true, "cad66ba4879969b9ce20df679d4bbae5f860034ff0f6f9ea76b1be2147b73edd"), looks := true }, kinds := [], alts := [], laidByText := true, laidKinds := [.data, .data, .data, .data, .pinned, .pinned], laidTests := true, laidLooks := .later }
def SeatOfCardSaid : Prop := Claim7.holds Tryz.pinned (.plain (OpenSpec.ofChange seatOfSpec)) seatOfCard

/-- THE TIED CARD OF 'coldpluglaw36.SeatDevices'. -/
def seatDevicesCard : Claim7 := { stood := { row := seatDevicesRow, standIns := [], harness := (true, "cad66ba4879969b9ce20df679d4bbae5f860034ff0f6f9ea76b1be2147b73edd"), looks := true }, kinds := [], alts := [], laidByText := true, laidKinds := [.data, .data, .data, .data, .pinned, .pinned], laidTests := true, laidLooks := .later }
def SeatDevicesCardSaid : Prop := Claim7.holds Tryz.pinned (.plain (OpenSpec.ofChange seatDevicesSpec)) seatDevicesCard

/-- THE TIED CARD OF 'coldpluglaw36.SeatInherits'. -/
def seatInheritsCard : Claim7 := { stood := { row := seatInheritsRow, standIns := [], harness := (true, "cad66ba4879969b9ce20df679d4bbae5f860034ff0f6f9ea76b1be2147b73edd"), looks := true }, kinds := [], alts := [], laidByText := true, laidKinds := [.data, .data, .data, .data, .pinned, .pinned], laidTests := true, laidLooks := .later }
def SeatInheritsCardSaid : Prop := Claim7.holds Tryz.pinned (.plain (OpenSpec.ofChange seatInheritsSpec)) seatInheritsCard

/-- THE TIED CARD OF 'coldpluglaw36.SeatShares'. -/
def seatSharesCard : Claim7 := { stood := { row := seatSharesRow, standIns := [], harness := (true, "cad66ba4879969b9ce20df679d4bbae5f860034ff0f6f9ea76b1be2147b73edd"), looks := true }, kinds := [], alts := [], laidByText := true, laidKinds := [.data, .data, .data, .data, .pinned, .pinned], laidTests := true, laidLooks := .later }
def SeatSharesCardSaid : Prop := Claim7.holds Tryz.pinned (.plain (OpenSpec.ofChange seatSharesSpec)) seatSharesCard

/-- THE TIED CARD OF 'coldpluglaw36.SeatMasters'. -/
def seatMastersCard : Claim7 := { stood := { row := seatMastersRow, standIns := [], harness := (true, "cad66ba4879969b9ce20df679d4bbae5f860034ff0f6f9ea76b1be2147b73edd"), looks := true }, kinds := [], alts := [], laidByText := true, laidKinds := [.data, .data, .data, .data, .pinned, .pinned], laidTests := true, laidLooks := .later }
def SeatMastersCardSaid : Prop := Claim7.holds Tryz.pinned (.plain (OpenSpec.ofChange seatMastersSpec)) seatMastersCard

/-- THE TIED CARD OF 'coldpluglaw36.SeatOthers'. -/
def seatOthersCard : Claim7 := { stood := { row := seatOthersRow, standIns := [], harness := (true, "cad66ba4879969b9ce20df679d4bbae5f860034ff0f6f9ea76b1be2147b73edd"), looks := true }, kinds := [], alts := [], laidByText := true, laidKinds := [.data, .data, .data, .data, .pinned, .pinned], laidTests := true, laidLooks := .later }
def SeatOthersCardSaid : Prop := Claim7.holds Tryz.pinned (.plain (OpenSpec.ofChange seatOthersSpec)) seatOthersCard

/-- THE TIED CARD OF 'coldpluglaw36.SeatMoves'. -/
def seatMovesCard : Claim7 := { stood := { row := seatMovesRow, standIns := [], harness := (true, "cad66ba4879969b9ce20df679d4bbae5f860034ff0f6f9ea76b1be2147b73edd"), looks := true }, kinds := [], alts := [], laidByText := true, laidKinds := [.data, .data, .data, .data, .pinned, .pinned], laidTests := true, laidLooks := .later }
def SeatMovesCardSaid : Prop := Claim7.holds Tryz.pinned (.plain (OpenSpec.ofChange seatMovesSpec)) seatMovesCard

/-- THE TIED CARD OF 'coldpluglaw36.SeatEmpty'. -/
def seatEmptyCard : Claim7 := { stood := { row := seatEmptyRow, standIns := [], harness := (true, "cad66ba4879969b9ce20df679d4bbae5f860034ff0f6f9ea76b1be2147b73edd"), looks := true }, kinds := [], alts := [], laidByText := true, laidKinds := [.data, .data, .data, .data, .pinned, .pinned], laidTests := true, laidLooks := .later }
def SeatEmptyCardSaid : Prop := Claim7.holds Tryz.pinned (.plain (OpenSpec.ofChange seatEmptySpec)) seatEmptyCard

/-- THE TIED CARD OF 'coldpluglaw28.QueueEnds'. -/
def queueEndsCard : Claim7 := { stood := { row := queueEndsRow, standIns := [], harness := (true, "cad66ba4879969b9ce20df679d4bbae5f860034ff0f6f9ea76b1be2147b73edd"), looks := true }, kinds := [], alts := [], laidByText := true, laidKinds := [.data, .data, .data, .data, .sentinel, .sentinel, .pinned], laidTests := true, laidLooks := .later }
def QueueEndsCardSaid : Prop := Claim7.holds Tryz.pinned (.plain (OpenSpec.ofChange queueEndsSpec)) queueEndsCard

/-- THE TIED CARD OF 'coldpluglaw28.QueueFrees'. -/
def queueFreesCard : Claim7 := { stood := { row := queueFreesRow, standIns := [], harness := (true, "cad66ba4879969b9ce20df679d4bbae5f860034ff0f6f9ea76b1be2147b73edd"), looks := true }, kinds := [], alts := [], laidByText := true, laidKinds := [.data, .data, .data, .data, .sentinel, .sentinel, .pinned], laidTests := true, laidLooks := .later }
def QueueFreesCardSaid : Prop := Claim7.holds Tryz.pinned (.plain (OpenSpec.ofChange queueFreesSpec)) queueFreesCard

/-- THE TIED CARD OF 'coldpluglaw28.QueueApart'. -/
def queueApartCard : Claim7 := { stood := { row := queueApartRow, standIns := [], harness := (true, "cad66ba4879969b9ce20df679d4bbae5f860034ff0f6f9ea76b1be2147b73edd"), looks := true }, kinds := [], alts := [], laidByText := true, laidKinds := [.data, .data, .data, .data, .sentinel, .sentinel, .pinned, .pinned], laidTests := true, laidLooks := .later }
def QueueApartCardSaid : Prop := Claim7.holds Tryz.pinned (.plain (OpenSpec.ofChange queueApartSpec)) queueApartCard

/-- THE SECOND FORM's CARD OF 'coldpluglaw36.SeatOf'. -/
def seatOfUptoCard : Claim7 := { stood := { row := seatOfUptoRow, standIns := [], harness := (true, "cad66ba4879969b9ce20df679d4bbae5f860034ff0f6f9ea76b1be2147b73edd"), looks := true }, kinds := [], alts := [], laidByText := true, laidKinds := [.data, .data, .data, .data, .pinned, .pinned], laidTests := true, laidLooks := .later }
def SeatOfUptoCardSaid : Prop := Claim7.holds Tryz.pinned (.plain (OpenSpec.upto seatOfSpec)) seatOfUptoCard

/-- THE SECOND FORM's CARD OF 'coldpluglaw36.SeatDevices'. -/
def seatDevicesUptoCard : Claim7 := { stood := { row := seatDevicesUptoRow, standIns := [], harness := (true, "cad66ba4879969b9ce20df679d4bbae5f860034ff0f6f9ea76b1be2147b73edd"), looks := true }, kinds := [], alts := [], laidByText := true, laidKinds := [.data, .data, .data, .data, .pinned, .pinned], laidTests := true, laidLooks := .later }
def SeatDevicesUptoCardSaid : Prop := Claim7.holds Tryz.pinned (.plain (OpenSpec.upto seatDevicesSpec)) seatDevicesUptoCard

/-- THE SECOND FORM's CARD OF 'coldpluglaw36.SeatInherits'. -/
def seatInheritsUptoCard : Claim7 := { stood := { row := seatInheritsUptoRow, standIns := [], harness := (true, "cad66ba4879969b9ce20df679d4bbae5f860034ff0f6f9ea76b1be2147b73edd"), looks := true }, kinds := [], alts := [], laidByText := true, laidKinds := [.data, .data, .data, .data, .pinned, .pinned], laidTests := true, laidLooks := .later }
def SeatInheritsUptoCardSaid : Prop := Claim7.holds Tryz.pinned (.plain (OpenSpec.upto seatInheritsSpec)) seatInheritsUptoCard

/-- THE SECOND FORM's CARD OF 'coldpluglaw36.SeatShares'. -/
def seatSharesUptoCard : Claim7 := { stood := { row := seatSharesUptoRow, standIns := [], harness := (true, "cad66ba4879969b9ce20df679d4bbae5f860034ff0f6f9ea76b1be2147b73edd"), looks := true }, kinds := [], alts := [], laidByText := true, laidKinds := [.data, .data, .data, .data, .pinned, .pinned], laidTests := true, laidLooks := .later }
def SeatSharesUptoCardSaid : Prop := Claim7.holds Tryz.pinned (.plain (OpenSpec.upto seatSharesSpec)) seatSharesUptoCard

/-- THE SECOND FORM's CARD OF 'coldpluglaw36.SeatMasters'. -/
def seatMastersUptoCard : Claim7 := { stood := { row := seatMastersUptoRow, standIns := [], harness := (true, "cad66ba4879969b9ce20df679d4bbae5f860034ff0f6f9ea76b1be2147b73edd"), looks := true }, kinds := [], alts := [], laidByText := true, laidKinds := [.data, .data, .data, .data, .pinned, .pinned], laidTests := true, laidLooks := .later }
def SeatMastersUptoCardSaid : Prop := Claim7.holds Tryz.pinned (.plain (OpenSpec.upto seatMastersSpec)) seatMastersUptoCard

/-- THE SECOND FORM's CARD OF 'coldpluglaw36.SeatOthers'. -/
def seatOthersUptoCard : Claim7 := { stood := { row := seatOthersUptoRow, standIns := [], harness := (true, "cad66ba4879969b9ce20df679d4bbae5f860034ff0f6f9ea76b1be2147b73edd"), looks := true }, kinds := [], alts := [], laidByText := true, laidKinds := [.data, .data, .data, .data, .pinned, .pinned], laidTests := true, laidLooks := .later }
def SeatOthersUptoCardSaid : Prop := Claim7.holds Tryz.pinned (.plain (OpenSpec.upto seatOthersSpec)) seatOthersUptoCard

/-- THE SECOND FORM's CARD OF 'coldpluglaw36.SeatMoves'. -/
def seatMovesUptoCard : Claim7 := { stood := { row := seatMovesUptoRow, standIns := [], harness := (true, "cad66ba4879969b9ce20df679d4bbae5f860034ff0f6f9ea76b1be2147b73edd"), looks := true }, kinds := [], alts := [], laidByText := true, laidKinds := [.data, .data, .data, .data, .pinned, .pinned], laidTests := true, laidLooks := .later }
def SeatMovesUptoCardSaid : Prop := Claim7.holds Tryz.pinned (.plain (OpenSpec.upto seatMovesSpec)) seatMovesUptoCard

/-- THE SECOND FORM's CARD OF 'coldpluglaw36.SeatEmpty'. -/
def seatEmptyUptoCard : Claim7 := { stood := { row := seatEmptyUptoRow, standIns := [], harness := (true, "cad66ba4879969b9ce20df679d4bbae5f860034ff0f6f9ea76b1be2147b73edd"), looks := true }, kinds := [], alts := [], laidByText := true, laidKinds := [.data, .data, .data, .data, .pinned, .pinned], laidTests := true, laidLooks := .later }
def SeatEmptyUptoCardSaid : Prop := Claim7.holds Tryz.pinned (.plain (OpenSpec.upto seatEmptySpec)) seatEmptyUptoCard

/-- THE SECOND FORM's CARD OF 'coldpluglaw28.QueueEnds'. -/
def queueEndsUptoCard : Claim7 := { stood := { row := queueEndsUptoRow, standIns := [], harness := (true, "cad66ba4879969b9ce20df679d4bbae5f860034ff0f6f9ea76b1be2147b73edd"), looks := true }, kinds := [], alts := [], laidByText := true, laidKinds := [.data, .data, .data, .data, .sentinel, .sentinel, .pinned], laidTests := true, laidLooks := .later }
def QueueEndsUptoCardSaid : Prop := Claim7.holds Tryz.pinned (.plain (OpenSpec.upto queueEndsSpec)) queueEndsUptoCard

/-- THE SECOND FORM's CARD OF 'coldpluglaw28.QueueFrees'. -/
def queueFreesUptoCard : Claim7 := { stood := { row := queueFreesUptoRow, standIns := [], harness := (true, "cad66ba4879969b9ce20df679d4bbae5f860034ff0f6f9ea76b1be2147b73edd"), looks := true }, kinds := [], alts := [], laidByText := true, laidKinds := [.data, .data, .data, .data, .sentinel, .sentinel, .pinned], laidTests := true, laidLooks := .later }
def QueueFreesUptoCardSaid : Prop := Claim7.holds Tryz.pinned (.plain (OpenSpec.upto queueFreesSpec)) queueFreesUptoCard

/-- THE SECOND FORM's CARD OF 'coldpluglaw28.QueueApart'. -/
def queueApartUptoCard : Claim7 := { stood := { row := queueApartUptoRow, standIns := [], harness := (true, "cad66ba4879969b9ce20df679d4bbae5f860034ff0f6f9ea76b1be2147b73edd"), looks := true }, kinds := [], alts := [], laidByText := true, laidKinds := [.data, .data, .data, .data, .sentinel, .sentinel, .pinned, .pinned], laidTests := true, laidLooks := .later }
def QueueApartUptoCardSaid : Prop := Claim7.holds Tryz.pinned (.plain (OpenSpec.upto queueApartSpec)) queueApartUptoCard
end Rows
end Go.Proofs.YtpnpjaemlflplaaGreatDoor
