/-
  DERIVED. GIVEN WITH THE SEED: THE CARDS: each row of YtpigghenmagghaaGreatDoorRows.lean that lists a variable, with what it lists TIED to the program's text (the seventh form; the later family's looks); each row that meets fmt, with fmt's text TOLD by the authors' own Lean function (tested against real Go, not proved from fmt's source: count such statements apart). THE CARD IS WHAT COUNTS. Prove the row's statement (the work); the ties are given (YtpigghenmagghaaGreatDoorTie.lean); close each card by the builder's one call (the guide's Derived/Test/ToyasCard.lean, 'card_holds'). Laid BY PROGRAM, IN A SANDBOX (cutbox-door.mjs). By AI agents, Wed Nov 11 2026. No macro, syntax, notation, axiom, sorry.
-/
import Derived.Test.YtpigghenmagghaaGreatDoorRows
import GoSem.ClaimSeven
namespace Go.Proofs.YtpigghenmagghaaGreatDoor
namespace Rows

/-- THE TIED CARD OF 'coldpluglaw28.QueueGone'. -/
def queueGoneCard : Claim7 := { stood := { row := queueGoneRow, standIns := [], harness := (true, "7804167f1a419625942247422dcfc8e18457bbad0a6d1a21c70da21b8f63c91e"), looks := true }, kinds := [], alts := [], laidByText := true, laidKinds := [.data, .data, .data, .data, .pinned], laidTests := true, laidLooks := .later }
def QueueGoneCardSaid : Prop := Claim7.holds Tryz.pinned (.plain (OpenSpec.ofChange queueGoneSpec)) queueGoneCard

/-- THE TIED CARD OF 'coldpluglaw28.QueueEnds'. -/
def queueEndsCard : Claim7 := { stood := { row := queueEndsRow, standIns := [], harness := (true, "7804167f1a419625942247422dcfc8e18457bbad0a6d1a21c70da21b8f63c91e"), looks := true }, kinds := [], alts := [], laidByText := true, laidKinds := [.data, .data, .data, .data, .sentinel, .sentinel, .pinned], laidTests := true, laidLooks := .later }
def QueueEndsCardSaid : Prop := Claim7.holds Tryz.pinned (.plain (OpenSpec.ofChange queueEndsSpec)) queueEndsCard

/-- THE TIED CARD OF 'coldpluglaw28.QueueFrees'. -/
def queueFreesCard : Claim7 := { stood := { row := queueFreesRow, standIns := [], harness := (true, "7804167f1a419625942247422dcfc8e18457bbad0a6d1a21c70da21b8f63c91e"), looks := true }, kinds := [], alts := [], laidByText := true, laidKinds := [.data, .data, .data, .data, .sentinel, .sentinel, .pinned], laidTests := true, laidLooks := .later }
def QueueFreesCardSaid : Prop := Claim7.holds Tryz.pinned (.plain (OpenSpec.ofChange queueFreesSpec)) queueFreesCard

/-- THE TIED CARD OF 'coldpluglaw28.QueueApart'. -/
def queueApartCard : Claim7 := { stood := { row := queueApartRow, standIns := [], harness := (true, "7804167f1a419625942247422dcfc8e18457bbad0a6d1a21c70da21b8f63c91e"), looks := true }, kinds := [], alts := [], laidByText := true, laidKinds := [.data, .data, .data, .data, .sentinel, .sentinel, .pinned, .pinned], laidTests := true, laidLooks := .later }
def QueueApartCardSaid : Prop := Claim7.holds Tryz.pinned (.plain (OpenSpec.ofChange queueApartSpec)) queueApartCard

/-- THE SECOND FORM's CARD OF 'coldpluglaw28.QueueGone'. -/
def queueGoneUptoCard : Claim7 := { stood := { row := queueGoneUptoRow, standIns := [], harness := (true, "7804167f1a419625942247422dcfc8e18457bbad0a6d1a21c70da21b8f63c91e"), looks := true }, kinds := [], alts := [], laidByText := true, laidKinds := [.data, .data, .data, .data, .pinned], laidTests := true, laidLooks := .later }
def QueueGoneUptoCardSaid : Prop := Claim7.holds Tryz.pinned (.plain (OpenSpec.upto queueGoneSpec)) queueGoneUptoCard

/-- THE SECOND FORM's CARD OF 'coldpluglaw28.QueueEnds'. -/
def queueEndsUptoCard : Claim7 := { stood := { row := queueEndsUptoRow, standIns := [], harness := (true, "7804167f1a419625942247422dcfc8e18457bbad0a6d1a21c70da21b8f63c91e"), looks := true }, kinds := [], alts := [], laidByText := true, laidKinds := [.data, .data, .data, .data, .sentinel, .sentinel, .pinned], laidTests := true, laidLooks := .later }
def QueueEndsUptoCardSaid : Prop := Claim7.holds Tryz.pinned (.plain (OpenSpec.upto queueEndsSpec)) queueEndsUptoCard

/-- THE SECOND FORM's CARD OF 'coldpluglaw28.QueueFrees'. -/
def queueFreesUptoCard : Claim7 := { stood := { row := queueFreesUptoRow, standIns := [], harness := (true, "7804167f1a419625942247422dcfc8e18457bbad0a6d1a21c70da21b8f63c91e"), looks := true }, kinds := [], alts := [], laidByText := true, laidKinds := [.data, .data, .data, .data, .sentinel, .sentinel, .pinned], laidTests := true, laidLooks := .later }
def QueueFreesUptoCardSaid : Prop := Claim7.holds Tryz.pinned (.plain (OpenSpec.upto queueFreesSpec)) queueFreesUptoCard

/-- THE SECOND FORM's CARD OF 'coldpluglaw28.QueueApart'. -/
def queueApartUptoCard : Claim7 := { stood := { row := queueApartUptoRow, standIns := [], harness := (true, "7804167f1a419625942247422dcfc8e18457bbad0a6d1a21c70da21b8f63c91e"), looks := true }, kinds := [], alts := [], laidByText := true, laidKinds := [.data, .data, .data, .data, .sentinel, .sentinel, .pinned, .pinned], laidTests := true, laidLooks := .later }
def QueueApartUptoCardSaid : Prop := Claim7.holds Tryz.pinned (.plain (OpenSpec.upto queueApartSpec)) queueApartUptoCard
end Rows
end Go.Proofs.YtpigghenmagghaaGreatDoor
