/-
  DERIVED. GIVEN WITH THE SEED: THE CARDS: each row of YtbfogieeiobpdaaGreatDoorRows.lean that lists a variable, with what it lists TIED to the program's text (the seventh form; the later family's looks); each row that meets fmt, with fmt's text TOLD by the authors' own Lean function (tested against real Go, not proved from fmt's source: count such statements apart). THE CARD IS WHAT COUNTS. Prove the row's statement (the work); the ties are given (YtbfogieeiobpdaaGreatDoorTie.lean); close each card by the builder's one call (the guide's Derived/Test/ToyasCard.lean, 'card_holds'). Laid BY PROGRAM, IN A SANDBOX (cutbox-door.mjs). By AI agents, Wed Nov 11 2026. No macro, syntax, notation, axiom, sorry.
-/
import Derived.Test.YtbfogieeiobpdaaGreatDoorRows
import GoSem.ClaimSeven
namespace Go.Proofs.YtbfogieeiobpdaaGreatDoor
namespace Rows

/-- THE TIED CARD OF 'orchardlaw11.WatchBytes'. -/
def watchBytesCard : Claim7 := { stood := { row := watchBytesRow, standIns := [], harness := (true, "5d748e16f7bf0ad4760aa860876dcbba8f3252f0c2a6778b71487f926796d736"), looks := true }, kinds := [], alts := [], laidByText := true, laidKinds := [.data, .pinned], laidTests := true, laidLooks := .later }
def WatchBytesCardSaid : Prop := Claim7.holds Tryz.pinned (.plain (OpenSpec.ofChange watchBytesSpec)) watchBytesCard

/-- THE TIED CARD OF 'orchardlaw13.StateOverflows'. -/
def stateOverflowsCard : Claim7 := { stood := { row := stateOverflowsRow, standIns := [], harness := (true, "5d748e16f7bf0ad4760aa860876dcbba8f3252f0c2a6778b71487f926796d736"), looks := true }, kinds := [], alts := [], laidByText := true, laidKinds := [.data, .data, .data, .data, .pinned], laidTests := true, laidLooks := .later }
def StateOverflowsCardSaid : Prop := Claim7.holds Tryz.pinned (.plain (OpenSpec.ofChange stateOverflowsSpec)) stateOverflowsCard

/-- THE TIED CARD OF 'orchardlaw13.StateNotes'. -/
def stateNotesCard : Claim7 := { stood := { row := stateNotesRow, standIns := [], harness := (true, "5d748e16f7bf0ad4760aa860876dcbba8f3252f0c2a6778b71487f926796d736"), looks := true }, kinds := [], alts := [], laidByText := true, laidKinds := [.data, .data, .data, .data, .pinned], laidTests := true, laidLooks := .later }
def StateNotesCardSaid : Prop := Claim7.holds Tryz.pinned (.plain (OpenSpec.ofChange stateNotesSpec)) stateNotesCard

/-- THE TIED CARD OF 'orchardlaw13.StateOrders'. -/
def stateOrdersCard : Claim7 := { stood := { row := stateOrdersRow, standIns := [], harness := (true, "5d748e16f7bf0ad4760aa860876dcbba8f3252f0c2a6778b71487f926796d736"), looks := true }, kinds := [], alts := [], laidByText := true, laidKinds := [.data, .data, .data, .data, .pinned], laidTests := true, laidLooks := .later }
def StateOrdersCardSaid : Prop := Claim7.holds Tryz.pinned (.plain (OpenSpec.ofChange stateOrdersSpec)) stateOrdersCard

/-- THE TIED CARD OF 'orchardlaw13.StateEnds'. -/
def stateEndsCard : Claim7 := { stood := { row := stateEndsRow, standIns := [], harness := (true, "5d748e16f7bf0ad4760aa860876dcbba8f3252f0c2a6778b71487f926796d736"), looks := true }, kinds := [], alts := [], laidByText := true, laidKinds := [.data, .data, .data, .data, .pinned], laidTests := true, laidLooks := .later }
def StateEndsCardSaid : Prop := Claim7.holds Tryz.pinned (.plain (OpenSpec.ofChange stateEndsSpec)) stateEndsCard

/-- THE TIED CARD OF 'orchardlaw13.StateBytes'. -/
def stateBytesCard : Claim7 := { stood := { row := stateBytesRow, standIns := [], harness := (true, "5d748e16f7bf0ad4760aa860876dcbba8f3252f0c2a6778b71487f926796d736"), looks := true }, kinds := [], alts := [], laidByText := true, laidKinds := [.data, .data, .data, .data, .pinned], laidTests := true, laidLooks := .later }
def StateBytesCardSaid : Prop := Claim7.holds Tryz.pinned (.plain (OpenSpec.ofChange stateBytesSpec)) stateBytesCard

/-- THE SECOND FORM's CARD OF 'orchardlaw11.WatchBytes'. -/
def watchBytesUptoCard : Claim7 := { stood := { row := watchBytesUptoRow, standIns := [], harness := (true, "5d748e16f7bf0ad4760aa860876dcbba8f3252f0c2a6778b71487f926796d736"), looks := true }, kinds := [], alts := [], laidByText := true, laidKinds := [.data, .pinned], laidTests := true, laidLooks := .later }
def WatchBytesUptoCardSaid : Prop := Claim7.holds Tryz.pinned (.plain (OpenSpec.upto watchBytesSpec)) watchBytesUptoCard

/-- THE SECOND FORM's CARD OF 'orchardlaw13.StateOverflows'. -/
def stateOverflowsUptoCard : Claim7 := { stood := { row := stateOverflowsUptoRow, standIns := [], harness := (true, "5d748e16f7bf0ad4760aa860876dcbba8f3252f0c2a6778b71487f926796d736"), looks := true }, kinds := [], alts := [], laidByText := true, laidKinds := [.data, .data, .data, .data, .pinned], laidTests := true, laidLooks := .later }
def StateOverflowsUptoCardSaid : Prop := Claim7.holds Tryz.pinned (.plain (OpenSpec.upto stateOverflowsSpec)) stateOverflowsUptoCard

/-- THE SECOND FORM's CARD OF 'orchardlaw13.StateNotes'. -/
def stateNotesUptoCard : Claim7 := { stood := { row := stateNotesUptoRow, standIns := [], harness := (true, "5d748e16f7bf0ad4760aa860876dcbba8f3252f0c2a6778b71487f926796d736"), looks := true }, kinds := [], alts := [], laidByText := true, laidKinds := [.data, .data, .data, .data, .pinned], laidTests := true, laidLooks := .later }
def StateNotesUptoCardSaid : Prop := Claim7.holds Tryz.pinned (.plain (OpenSpec.upto stateNotesSpec)) stateNotesUptoCard

/-- THE SECOND FORM's CARD OF 'orchardlaw13.StateOrders'. -/
def stateOrdersUptoCard : Claim7 := { stood := { row := stateOrdersUptoRow, standIns := [], harness := (true, "5d748e16f7bf0ad4760aa860876dcbba8f3252f0c2a6778b71487f926796d736"), looks := true }, kinds := [], alts := [], laidByText := true, laidKinds := [.data, .data, .data, .data, .pinned], laidTests := true, laidLooks := .later }
def StateOrdersUptoCardSaid : Prop := Claim7.holds Tryz.pinned (.plain (OpenSpec.upto stateOrdersSpec)) stateOrdersUptoCard

/-- THE SECOND FORM's CARD OF 'orchardlaw13.StateEnds'. -/
def stateEndsUptoCard : Claim7 := { stood := { row := stateEndsUptoRow, standIns := [], harness := (true, "5d748e16f7bf0ad4760aa860876dcbba8f3252f0c2a6778b71487f926796d736"), looks := true }, kinds := [], alts := [], laidByText := true, laidKinds := [.data, .data, .data, .data, .pinned], laidTests := true, laidLooks := .later }
def StateEndsUptoCardSaid : Prop := Claim7.holds Tryz.pinned (.plain (OpenSpec.upto stateEndsSpec)) stateEndsUptoCard

/-- THE SECOND FORM's CARD OF 'orchardlaw13.StateBytes'. -/
def stateBytesUptoCard : Claim7 := { stood := { row := stateBytesUptoRow, standIns := [], harness := (true, "5d748e16f7bf0ad4760aa860876dcbba8f3252f0c2a6778b71487f926796d736"), looks := true }, kinds := [], alts := [], laidByText := true, laidKinds := [.data, .data, .data, .data, .pinned], laidTests := true, laidLooks := .later }
def StateBytesUptoCardSaid : Prop := Claim7.holds Tryz.pinned (.plain (OpenSpec.upto stateBytesSpec)) stateBytesUptoCard
end Rows
end Go.Proofs.YtbfogieeiobpdaaGreatDoor
