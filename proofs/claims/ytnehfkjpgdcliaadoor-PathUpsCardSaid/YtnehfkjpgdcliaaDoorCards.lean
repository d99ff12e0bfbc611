/-
  DERIVED. GIVEN WITH THE SEED: THE CARDS: each row of YtnehfkjpgdcliaaDoorRows.lean that lists a variable, with what it lists TIED to the program's text (the seventh form; the later family's looks); each row that meets fmt, with fmt's text TOLD by the authors' own Lean function (tested against real Go, not proved from fmt's source: count such statements apart). THE CARD IS WHAT COUNTS. Prove the row's statement (the work); the ties are given (YtnehfkjpgdcliaaDoorTie.lean); close each card by the builder's one call (the guide's Derived/Test/ToyasCard.lean, 'card_holds'). Laid BY PROGRAM, IN A SANDBOX (cutbox-door.mjs). By AI agents, Wed Nov 11 2026. No macro, syntax, notation, axiom, sorry.
-/
import Derived.Test.YtnehfkjpgdcliaaDoorRows
import GoSem.ClaimSeven
namespace Go.Proofs.YtnehfkjpgdcliaaDoor
namespace Rows

/-- THE TIED CARD OF 'orchardlaw08.PathUps'. -/
def pathUpsCard : Claim7 := { stood := { row := pathUpsRow, standIns := [], harness := (true, "6d56d37f9218023e91de6f55339fbe5ffb059eb497e7f67ff00c30b955c2d8c5"), looks := false }, kinds := [], alts := [], laidByText := true, laidKinds := [.data, .data, .data, .data, .pinned], laidTests := true, laidLooks := .later }
def PathUpsCardSaid : Prop := Claim7.holds Tryd.pinned (.plain (OpenSpec.ofChange pathUpsSpec)) pathUpsCard

/-- THE TIED CARD OF 'orchardlaw12.OpMade'. -/
def opMadeCard : Claim7 := { stood := { row := opMadeRow, standIns := [], harness := (true, "6d56d37f9218023e91de6f55339fbe5ffb059eb497e7f67ff00c30b955c2d8c5"), looks := false }, kinds := [], alts := [], laidByText := true, laidKinds := [.data, .pinned], laidTests := true, laidLooks := .later }
def OpMadeCardSaid : Prop := Claim7.holds Tryd.pinned (.plain (OpenSpec.ofChange opMadeSpec)) opMadeCard

/-- THE TIED CARD OF 'orchardlaw11.WatchApart'. -/
def watchApartCard : Claim7 := { stood := { row := watchApartRow, standIns := [], harness := (true, "6d56d37f9218023e91de6f55339fbe5ffb059eb497e7f67ff00c30b955c2d8c5"), looks := false }, kinds := [], alts := [], laidByText := true, laidKinds := [.data, .pinned], laidTests := true, laidLooks := .later }
def WatchApartCardSaid : Prop := Claim7.holds Tryd.pinned (.plain (OpenSpec.ofChange watchApartSpec)) watchApartCard

/-- THE SECOND FORM's CARD OF 'orchardlaw08.PathUps'. -/
def pathUpsUptoCard : Claim7 := { stood := { row := pathUpsUptoRow, standIns := [], harness := (true, "6d56d37f9218023e91de6f55339fbe5ffb059eb497e7f67ff00c30b955c2d8c5"), looks := false }, kinds := [], alts := [], laidByText := true, laidKinds := [.data, .data, .data, .data, .pinned], laidTests := true, laidLooks := .later }
def PathUpsUptoCardSaid : Prop := Claim7.holds Tryd.pinned (.plain (OpenSpec.upto pathUpsSpec)) pathUpsUptoCard

/-- THE SECOND FORM's CARD OF 'orchardlaw12.OpMade'. -/
def opMadeUptoCard : Claim7 := { stood := { row := opMadeUptoRow, standIns := [], harness := (true, "6d56d37f9218023e91de6f55339fbe5ffb059eb497e7f67ff00c30b955c2d8c5"), looks := false }, kinds := [], alts := [], laidByText := true, laidKinds := [.data, .pinned], laidTests := true, laidLooks := .later }
def OpMadeUptoCardSaid : Prop := Claim7.holds Tryd.pinned (.plain (OpenSpec.upto opMadeSpec)) opMadeUptoCard

/-- THE SECOND FORM's CARD OF 'orchardlaw11.WatchApart'. -/
def watchApartUptoCard : Claim7 := { stood := { row := watchApartUptoRow, standIns := [], harness := (true, "6d56d37f9218023e91de6f55339fbe5ffb059eb497e7f67ff00c30b955c2d8c5"), looks := false }, kinds := [], alts := [], laidByText := true, laidKinds := [.data, .pinned], laidTests := true, laidLooks := .later }
def WatchApartUptoCardSaid : Prop := Claim7.holds Tryd.pinned (.plain (OpenSpec.upto watchApartSpec)) watchApartUptoCard
end Rows
end Go.Proofs.YtnehfkjpgdcliaaDoor
