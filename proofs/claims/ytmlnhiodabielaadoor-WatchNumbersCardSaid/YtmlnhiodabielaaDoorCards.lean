/-
  DERIVED. GIVEN WITH THE SEED: THE CARDS: each row of YtmlnhiodabielaaDoorRows.lean that lists a variable, with what it lists TIED to the program's text (the seventh form; the later family's looks); each row that meets fmt, with fmt's text TOLD by the authors' own Lean function (tested against real Go, not proved from fmt's source: count such statements apart). THE CARD IS WHAT COUNTS. Prove the row's statement (the work); the ties are given (YtmlnhiodabielaaDoorTie.lean); close each card by the builder's one call (the guide's Derived/Test/ToyasCard.lean, 'card_holds'). Laid BY PROGRAM, IN A SANDBOX (cutbox-door.mjs). By AI agents, Wed Nov 11 2026. No macro, syntax, notation, axiom, sorry.
-/
import Derived.Test.YtmlnhiodabielaaDoorRows
import GoSem.ClaimSeven
namespace Go.Proofs.YtmlnhiodabielaaDoor
namespace Rows

/-- THE TIED CARD OF 'orchardlaw11.WatchApart'. -/
def watchApartCard : Claim7 := { stood := { row := watchApartRow, standIns := [], harness := (true, "c1e0ada10f8e9083bea7e146cc48acaea3d7488642aef2a6f037196dafedf5a1"), looks := false }, kinds := [], alts := [], laidByText := true, laidKinds := [.data, .pinned], laidTests := true, laidLooks := .later }
def WatchApartCardSaid : Prop := Claim7.holds Tryd.pinned (.plain (OpenSpec.ofChange watchApartSpec)) watchApartCard

/-- THE TIED CARD OF 'orchardlaw11.WatchNumbers'. -/
def watchNumbersCard : Claim7 := { stood := { row := watchNumbersRow, standIns := [], harness := (true, "c1e0ada10f8e9083bea7e146cc48acaea3d7488642aef2a6f037196dafedf5a1"), looks := false }, kinds := [], alts := [], laidByText := true, laidKinds := [.data, .pinned], laidTests := true, laidLooks := .later }
def WatchNumbersCardSaid : Prop := Claim7.holds Tryd.pinned (.plain (OpenSpec.ofChange watchNumbersSpec)) watchNumbersCard

/-- THE TIED CARD OF 'orchardlaw11.WatchOnce'. -/
def watchOnceCard : Claim7 := { stood := { row := watchOnceRow, standIns := [], harness := (true, "c1e0ada10f8e9083bea7e146cc48acaea3d7488642aef2a6f037196dafedf5a1"), looks := false }, kinds := [], alts := [], laidByText := true, laidKinds := [.data, .pinned], laidTests := true, laidLooks := .later }
def WatchOnceCardSaid : Prop := Claim7.holds Tryd.pinned (.plain (OpenSpec.ofChange watchOnceSpec)) watchOnceCard

/-- THE TIED CARD OF 'orchardlaw11.WatchMany'. -/
def watchManyCard : Claim7 := { stood := { row := watchManyRow, standIns := [], harness := (true, "c1e0ada10f8e9083bea7e146cc48acaea3d7488642aef2a6f037196dafedf5a1"), looks := false }, kinds := [], alts := [], laidByText := true, laidKinds := [.data, .pinned], laidTests := true, laidLooks := .later }
def WatchManyCardSaid : Prop := Claim7.holds Tryd.pinned (.plain (OpenSpec.ofChange watchManySpec)) watchManyCard

/-- THE TIED CARD OF 'orchardlaw11.WatchActs'. -/
def watchActsCard : Claim7 := { stood := { row := watchActsRow, standIns := [], harness := (true, "c1e0ada10f8e9083bea7e146cc48acaea3d7488642aef2a6f037196dafedf5a1"), looks := false }, kinds := [], alts := [], laidByText := true, laidKinds := [.data, .pinned], laidTests := true, laidLooks := .later }
def WatchActsCardSaid : Prop := Claim7.holds Tryd.pinned (.plain (OpenSpec.ofChange watchActsSpec)) watchActsCard

/-- THE TIED CARD OF 'orchardlaw11.WatchReads'. -/
def watchReadsCard : Claim7 := { stood := { row := watchReadsRow, standIns := [], harness := (true, "c1e0ada10f8e9083bea7e146cc48acaea3d7488642aef2a6f037196dafedf5a1"), looks := false }, kinds := [], alts := [], laidByText := true, laidKinds := [.data, .pinned], laidTests := true, laidLooks := .later }
def WatchReadsCardSaid : Prop := Claim7.holds Tryd.pinned (.plain (OpenSpec.ofChange watchReadsSpec)) watchReadsCard

/-- THE SECOND FORM's CARD OF 'orchardlaw11.WatchApart'. -/
def watchApartUptoCard : Claim7 := { stood := { row := watchApartUptoRow, standIns := [], harness := (true, "c1e0ada10f8e9083bea7e146cc48acaea3d7488642aef2a6f037196dafedf5a1"), looks := false }, kinds := [], alts := [], laidByText := true, laidKinds := [.data, .pinned], laidTests := true, laidLooks := .later }
def WatchApartUptoCardSaid : Prop := Claim7.holds Tryd.pinned (.plain (OpenSpec.upto watchApartSpec)) watchApartUptoCard

/-- THE SECOND FORM's CARD OF 'orchardlaw11.WatchNumbers'. -/
def watchNumbersUptoCard : Claim7 := { stood := { row := watchNumbersUptoRow, standIns := [], harness := (true, "c1e0ada10f8e9083bea7e146cc48acaea3d7488642aef2a6f037196dafedf5a1"), looks := false }, kinds := [], alts := [], laidByText := true, laidKinds := [.data, .pinned], laidTests := true, laidLooks := .later }
def WatchNumbersUptoCardSaid : Prop := Claim7.holds Tryd.pinned (.plain (OpenSpec.upto watchNumbersSpec)) watchNumbersUptoCard

/-- THE SECOND FORM's CARD OF 'orchardlaw11.WatchOnce'. -/
def watchOnceUptoCard : Claim7 := { stood := { row := watchOnceUptoRow, standIns := [], harness := (true, "c1e0ada10f8e9083bea7e146cc48acaea3d7488642aef2a6f037196dafedf5a1"), looks := false }, kinds := [], alts := [], laidByText := true, laidKinds := [.data, .pinned], laidTests := true, laidLooks := .later }
def WatchOnceUptoCardSaid : Prop := Claim7.holds Tryd.pinned (.plain (OpenSpec.upto watchOnceSpec)) watchOnceUptoCard

/-- THE SECOND FORM's CARD OF 'orchardlaw11.WatchMany'. -/
def watchManyUptoCard : Claim7 := { stood := { row := watchManyUptoRow, standIns := [], harness := (true, "c1e0ada10f8e9083bea7e146cc48acaea3d7488642aef2a6f037196dafedf5a1"), looks := false }, kinds := [], alts := [], laidByText := true, laidKinds := [.data, .pinned], laidTests := true, laidLooks := .later }
def WatchManyUptoCardSaid : Prop := Claim7.holds Tryd.pinned (.plain (OpenSpec.upto watchManySpec)) watchManyUptoCard

/-- THE SECOND FORM's CARD OF 'orchardlaw11.WatchActs'. -/
def watchActsUptoCard : Claim7 := { stood := { row := watchActsUptoRow, standIns := [], harness := (true, "c1e0ada10f8e9083bea7e146cc48acaea3d7488642aef2a6f037196dafedf5a1"), looks := false }, kinds := [], alts := [], laidByText := true, laidKinds := [.data, .pinned], laidTests := true, laidLooks := .later }
def WatchActsUptoCardSaid : Prop := Claim7.holds Tryd.pinned (.plain (OpenSpec.upto watchActsSpec)) watchActsUptoCard

/-- THE SECOND FORM's CARD OF 'orchardlaw11.WatchReads'. -/
def watchReadsUptoCard : Claim7 := { stood := { row := watchReadsUptoRow, standIns := [], harness := (true, "c1e0ada10f8e9083bea7e146cc48acaea3d7488642aef2a6f037196dafedf5a1"), looks := false }, kinds := [], alts := [], laidByText := true, laidKinds := [.data, .pinned], laidTests := true, laidLooks := .later }
def WatchReadsUptoCardSaid : Prop := Claim7.holds Tryd.pinned (.plain (OpenSpec.upto watchReadsSpec)) watchReadsUptoCard
end Rows
end Go.Proofs.YtmlnhiodabielaaDoor
