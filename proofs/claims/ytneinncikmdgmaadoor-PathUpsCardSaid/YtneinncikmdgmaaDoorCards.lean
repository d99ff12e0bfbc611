/-
  DERIVED. GIVEN WITH THE SEED: THE CARDS: each row of YtneinncikmdgmaaDoorRows.lean that lists a variable, with what it lists TIED to the program's text (the seventh form; the later family's looks); each row that meets fmt, with fmt's text TOLD by the authors' own Lean function (tested against real Go, not proved from fmt's source: count such statements apart). THE CARD IS WHAT COUNTS. Prove the row's statement (the work); the ties are given (YtneinncikmdgmaaDoorTie.lean); close each card by the builder's one call (the guide's Derived/Test/ToyasCard.lean, 'card_holds'). Laid BY PROGRAM, IN A SANDBOX (cutbox-door.mjs). By AI agents, Wed Nov 11 2026. No macro, syntax, notation, axiom, sorry.
-/
import Derived.Test.YtneinncikmdgmaaDoorRows
import GoSem.ClaimSeven
namespace Go.Proofs.YtneinncikmdgmaaDoor
namespace Rows

/-- THE TIED CARD OF 'orchardlaw08.PathOrders'. -/
def pathOrdersCard : Claim7 := { stood := { row := pathOrdersRow, standIns := [], harness := (true, "4c287f8f8db899229829d2a762f4d90d4fb6856a7c96bf172f8a1e2c1e96ed85"), looks := true }, kinds := [], alts := [], laidByText := true, laidKinds := [.data, .data, .data], laidTests := true, laidLooks := .later }
def PathOrdersCardSaid : Prop := Claim7.holds Tryd.pinned (.plain (OpenSpec.ofChange pathOrdersSpec)) pathOrdersCard

/-- THE TIED CARD OF 'orchardlaw11.WatchApart'. -/
def watchApartCard : Claim7 := { stood := { row := watchApartRow, standIns := [], harness := (true, "4c287f8f8db899229829d2a762f4d90d4fb6856a7c96bf172f8a1e2c1e96ed85"), looks := true }, kinds := [], alts := [], laidByText := true, laidKinds := [.data, .pinned], laidTests := true, laidLooks := .later }
def WatchApartCardSaid : Prop := Claim7.holds Tryd.pinned (.plain (OpenSpec.ofChange watchApartSpec)) watchApartCard

/-- THE TIED CARD OF 'orchardlaw11.WatchNumbers'. -/
def watchNumbersCard : Claim7 := { stood := { row := watchNumbersRow, standIns := [], harness := (true, "4c287f8f8db899229829d2a762f4d90d4fb6856a7c96bf172f8a1e2c1e96ed85"), looks := true }, kinds := [], alts := [], laidByText := true, laidKinds := [.data, .pinned], laidTests := true, laidLooks := .later }
def WatchNumbersCardSaid : Prop := Claim7.holds Tryd.pinned (.plain (OpenSpec.ofChange watchNumbersSpec)) watchNumbersCard

/-- THE TIED CARD OF 'orchardlaw11.WatchOnce'. -/
def watchOnceCard : Claim7 := { stood := { row := watchOnceRow, standIns := [], harness := (true, "4c287f8f8db899229829d2a762f4d90d4fb6856a7c96bf172f8a1e2c1e96ed85"), looks := true }, kinds := [], alts := [], laidByText := true, laidKinds := [.data, .pinned], laidTests := true, laidLooks := .later }
def WatchOnceCardSaid : Prop := Claim7.holds Tryd.pinned (.plain (OpenSpec.ofChange watchOnceSpec)) watchOnceCard

/-- THE TIED CARD OF 'orchardlaw11.WatchMany'. -/
def watchManyCard : Claim7 := { stood := { row := watchManyRow, standIns := [], harness := (true, "4c287f8f8db899229829d2a762f4d90d4fb6856a7c96bf172f8a1e2c1e96ed85"), looks := true }, kinds := [], alts := [], laidByText := true, laidKinds := [.data, .pinned], laidTests := true, laidLooks := .later }
def WatchManyCardSaid : Prop := Claim7.holds Tryd.pinned (.plain (OpenSpec.ofChange watchManySpec)) watchManyCard

/-- THE TIED CARD OF 'orchardlaw11.WatchActs'. -/
def watchActsCard : Claim7 := { stood := { row := watchActsRow, standIns := [], harness := (true, "4c287f8f8db899229829d2a762f4d90d4fb6856a7c96bf172f8a1e2c1e96ed85"), looks := true }, kinds := [], alts := [], laidByText := true, laidKinds := [.data, .pinned], laidTests := true, laidLooks := .later }
def WatchActsCardSaid : Prop := Claim7.holds Tryd.pinned (.plain (OpenSpec.ofChange watchActsSpec)) watchActsCard

/-- THE TIED CARD OF 'orchardlaw08.PathChecks'. -/
def pathChecksCard : Claim7 := { stood := { row := pathChecksRow, standIns := [], harness := (true, "4c287f8f8db899229829d2a762f4d90d4fb6856a7c96bf172f8a1e2c1e96ed85"), looks := true }, kinds := [], alts := [], laidByText := true, laidKinds := [.data, .data, .data, .data, .pinned], laidTests := true, laidLooks := .later }
def PathChecksCardSaid : Prop := Claim7.holds Tryd.pinned (.plain (OpenSpec.ofChange pathChecksSpec)) pathChecksCard

/-- THE TIED CARD OF 'orchardlaw08.PathParts'. -/
def pathPartsCard : Claim7 := { stood := { row := pathPartsRow, standIns := [], harness := (true, "4c287f8f8db899229829d2a762f4d90d4fb6856a7c96bf172f8a1e2c1e96ed85"), looks := true }, kinds := [], alts := [], laidByText := true, laidKinds := [.data, .data, .data, .data, .pinned], laidTests := true, laidLooks := .later }
def PathPartsCardSaid : Prop := Claim7.holds Tryd.pinned (.plain (OpenSpec.ofChange pathPartsSpec)) pathPartsCard

/-- THE TIED CARD OF 'orchardlaw08.PathUps'. -/
def pathUpsCard : Claim7 := { stood := { row := pathUpsRow, standIns := [], harness := (true, "4c287f8f8db899229829d2a762f4d90d4fb6856a7c96bf172f8a1e2c1e96ed85"), looks := true }, kinds := [], alts := [], laidByText := true, laidKinds := [.data, .data, .data, .data, .pinned], laidTests := true, laidLooks := .later }
def PathUpsCardSaid : Prop := Claim7.holds Tryd.pinned (.plain (OpenSpec.ofChange pathUpsSpec)) pathUpsCard

/-- THE TIED CARD OF 'orchardlaw08.PathJoins'. -/
def pathJoinsCard : Claim7 := { stood := { row := pathJoinsRow, standIns := [], harness := (true, "4c287f8f8db899229829d2a762f4d90d4fb6856a7c96bf172f8a1e2c1e96ed85"), looks := true }, kinds := [], alts := [], laidByText := true, laidKinds := [.data, .data, .data, .data, .pinned], laidTests := true, laidLooks := .later }
def PathJoinsCardSaid : Prop := Claim7.holds Tryd.pinned (.plain (OpenSpec.ofChange pathJoinsSpec)) pathJoinsCard

/-- THE TIED CARD OF 'orchardlaw08.PathSerials'. -/
def pathSerialsCard : Claim7 := { stood := { row := pathSerialsRow, standIns := [], harness := (true, "4c287f8f8db899229829d2a762f4d90d4fb6856a7c96bf172f8a1e2c1e96ed85"), looks := true }, kinds := [], alts := [], laidByText := true, laidKinds := [.data, .data, .data, .sentinel, .sentinel], laidTests := true, laidLooks := .later }
def PathSerialsCardSaid : Prop := Claim7.holds Tryd.pinned (.plain (OpenSpec.ofChange pathSerialsSpec)) pathSerialsCard

/-- THE TIED CARD OF 'orchardlaw09.TreeQuotas'. -/
def treeQuotasCard : Claim7 := { stood := { row := treeQuotasRow, standIns := [], harness := (true, "4c287f8f8db899229829d2a762f4d90d4fb6856a7c96bf172f8a1e2c1e96ed85"), looks := true }, kinds := [], alts := [], laidByText := true, laidKinds := [.data, .data, .data, .data, .pinned], laidTests := true, laidLooks := .later }
def TreeQuotasCardSaid : Prop := Claim7.holds Tryd.pinned (.plain (OpenSpec.ofChange treeQuotasSpec)) treeQuotasCard

/-- THE TIED CARD OF 'orchardlaw11.WatchReads'. -/
def watchReadsCard : Claim7 := { stood := { row := watchReadsRow, standIns := [], harness := (true, "4c287f8f8db899229829d2a762f4d90d4fb6856a7c96bf172f8a1e2c1e96ed85"), looks := true }, kinds := [], alts := [], laidByText := true, laidKinds := [.data, .pinned], laidTests := true, laidLooks := .later }
def WatchReadsCardSaid : Prop := Claim7.holds Tryd.pinned (.plain (OpenSpec.ofChange watchReadsSpec)) watchReadsCard

/-- THE TIED CARD OF 'orchardlaw09.TreeSerials'. -/
def treeSerialsCard : Claim7 := { stood := { row := treeSerialsRow, standIns := [], harness := (true, "4c287f8f8db899229829d2a762f4d90d4fb6856a7c96bf172f8a1e2c1e96ed85"), looks := true }, kinds := [], alts := [], laidByText := true, laidKinds := [.data, .data, .data, .data, .pinned], laidTests := true, laidLooks := .later }
def TreeSerialsCardSaid : Prop := Claim7.holds Tryd.pinned (.plain (OpenSpec.ofChange treeSerialsSpec)) treeSerialsCard

/-- THE TIED CARD OF 'orchardlaw09.TreeVersions'. -/
def treeVersionsCard : Claim7 := { stood := { row := treeVersionsRow, standIns := [], harness := (true, "4c287f8f8db899229829d2a762f4d90d4fb6856a7c96bf172f8a1e2c1e96ed85"), looks := true }, kinds := [], alts := [], laidByText := true, laidKinds := [.data, .data, .data, .data, .pinned], laidTests := true, laidLooks := .later }
def TreeVersionsCardSaid : Prop := Claim7.holds Tryd.pinned (.plain (OpenSpec.ofChange treeVersionsSpec)) treeVersionsCard

/-- THE TIED CARD OF 'orchardlaw09.TreeBelows'. -/
def treeBelowsCard : Claim7 := { stood := { row := treeBelowsRow, standIns := [], harness := (true, "4c287f8f8db899229829d2a762f4d90d4fb6856a7c96bf172f8a1e2c1e96ed85"), looks := true }, kinds := [], alts := [], laidByText := true, laidKinds := [.data, .data, .data, .data, .pinned], laidTests := true, laidLooks := .later }
def TreeBelowsCardSaid : Prop := Claim7.holds Tryd.pinned (.plain (OpenSpec.ofChange treeBelowsSpec)) treeBelowsCard

/-- THE TIED CARD OF 'orchardlaw09.TreeOwners'. -/
def treeOwnersCard : Claim7 := { stood := { row := treeOwnersRow, standIns := [], harness := (true, "4c287f8f8db899229829d2a762f4d90d4fb6856a7c96bf172f8a1e2c1e96ed85"), looks := true }, kinds := [], alts := [], laidByText := true, laidKinds := [.data, .data, .data, .data, .pinned], laidTests := true, laidLooks := .later }
def TreeOwnersCardSaid : Prop := Claim7.holds Tryd.pinned (.plain (OpenSpec.ofChange treeOwnersSpec)) treeOwnersCard

/-- THE TIED CARD OF 'orchardlaw09.TreeReads'. -/
def treeReadsCard : Claim7 := { stood := { row := treeReadsRow, standIns := [], harness := (true, "4c287f8f8db899229829d2a762f4d90d4fb6856a7c96bf172f8a1e2c1e96ed85"), looks := true }, kinds := [], alts := [], laidByText := true, laidKinds := [.data, .data, .data, .data, .pinned], laidTests := true, laidLooks := .later }
def TreeReadsCardSaid : Prop := Claim7.holds Tryd.pinned (.plain (OpenSpec.ofChange treeReadsSpec)) treeReadsCard

/-- THE TIED CARD OF 'orchardlaw12.OpBytes'. -/
def opBytesCard : Claim7 := { stood := { row := opBytesRow, standIns := [], harness := (true, "4c287f8f8db899229829d2a762f4d90d4fb6856a7c96bf172f8a1e2c1e96ed85"), looks := true }, kinds := [], alts := [], laidByText := true, laidKinds := [.data, .pinned], laidTests := true, laidLooks := .later }
def OpBytesCardSaid : Prop := Claim7.holds Tryd.pinned (.plain (OpenSpec.ofChange opBytesSpec)) opBytesCard

/-- THE TIED CARD OF 'orchardlaw12.OpMade'. -/
def opMadeCard : Claim7 := { stood := { row := opMadeRow, standIns := [], harness := (true, "4c287f8f8db899229829d2a762f4d90d4fb6856a7c96bf172f8a1e2c1e96ed85"), looks := true }, kinds := [], alts := [], laidByText := true, laidKinds := [.data, .pinned], laidTests := true, laidLooks := .later }
def OpMadeCardSaid : Prop := Claim7.holds Tryd.pinned (.plain (OpenSpec.ofChange opMadeSpec)) opMadeCard

/-- THE SECOND FORM's CARD OF 'orchardlaw08.PathOrders'. -/
def pathOrdersUptoCard : Claim7 := { stood := { row := pathOrdersUptoRow, standIns := [], harness := (true, "4c287f8f8db899229829d2a762f4d90d4fb6856a7c96bf172f8a1e2c1e96ed85"), looks := true }, kinds := [], alts := [], laidByText := true, laidKinds := [.data, .data, .data], laidTests := true, laidLooks := .later }
def PathOrdersUptoCardSaid : Prop := Claim7.holds Tryd.pinned (.plain (OpenSpec.upto pathOrdersSpec)) pathOrdersUptoCard

/-- THE SECOND FORM's CARD OF 'orchardlaw11.WatchApart'. -/
def watchApartUptoCard : Claim7 := { stood := { row := watchApartUptoRow, standIns := [], harness := (true, "4c287f8f8db899229829d2a762f4d90d4fb6856a7c96bf172f8a1e2c1e96ed85"), looks := true }, kinds := [], alts := [], laidByText := true, laidKinds := [.data, .pinned], laidTests := true, laidLooks := .later }
def WatchApartUptoCardSaid : Prop := Claim7.holds Tryd.pinned (.plain (OpenSpec.upto watchApartSpec)) watchApartUptoCard

/-- THE SECOND FORM's CARD OF 'orchardlaw11.WatchNumbers'. -/
def watchNumbersUptoCard : Claim7 := { stood := { row := watchNumbersUptoRow, standIns := [], harness := (true, "4c287f8f8db899229829d2a762f4d90d4fb6856a7c96bf172f8a1e2c1e96ed85"), looks := true }, kinds := [], alts := [], laidByText := true, laidKinds := [.data, .pinned], laidTests := true, laidLooks := .later }
def WatchNumbersUptoCardSaid : Prop := Claim7.holds Tryd.pinned (.plain (OpenSpec.upto watchNumbersSpec)) watchNumbersUptoCard

/-- THE SECOND FORM's CARD OF 'orchardlaw11.WatchOnce'. -/
def watchOnceUptoCard : Claim7 := { stood := { row := watchOnceUptoRow, standIns := [], harness := (true, "4c287f8f8db899229829d2a762f4d90d4fb6856a7c96bf172f8a1e2c1e96ed85"), looks := true }, kinds := [], alts := [], laidByText := true, laidKinds := [.data, .pinned], laidTests := true, laidLooks := .later }
def WatchOnceUptoCardSaid : Prop := Claim7.holds Tryd.pinned (.plain (OpenSpec.upto watchOnceSpec)) watchOnceUptoCard

/-- THE SECOND FORM's CARD OF 'orchardlaw11.WatchMany'. -/
def watchManyUptoCard : Claim7 := { stood := { row := watchManyUptoRow, standIns := [], harness := (true, "4c287f8f8db899229829d2a762f4d90d4fb6856a7c96bf172f8a1e2c1e96ed85"), looks := true }, kinds := [], alts := [], laidByText := true, laidKinds := [.data, .pinned], laidTests := true, laidLooks := .later }
def WatchManyUptoCardSaid : Prop := Claim7.holds Tryd.pinned (.plain (OpenSpec.upto watchManySpec)) watchManyUptoCard

/-- THE SECOND FORM's CARD OF 'orchardlaw11.WatchActs'. -/
def watchActsUptoCard : Claim7 := { stood := { row := watchActsUptoRow, standIns := [], harness := (true, "4c287f8f8db899229829d2a762f4d90d4fb6856a7c96bf172f8a1e2c1e96ed85"), looks := true }, kinds := [], alts := [], laidByText := true, laidKinds := [.data, .pinned], laidTests := true, laidLooks := .later }
def WatchActsUptoCardSaid : Prop := Claim7.holds Tryd.pinned (.plain (OpenSpec.upto watchActsSpec)) watchActsUptoCard

/-- THE SECOND FORM's CARD OF 'orchardlaw08.PathChecks'. -/
def pathChecksUptoCard : Claim7 := { stood := { row := pathChecksUptoRow, standIns := [], harness := (true, "4c287f8f8db899229829d2a762f4d90d4fb6856a7c96bf172f8a1e2c1e96ed85"), looks := true }, kinds := [], alts := [], laidByText := true, laidKinds := [.data, .data, .data, .data, .pinned], laidTests := true, laidLooks := .later }
def PathChecksUptoCardSaid : Prop := Claim7.holds Tryd.pinned (.plain (OpenSpec.upto pathChecksSpec)) pathChecksUptoCard

/-- THE SECOND FORM's CARD OF 'orchardlaw08.PathParts'. -/
def pathPartsUptoCard : Claim7 := { stood := { row := pathPartsUptoRow, standIns := [], harness := (true, "4c287f8f8db899229829d2a762f4d90d4fb6856a7c96bf172f8a1e2c1e96ed85"), looks := true }, kinds := [], alts := [], laidByText := true, laidKinds := [.data, .data, .data, .data, .pinned], laidTests := true, laidLooks := .later }
def PathPartsUptoCardSaid : Prop := Claim7.holds Tryd.pinned (.plain (OpenSpec.upto pathPartsSpec)) pathPartsUptoCard

/-- THE SECOND FORM's CARD OF 'orchardlaw08.PathUps'. -/
def pathUpsUptoCard : Claim7 := { stood := { row := pathUpsUptoRow, standIns := [], harness := (true, "4c287f8f8db899229829d2a762f4d90d4fb6856a7c96bf172f8a1e2c1e96ed85"), looks := true }, kinds := [], alts := [], laidByText := true, laidKinds := [.data, .data, .data, .data, .pinned], laidTests := true, laidLooks := .later }
def PathUpsUptoCardSaid : Prop := Claim7.holds Tryd.pinned (.plain (OpenSpec.upto pathUpsSpec)) pathUpsUptoCard

/-- THE SECOND FORM's CARD OF 'orchardlaw08.PathJoins'. -/
def pathJoinsUptoCard : Claim7 := { stood := { row := pathJoinsUptoRow, standIns := [], harness := (true, "4c287f8f8db899229829d2a762f4d90d4fb6856a7c96bf172f8a1e2c1e96ed85"), looks := true }, kinds := [], alts := [], laidByText := true, laidKinds := [.data, .data, .data, .data, .pinned], laidTests := true, laidLooks := .later }
def PathJoinsUptoCardSaid : Prop := Claim7.holds Tryd.pinned (.plain (OpenSpec.upto pathJoinsSpec)) pathJoinsUptoCard

/-- THE SECOND FORM's CARD OF 'orchardlaw08.PathSerials'. -/
def pathSerialsUptoCard : Claim7 := { stood := { row := pathSerialsUptoRow, standIns := [], harness := (true, "4c287f8f8db899229829d2a762f4d90d4fb6856a7c96bf172f8a1e2c1e96ed85"), looks := true }, kinds := [], alts := [], laidByText := true, laidKinds := [.data, .data, .data, .sentinel, .sentinel], laidTests := true, laidLooks := .later }
def PathSerialsUptoCardSaid : Prop := Claim7.holds Tryd.pinned (.plain (OpenSpec.upto pathSerialsSpec)) pathSerialsUptoCard

/-- THE SECOND FORM's CARD OF 'orchardlaw09.TreeQuotas'. -/
def treeQuotasUptoCard : Claim7 := { stood := { row := treeQuotasUptoRow, standIns := [], harness := (true, "4c287f8f8db899229829d2a762f4d90d4fb6856a7c96bf172f8a1e2c1e96ed85"), looks := true }, kinds := [], alts := [], laidByText := true, laidKinds := [.data, .data, .data, .data, .pinned], laidTests := true, laidLooks := .later }
def TreeQuotasUptoCardSaid : Prop := Claim7.holds Tryd.pinned (.plain (OpenSpec.upto treeQuotasSpec)) treeQuotasUptoCard

/-- THE SECOND FORM's CARD OF 'orchardlaw11.WatchReads'. -/
def watchReadsUptoCard : Claim7 := { stood := { row := watchReadsUptoRow, standIns := [], harness := (true, "4c287f8f8db899229829d2a762f4d90d4fb6856a7c96bf172f8a1e2c1e96ed85"), looks := true }, kinds := [], alts := [], laidByText := true, laidKinds := [.data, .pinned], laidTests := true, laidLooks := .later }
def WatchReadsUptoCardSaid : Prop := Claim7.holds Tryd.pinned (.plain (OpenSpec.upto watchReadsSpec)) watchReadsUptoCard

/-- THE SECOND FORM's CARD OF 'orchardlaw09.TreeSerials'. -/
def treeSerialsUptoCard : Claim7 := { stood := { row := treeSerialsUptoRow, standIns := [], harness := (true, "4c287f8f8db899229829d2a762f4d90d4fb6856a7c96bf172f8a1e2c1e96ed85"), looks := true }, kinds := [], alts := [], laidByText := true, laidKinds := [.data, .data, .data, .data, .pinned], laidTests := true, laidLooks := .later }
def TreeSerialsUptoCardSaid : Prop := Claim7.holds Tryd.pinned (.plain (OpenSpec.upto treeSerialsSpec)) treeSerialsUptoCard

/-- THE SECOND FORM's CARD OF 'orchardlaw09.TreeVersions'. -/
def treeVersionsUptoCard : Claim7 := { stood := { row := treeVersionsUptoRow, standIns := [], harness := (true, "4c287f8f8db899229829d2a762f4d90d4fb6856a7c96bf172f8a1e2c1e96ed85"), looks := true }, kinds := [], alts := [], laidByText := true, laidKinds := [.data, .data, .data, .data, .pinned], laidTests := true, laidLooks := .later }
def TreeVersionsUptoCardSaid : Prop := Claim7.holds Tryd.pinned (.plain (OpenSpec.upto treeVersionsSpec)) treeVersionsUptoCard

/-- THE SECOND FORM's CARD OF 'orchardlaw09.TreeBelows'. -/
def treeBelowsUptoCard : Claim7 := { stood := { row := treeBelowsUptoRow, standIns := [], harness := (true, "4c287f8f8db899229829d2a762f4d90d4fb6856a7c96bf172f8a1e2c1e96ed85"), looks := true }, kinds := [], alts := [], laidByText := true, laidKinds := [.data, .data, .data, .data, .pinned], laidTests := true, laidLooks := .later }
def TreeBelowsUptoCardSaid : Prop := Claim7.holds Tryd.pinned (.plain (OpenSpec.upto treeBelowsSpec)) treeBelowsUptoCard

/-- THE SECOND FORM's CARD OF 'orchardlaw09.TreeOwners'. -/
def treeOwnersUptoCard : Claim7 := { stood := { row := treeOwnersUptoRow, standIns := [], harness := (true, "4c287f8f8db899229829d2a762f4d90d4fb6856a7c96bf172f8a1e2c1e96ed85"), looks := true }, kinds := [], alts := [], laidByText := true, laidKinds := [.data, .data, .data, .data, .pinned], laidTests := true, laidLooks := .later }
def TreeOwnersUptoCardSaid : Prop := Claim7.holds Tryd.pinned (.plain (OpenSpec.upto treeOwnersSpec)) treeOwnersUptoCard

/-- THE SECOND FORM's CARD OF 'orchardlaw09.TreeReads'. -/
def treeReadsUptoCard : Claim7 := { stood := { row := treeReadsUptoRow, standIns := [], harness := (true, "4c287f8f8db899229829d2a762f4d90d4fb6856a7c96bf172f8a1e2c1e96ed85"), looks := true }, kinds := [], alts := [], laidByText := true, laidKinds := [.data, .data, .data, .data, .pinned], laidTests := true, laidLooks := .later }
def TreeReadsUptoCardSaid : Prop := Claim7.holds Tryd.pinned (.plain (OpenSpec.upto treeReadsSpec)) treeReadsUptoCard

/-- THE SECOND FORM's CARD OF 'orchardlaw12.OpBytes'. -/
def opBytesUptoCard : Claim7 := { stood := { row := opBytesUptoRow, standIns := [], harness := (true, "4c287f8f8db899229829d2a762f4d90d4fb6856a7c96bf172f8a1e2c1e96ed85"), looks := true }, kinds := [], alts := [], laidByText := true, laidKinds := [.data, .pinned], laidTests := true, laidLooks := .later }
def OpBytesUptoCardSaid : Prop := Claim7.holds Tryd.pinned (.plain (OpenSpec.upto opBytesSpec)) opBytesUptoCard

/-- THE SECOND FORM's CARD OF 'orchardlaw12.OpMade'. -/
def opMadeUptoCard : Claim7 := { stood := { row := opMadeUptoRow, standIns := [], harness := (true, "4c287f8f8db899229829d2a762f4d90d4fb6856a7c96bf172f8a1e2c1e96ed85"), looks := true }, kinds := [], alts := [], laidByText := true, laidKinds := [.data, .pinned], laidTests := true, laidLooks := .later }
def OpMadeUptoCardSaid : Prop := Claim7.holds Tryd.pinned (.plain (OpenSpec.upto opMadeSpec)) opMadeUptoCard
end Rows
end Go.Proofs.YtneinncikmdgmaaDoor
