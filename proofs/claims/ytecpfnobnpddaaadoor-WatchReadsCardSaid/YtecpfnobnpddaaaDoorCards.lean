/-
  DERIVED. GIVEN WITH THE SEED: THE CARDS: each row of YtecpfnobnpddaaaDoorRows.lean that lists a variable, with what it lists TIED to the program's text (the seventh form; the later family's looks); each row that meets fmt, with fmt's text TOLD by the authors' own Lean function (tested against real Go, not proved from fmt's source: count such statements apart). THE CARD IS WHAT COUNTS. Prove the row's statement (the work); the ties are given (YtecpfnobnpddaaaDoorTie.lean); close each card by the builder's one call (the guide's Derived/Test/ToyasCard.lean, 'card_holds'). Laid BY PROGRAM, IN A SANDBOX (cutbox-door.mjs). By AI agents, Wed Nov 11 2026. No macro, syntax, notation, axiom, sorry.
-/
import Derived.Test.YtecpfnobnpddaaaDoorRows
import GoSem.ClaimSeven
namespace Go.Proofs.YtecpfnobnpddaaaDoor
namespace Rows

/-- THE TIED CARD OF 'orchardlaw09.TreeQuotas'. -/
def treeQuotasCard : Claim7 := { stood := { row := treeQuotasRow, standIns := [], harness := (true, "70bbcbe8ecc8153f8cdad52bcccfca15d647bfcd7f228a7a059a278daa54a011"), looks := false }, kinds := [], alts := [], laidByText := true, laidKinds := [.data, .data, .data, .data, .pinned], laidTests := true, laidLooks := .later }
def TreeQuotasCardSaid : Prop := Claim7.holds Tryd.pinned (.plain (OpenSpec.ofChange treeQuotasSpec)) treeQuotasCard

/-- THE TIED CARD OF 'orchardlaw11.WatchReads'. -/
def watchReadsCard : Claim7 := { stood := { row := watchReadsRow, standIns := [], harness := (true, "70bbcbe8ecc8153f8cdad52bcccfca15d647bfcd7f228a7a059a278daa54a011"), looks := false }, kinds := [], alts := [], laidByText := true, laidKinds := [.data, .pinned], laidTests := true, laidLooks := .later }
def WatchReadsCardSaid : Prop := Claim7.holds Tryd.pinned (.plain (OpenSpec.ofChange watchReadsSpec)) watchReadsCard

/-- THE TIED CARD OF 'orchardlaw09.TreeSerials'. -/
def treeSerialsCard : Claim7 := { stood := { row := treeSerialsRow, standIns := [], harness := (true, "70bbcbe8ecc8153f8cdad52bcccfca15d647bfcd7f228a7a059a278daa54a011"), looks := false }, kinds := [], alts := [], laidByText := true, laidKinds := [.data, .data, .data, .data, .pinned], laidTests := true, laidLooks := .later }
def TreeSerialsCardSaid : Prop := Claim7.holds Tryd.pinned (.plain (OpenSpec.ofChange treeSerialsSpec)) treeSerialsCard

/-- THE TIED CARD OF 'orchardlaw09.TreeVersions'. -/
def treeVersionsCard : Claim7 := { stood := { row := treeVersionsRow, standIns := [], harness := (true, "70bbcbe8ecc8153f8cdad52bcccfca15d647bfcd7f228a7a059a278daa54a011"), looks := false }, kinds := [], alts := [], laidByText := true, laidKinds := [.data, .data, .data, .data, .pinned], laidTests := true, laidLooks := .later }
def TreeVersionsCardSaid : Prop := Claim7.holds Tryd.pinned (.plain (OpenSpec.ofChange treeVersionsSpec)) treeVersionsCard

/-- THE TIED CARD OF 'orchardlaw09.TreeBelows'. -/
def treeBelowsCard : Claim7 := { stood := { row := treeBelowsRow, standIns := [], harness := (true, "70bbcbe8ecc8153f8cdad52bcccfca15d647bfcd7f228a7a059a278daa54a011"), looks := false }, kinds := [], alts := [], laidByText := true, laidKinds := [.data, .data, .data, .data, .pinned], laidTests := true, laidLooks := .later }
def TreeBelowsCardSaid : Prop := Claim7.holds Tryd.pinned (.plain (OpenSpec.ofChange treeBelowsSpec)) treeBelowsCard

/-- THE TIED CARD OF 'orchardlaw09.TreeOwners'. -/
def treeOwnersCard : Claim7 := { stood := { row := treeOwnersRow, standIns := [], harness := (true, "70bbcbe8ecc8153f8cdad52bcccfca15d647bfcd7f228a7a059a278daa54a011"), looks := false }, kinds := [], alts := [], laidByText := true, laidKinds := [.data, .data, .data, .data, .pinned], laidTests := true, laidLooks := .later }
def TreeOwnersCardSaid : Prop := Claim7.holds Tryd.pinned (.plain (OpenSpec.ofChange treeOwnersSpec)) treeOwnersCard

/-- THE TIED CARD OF 'orchardlaw09.TreeReads'. -/
def treeReadsCard : Claim7 := { stood := { row := treeReadsRow, standIns := [], harness := (true, "70bbcbe8ecc8153f8cdad52bcccfca15d647bfcd7f228a7a059a278daa54a011"), looks := false }, kinds := [], alts := [], laidByText := true, laidKinds := [.data, .data, .data, .data, .pinned], laidTests := true, laidLooks := .later }
def TreeReadsCardSaid : Prop := Claim7.holds Tryd.pinned (.plain (OpenSpec.ofChange treeReadsSpec)) treeReadsCard

/-- THE SECOND FORM's CARD OF 'orchardlaw09.TreeQuotas'. -/
def treeQuotasUptoCard : Claim7 := { stood := { row := treeQuotasUptoRow, standIns := [], harness := (true, "70bbcbe8ecc8153f8cdad52bcccfca15d647bfcd7f228a7a059a278daa54a011"), looks := false }, kinds := [], alts := [], laidByText := true, laidKinds := [.data, .data, .data, .data, .pinned], laidTests := true, laidLooks := .later }
def TreeQuotasUptoCardSaid : Prop := Claim7.holds Tryd.pinned (.plain (OpenSpec.upto treeQuotasSpec)) treeQuotasUptoCard

/-- THE SECOND FORM's CARD OF 'orchardlaw11.WatchReads'. -/
def watchReadsUptoCard : Claim7 := { stood := { row := watchReadsUptoRow, standIns := [], harness := (true, "70bbcbe8ecc8153f8cdad52bcccfca15d647bfcd7f228a7a059a278daa54a011"), looks := false }, kinds := [], alts := [], laidByText := true, laidKinds := [.data, .pinned], laidTests := true, laidLooks := .later }
def WatchReadsUptoCardSaid : Prop := Claim7.holds Tryd.pinned (.plain (OpenSpec.upto watchReadsSpec)) watchReadsUptoCard

/-- THE SECOND FORM's CARD OF 'orchardlaw09.TreeSerials'. -/
def treeSerialsUptoCard : Claim7 := { stood := { row := treeSerialsUptoRow, standIns := [], harness := (true, "70bbcbe8ecc8153f8cdad52bcccfca15d647bfcd7f228a7a059a278daa54a011"), looks := false }, kinds := [], alts := [], laidByText := true, laidKinds := [.data, .data, .data, .data, .pinned], laidTests := true, laidLooks := .later }
def TreeSerialsUptoCardSaid : Prop := Claim7.holds Tryd.pinned (.plain (OpenSpec.upto treeSerialsSpec)) treeSerialsUptoCard

/-- THE SECOND FORM's CARD OF 'orchardlaw09.TreeVersions'. -/
def treeVersionsUptoCard : Claim7 := { stood := { row := treeVersionsUptoRow, standIns := [], harness := (true, "70bbcbe8ecc8153f8cdad52bcccfca15d647bfcd7f228a7a059a278daa54a011"), looks := false }, kinds := [], alts := [], laidByText := true, laidKinds := [.data, .data, .data, .data, .pinned], laidTests := true, laidLooks := .later }
def TreeVersionsUptoCardSaid : Prop := Claim7.holds Tryd.pinned (.plain (OpenSpec.upto treeVersionsSpec)) treeVersionsUptoCard

/-- THE SECOND FORM's CARD OF 'orchardlaw09.TreeBelows'. -/
def treeBelowsUptoCard : Claim7 := { stood := { row := treeBelowsUptoRow, standIns := [], harness := (true, "70bbcbe8ecc8153f8cdad52bcccfca15d647bfcd7f228a7a059a278daa54a011"), looks := false }, kinds := [], alts := [], laidByText := true, laidKinds := [.data, .data, .data, .data, .pinned], laidTests := true, laidLooks := .later }
def TreeBelowsUptoCardSaid : Prop := Claim7.holds Tryd.pinned (.plain (OpenSpec.upto treeBelowsSpec)) treeBelowsUptoCard

/-- THE SECOND FORM's CARD OF 'orchardlaw09.TreeOwners'. -/
def treeOwnersUptoCard : Claim7 := { stood := { row := treeOwnersUptoRow, standIns := [], harness := (true, "70bbcbe8ecc8153f8cdad52bcccfca15d647bfcd7f228a7a059a278daa54a011"), looks := false }, kinds := [], alts := [], laidByText := true, laidKinds := [.data, .data, .data, .data, .pinned], laidTests := true, laidLooks := .later }
def TreeOwnersUptoCardSaid : Prop := Claim7.holds Tryd.pinned (.plain (OpenSpec.upto treeOwnersSpec)) treeOwnersUptoCard

/-- THE SECOND FORM's CARD OF 'orchardlaw09.TreeReads'. -/
def treeReadsUptoCard : Claim7 := { stood := { row := treeReadsUptoRow, standIns := [], harness := (true, "70bbcbe8ecc8153f8cdad52bcccfca15d647bfcd7f228a7a059a278daa54a011"), looks := false }, kinds := [], alts := [], laidByText := true, laidKinds := [.data, .data, .data, .data, .pinned], laidTests := true, laidLooks := .later }
def TreeReadsUptoCardSaid : Prop := Claim7.holds Tryd.pinned (.plain (OpenSpec.upto treeReadsSpec)) treeReadsUptoCard
end Rows
end Go.Proofs.YtecpfnobnpddaaaDoor
