/-
  DERIVED. GIVEN WITH THE SEED: THE CARDS: each row of YtegafdkhbgojcaaGreatDoorRows.lean that lists a variable, with what it lists TIED to the program's text (the seventh form; the later family's looks); each row that meets fmt, with fmt's text TOLD by the authors' own Lean function (tested against real Go, not proved from fmt's source: count such statements apart). THE CARD IS WHAT COUNTS. Prove the row's statement (the work); the ties are given (YtegafdkhbgojcaaGreatDoorTie.lean); close each card by the builder's one call (the guide's Derived/Test/ToyasCard.lean, 'card_holds'). Laid BY PROGRAM, IN A SANDBOX (cutbox-door.mjs). By AI agents, Wed Nov 11 2026. No macro, syntax, notation, axiom, sorry.
-/
import Derived.Test.YtegafdkhbgojcaaGreatDoorRows
import GoSem.ClaimSeven
namespace Go.Proofs.YtegafdkhbgojcaaGreatDoor
namespace Rows

/-- THE TIED CARD OF 'orchardlaw21.ScriptReads'. -/
def scriptReadsCard : Claim7 := { stood := { row := scriptReadsRow, standIns := [], harness := (true, "d4c24f979b84dc44172564a1380fca0c263a18e0065f519fcbde0dc11913e6b8"), looks := true }, kinds := [], alts := [], laidByText := true, laidKinds := [.data, .data, .data, .data, .pinned], laidTests := true, laidLooks := .later }
def ScriptReadsCardSaid : Prop := Claim7.holds Tryz.pinned (.plain (OpenSpec.ofChange scriptReadsSpec)) scriptReadsCard

/-- THE TIED CARD OF 'orchardlaw21.ScriptMany'. -/
def scriptManyCard : Claim7 := { stood := { row := scriptManyRow, standIns := [], harness := (true, "d4c24f979b84dc44172564a1380fca0c263a18e0065f519fcbde0dc11913e6b8"), looks := true }, kinds := [], alts := [], laidByText := true, laidKinds := [.data, .data, .data, .data, .pinned], laidTests := true, laidLooks := .later }
def ScriptManyCardSaid : Prop := Claim7.holds Tryz.pinned (.plain (OpenSpec.ofChange scriptManySpec)) scriptManyCard

/-- THE TIED CARD OF 'orchardlaw21.ScriptApart'. -/
def scriptApartCard : Claim7 := { stood := { row := scriptApartRow, standIns := [], harness := (true, "d4c24f979b84dc44172564a1380fca0c263a18e0065f519fcbde0dc11913e6b8"), looks := true }, kinds := [], alts := [], laidByText := true, laidKinds := [.data, .data, .data, .data, .pinned], laidTests := true, laidLooks := .later }
def ScriptApartCardSaid : Prop := Claim7.holds Tryz.pinned (.plain (OpenSpec.ofChange scriptApartSpec)) scriptApartCard

/-- THE TIED CARD OF 'orchardlaw18.ClientCalls'. -/
def clientCallsCard : Claim7 := { stood := { row := clientCallsRow, standIns := [], harness := (true, "d4c24f979b84dc44172564a1380fca0c263a18e0065f519fcbde0dc11913e6b8"), looks := true }, kinds := [], alts := [], laidByText := true, laidKinds := [.data, .data, .data, .data, .pinned], laidTests := true, laidLooks := .later }
def ClientCallsCardSaid : Prop := Claim7.holds Tryz.pinned (.plain (OpenSpec.ofChange clientCallsSpec)) clientCallsCard

/-- THE TIED CARD OF 'orchardlaw18.ClientWaits'. -/
def clientWaitsCard : Claim7 := { stood := { row := clientWaitsRow, standIns := [], harness := (true, "d4c24f979b84dc44172564a1380fca0c263a18e0065f519fcbde0dc11913e6b8"), looks := true }, kinds := [], alts := [], laidByText := true, laidKinds := [.data, .data, .data, .data, .pinned], laidTests := true, laidLooks := .later }
def ClientWaitsCardSaid : Prop := Claim7.holds Tryz.pinned (.plain (OpenSpec.ofChange clientWaitsSpec)) clientWaitsCard

/-- THE TIED CARD OF 'orchardlaw19.ClusterNew'. -/
def clusterNewCard : Claim7 := { stood := { row := clusterNewRow, standIns := [], harness := (true, "d4c24f979b84dc44172564a1380fca0c263a18e0065f519fcbde0dc11913e6b8"), looks := true }, kinds := [], alts := [], laidByText := true, laidKinds := [.data, .data, .data, .data, .pinned], laidTests := true, laidLooks := .later }
def ClusterNewCardSaid : Prop := Claim7.holds Tryz.pinned (.plain (OpenSpec.ofChange clusterNewSpec)) clusterNewCard

/-- THE TIED CARD OF 'orchardlaw19.ClusterLossy'. -/
def clusterLossyCard : Claim7 := { stood := { row := clusterLossyRow, standIns := [], harness := (true, "d4c24f979b84dc44172564a1380fca0c263a18e0065f519fcbde0dc11913e6b8"), looks := true }, kinds := [], alts := [], laidByText := true, laidKinds := [.data, .data, .data, .data, .pinned], laidTests := true, laidLooks := .later }
def ClusterLossyCardSaid : Prop := Claim7.holds Tryz.pinned (.plain (OpenSpec.ofChange clusterLossySpec)) clusterLossyCard

/-- THE TIED CARD OF 'orchardlaw19.ClusterDelivers'. -/
def clusterDeliversCard : Claim7 := { stood := { row := clusterDeliversRow, standIns := [], harness := (true, "d4c24f979b84dc44172564a1380fca0c263a18e0065f519fcbde0dc11913e6b8"), looks := true }, kinds := [], alts := [], laidByText := true, laidKinds := [.data, .data, .data, .data, .pinned], laidTests := true, laidLooks := .later }
def ClusterDeliversCardSaid : Prop := Claim7.holds Tryz.pinned (.plain (OpenSpec.ofChange clusterDeliversSpec)) clusterDeliversCard

/-- THE SECOND FORM's CARD OF 'orchardlaw21.ScriptReads'. -/
def scriptReadsUptoCard : Claim7 := { stood := { row := scriptReadsUptoRow, standIns := [], harness := (true, "d4c24f979b84dc44172564a1380fca0c263a18e0065f519fcbde0dc11913e6b8"), looks := true }, kinds := [], alts := [], laidByText := true, laidKinds := [.data, .data, .data, .data, .pinned], laidTests := true, laidLooks := .later }
def ScriptReadsUptoCardSaid : Prop := Claim7.holds Tryz.pinned (.plain (OpenSpec.upto scriptReadsSpec)) scriptReadsUptoCard

/-- THE SECOND FORM's CARD OF 'orchardlaw21.ScriptMany'. -/
def scriptManyUptoCard : Claim7 := { stood := { row := scriptManyUptoRow, standIns := [], harness := (true, "d4c24f979b84dc44172564a1380fca0c263a18e0065f519fcbde0dc11913e6b8"), looks := true }, kinds := [], alts := [], laidByText := true, laidKinds := [.data, .data, .data, .data, .pinned], laidTests := true, laidLooks := .later }
def ScriptManyUptoCardSaid : Prop := Claim7.holds Tryz.pinned (.plain (OpenSpec.upto scriptManySpec)) scriptManyUptoCard

/-- THE SECOND FORM's CARD OF 'orchardlaw21.ScriptApart'. -/
def scriptApartUptoCard : Claim7 := { stood := { row := scriptApartUptoRow, standIns := [], harness := (true, "d4c24f979b84dc44172564a1380fca0c263a18e0065f519fcbde0dc11913e6b8"), looks := true }, kinds := [], alts := [], laidByText := true, laidKinds := [.data, .data, .data, .data, .pinned], laidTests := true, laidLooks := .later }
def ScriptApartUptoCardSaid : Prop := Claim7.holds Tryz.pinned (.plain (OpenSpec.upto scriptApartSpec)) scriptApartUptoCard

/-- THE SECOND FORM's CARD OF 'orchardlaw18.ClientCalls'. -/
def clientCallsUptoCard : Claim7 := { stood := { row := clientCallsUptoRow, standIns := [], harness := (true, "d4c24f979b84dc44172564a1380fca0c263a18e0065f519fcbde0dc11913e6b8"), looks := true }, kinds := [], alts := [], laidByText := true, laidKinds := [.data, .data, .data, .data, .pinned], laidTests := true, laidLooks := .later }
def ClientCallsUptoCardSaid : Prop := Claim7.holds Tryz.pinned (.plain (OpenSpec.upto clientCallsSpec)) clientCallsUptoCard

/-- THE SECOND FORM's CARD OF 'orchardlaw18.ClientWaits'. -/
def clientWaitsUptoCard : Claim7 := { stood := { row := clientWaitsUptoRow, standIns := [], harness := (true, "d4c24f979b84dc44172564a1380fca0c263a18e0065f519fcbde0dc11913e6b8"), looks := true }, kinds := [], alts := [], laidByText := true, laidKinds := [.data, .data, .data, .data, .pinned], laidTests := true, laidLooks := .later }
def ClientWaitsUptoCardSaid : Prop := Claim7.holds Tryz.pinned (.plain (OpenSpec.upto clientWaitsSpec)) clientWaitsUptoCard

/-- THE SECOND FORM's CARD OF 'orchardlaw19.ClusterNew'. -/
def clusterNewUptoCard : Claim7 := { stood := { row := clusterNewUptoRow, standIns := [], harness := (true, "d4c24f979b84dc44172564a1380fca0c263a18e0065f519fcbde0dc11913e6b8"), looks := true }, kinds := [], alts := [], laidByText := true, laidKinds := [.data, .data, .data, .data, .pinned], laidTests := true, laidLooks := .later }
def ClusterNewUptoCardSaid : Prop := Claim7.holds Tryz.pinned (.plain (OpenSpec.upto clusterNewSpec)) clusterNewUptoCard

/-- THE SECOND FORM's CARD OF 'orchardlaw19.ClusterLossy'. -/
def clusterLossyUptoCard : Claim7 := { stood := { row := clusterLossyUptoRow, standIns := [], harness := (true, "d4c24f979b84dc44172564a1380fca0c263a18e0065f519fcbde0dc11913e6b8"), looks := true }, kinds := [], alts := [], laidByText := true, laidKinds := [.data, .data, .data, .data, .pinned], laidTests := true, laidLooks := .later }
def ClusterLossyUptoCardSaid : Prop := Claim7.holds Tryz.pinned (.plain (OpenSpec.upto clusterLossySpec)) clusterLossyUptoCard

/-- THE SECOND FORM's CARD OF 'orchardlaw19.ClusterDelivers'. -/
def clusterDeliversUptoCard : Claim7 := { stood := { row := clusterDeliversUptoRow, standIns := [], harness := (true, "d4c24f979b84dc44172564a1380fca0c263a18e0065f519fcbde0dc11913e6b8"), looks := true }, kinds := [], alts := [], laidByText := true, laidKinds := [.data, .data, .data, .data, .pinned], laidTests := true, laidLooks := .later }
def ClusterDeliversUptoCardSaid : Prop := Claim7.holds Tryz.pinned (.plain (OpenSpec.upto clusterDeliversSpec)) clusterDeliversUptoCard
end Rows
end Go.Proofs.YtegafdkhbgojcaaGreatDoor
