/-
  DERIVED. GIVEN WITH THE SEED: THE CARDS: each row of YtecpfnobnpddaaaGreatDoorRows.lean that lists a variable, with what it lists TIED to the program's text (the seventh form; the later family's looks); each row that meets fmt, with fmt's text TOLD by the authors' own Lean function (tested against real Go, not proved from fmt's source: count such statements apart). THE CARD IS WHAT COUNTS. Prove the row's statement (the work); the ties are given (YtecpfnobnpddaaaGreatDoorTie.lean); close each card by the builder's one call (the guide's Derived/Test/ToyasCard.lean, 'card_holds'). Laid BY PROGRAM, IN A SANDBOX (cutbox-door.mjs). By AI agents, Wed Nov 11 2026. No macro, syntax, notation, axiom, sorry.
-/
import Derived.Test.YtecpfnobnpddaaaGreatDoorRows
import GoSem.ClaimSeven
namespace Go.Proofs.YtecpfnobnpddaaaGreatDoor
namespace Rows

/-- THE TIED CARD OF 'orchardlaw11.WatchBytes'. -/
def watchBytesCard : Claim7 := { stood := { row := watchBytesRow, standIns := [], harness := (true, "eb4e2b443d776284073ffce87f0a75c64f57f85ac0d054e6a06bda3662bd7113"), looks := true }, kinds := [], alts := [], laidByText := true, laidKinds := [.data, .pinned], laidTests := true, laidLooks := .later }
def WatchBytesCardSaid : Prop := Claim7.holds Tryz.pinned (.plain (OpenSpec.ofChange watchBytesSpec)) watchBytesCard

/-- THE TIED CARD OF 'orchardlaw09.TreeActs'. -/
def treeActsCard : Claim7 := { stood := { row := treeActsRow, standIns := [], harness := (true, "eb4e2b443d776284073ffce87f0a75c64f57f85ac0d054e6a06bda3662bd7113"), looks := true }, kinds := [], alts := [], laidByText := true, laidKinds := [.data, .data, .data, .data, .pinned], laidTests := true, laidLooks := .later }
def TreeActsCardSaid : Prop := Claim7.holds Tryz.pinned (.plain (OpenSpec.ofChange treeActsSpec)) treeActsCard

/-- THE TIED CARD OF 'orchardlaw09.TreeBytes'. -/
def treeBytesCard : Claim7 := { stood := { row := treeBytesRow, standIns := [], harness := (true, "eb4e2b443d776284073ffce87f0a75c64f57f85ac0d054e6a06bda3662bd7113"), looks := true }, kinds := [], alts := [], laidByText := true, laidKinds := [.data, .data, .data, .data, .pinned], laidTests := true, laidLooks := .later }
def TreeBytesCardSaid : Prop := Claim7.holds Tryz.pinned (.plain (OpenSpec.ofChange treeBytesSpec)) treeBytesCard

/-- THE SECOND FORM's CARD OF 'orchardlaw11.WatchBytes'. -/
def watchBytesUptoCard : Claim7 := { stood := { row := watchBytesUptoRow, standIns := [], harness := (true, "eb4e2b443d776284073ffce87f0a75c64f57f85ac0d054e6a06bda3662bd7113"), looks := true }, kinds := [], alts := [], laidByText := true, laidKinds := [.data, .pinned], laidTests := true, laidLooks := .later }
def WatchBytesUptoCardSaid : Prop := Claim7.holds Tryz.pinned (.plain (OpenSpec.upto watchBytesSpec)) watchBytesUptoCard

/-- THE SECOND FORM's CARD OF 'orchardlaw09.TreeActs'. -/
def treeActsUptoCard : Claim7 := { stood := { row := treeActsUptoRow, standIns := [], harness := (true, "eb4e2b443d776284073ffce87f0a75c64f57f85ac0d054e6a06bda3662bd7113"), looks := true }, kinds := [], alts := [], laidByText := true, laidKinds := [.data, .data, .data, .data, .pinned], laidTests := true, laidLooks := .later }
def TreeActsUptoCardSaid : Prop := Claim7.holds Tryz.pinned (.plain (OpenSpec.upto treeActsSpec)) treeActsUptoCard

/-- THE SECOND FORM's CARD OF 'orchardlaw09.TreeBytes'. -/
def treeBytesUptoCard : Claim7 := { stood := { row := treeBytesUptoRow, standIns := [], harness := (true, "eb4e2b443d776284073ffce87f0a75c64f57f85ac0d054e6a06bda3662bd7113"), looks := true }, kinds := [], alts := [], laidByText := true, laidKinds := [.data, .data, .data, .data, .pinned], laidTests := true, laidLooks := .later }
def TreeBytesUptoCardSaid : Prop := Claim7.holds Tryz.pinned (.plain (OpenSpec.upto treeBytesSpec)) treeBytesUptoCard
end Rows
end Go.Proofs.YtecpfnobnpddaaaGreatDoor
