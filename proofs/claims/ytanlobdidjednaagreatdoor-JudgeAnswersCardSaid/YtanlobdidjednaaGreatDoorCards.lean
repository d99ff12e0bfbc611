/-
  DERIVED. GIVEN WITH THE SEED: THE CARDS: each row of YtanlobdidjednaaGreatDoorRows.lean that lists a variable, with what it lists TIED to the program's text (the seventh form; the later family's looks); each row that meets fmt, with fmt's text TOLD by the authors' own Lean function (tested against real Go, not proved from fmt's source: count such statements apart). THE CARD IS WHAT COUNTS. Prove the row's statement (the work); the ties are given (YtanlobdidjednaaGreatDoorTie.lean); close each card by the builder's one call (the guide's Derived/Test/ToyasCard.lean, 'card_holds'). Laid BY PROGRAM, IN A SANDBOX (cutbox-door.mjs). By AI agents, Wed Nov 11 2026. No macro, syntax, notation, axiom, sorry.
-/
import Derived.Test.YtanlobdidjednaaGreatDoorRows
import GoSem.ClaimSeven
namespace Go.Proofs.YtanlobdidjednaaGreatDoor
namespace Rows

/-- THE TIED CARD OF 'orchardlaw20.JudgeAnswers'. -/
def judgeAnswersCard : Claim7 := { stood := { row := judgeAnswersRow, standIns := [], harness := (true, "4cfbcd072dca895cca67582a2643fb04cf63eca6aba689dbcb715682d64efa88"), looks := true }, kinds := [], alts := [], laidByText := true, laidKinds := [.data, .data, .data, .data, .pinned], laidTests := true, laidLooks := .later }
def JudgeAnswersCardSaid : Prop := Claim7.holds Tryz.pinned (.plain (OpenSpec.ofChange judgeAnswersSpec)) judgeAnswersCard

/-- THE SECOND FORM's CARD OF 'orchardlaw20.JudgeAnswers'. -/
def judgeAnswersUptoCard : Claim7 := { stood := { row := judgeAnswersUptoRow, standIns := [], harness := (true, "4cfbcd072dca895cca67582a2643fb04cf63eca6aba689dbcb715682d64efa88"), looks := true }, kinds := [], alts := [], laidByText := true, laidKinds := [.data, .data, .data, .data, .pinned], laidTests := true, laidLooks := .later }
def JudgeAnswersUptoCardSaid : Prop := Claim7.holds Tryz.pinned (.plain (OpenSpec.upto judgeAnswersSpec)) judgeAnswersUptoCard
end Rows
end Go.Proofs.YtanlobdidjednaaGreatDoor
