/-
  DERIVED. GIVEN WITH THE SEED: THE CARDS: each row of YthgiamofndhehaaGreatDoorRows.lean that lists a variable, with what it lists TIED to the program's text (the seventh form; the later family's looks); each row that meets fmt, with fmt's text TOLD by the authors' own Lean function (tested against real Go, not proved from fmt's source: count such statements apart). THE CARD IS WHAT COUNTS. Prove the row's statement (the work); the ties are given (YthgiamofndhehaaGreatDoorTie.lean); close each card by the builder's one call (the guide's Derived/Test/ToyasCard.lean, 'card_holds'). Laid BY PROGRAM, IN A SANDBOX (cutbox-door.mjs). By AI agents, Wed Nov 11 2026. No macro, syntax, notation, axiom, sorry.
-/
import Derived.Test.YthgiamofndhehaaGreatDoorRows
import GoSem.ClaimSeven
namespace Go.Proofs.YthgiamofndhehaaGreatDoor
namespace Rows

/-- THE TIED CARD OF 'orchardlaw20.JudgeCommits'. -/
def judgeCommitsCard : Claim7 := { stood := { row := judgeCommitsRow, standIns := [], harness := (true, "0fd6b0f72a3c837b02e5e886e219d41ac2d6f50978a7bb2f8a4a2cd493b1afd2"), looks := true }, kinds := [], alts := [], laidByText := true, laidKinds := [.data, .data, .data, .data, .pinned], laidTests := true, laidLooks := .later }
def JudgeCommitsCardSaid : Prop := Claim7.holds Tryz.pinned (.plain (OpenSpec.ofChange judgeCommitsSpec)) judgeCommitsCard

/-- THE TIED CARD OF 'orchardlaw20.JudgeReads'. -/
def judgeReadsCard : Claim7 := { stood := { row := judgeReadsRow, standIns := [], harness := (true, "0fd6b0f72a3c837b02e5e886e219d41ac2d6f50978a7bb2f8a4a2cd493b1afd2"), looks := true }, kinds := [], alts := [], laidByText := true, laidKinds := [.data, .data, .data, .data, .pinned], laidTests := true, laidLooks := .later }
def JudgeReadsCardSaid : Prop := Claim7.holds Tryz.pinned (.plain (OpenSpec.ofChange judgeReadsSpec)) judgeReadsCard

/-- THE TIED CARD OF 'orchardlaw20.JudgeOthers'. -/
def judgeOthersCard : Claim7 := { stood := { row := judgeOthersRow, standIns := [], harness := (true, "0fd6b0f72a3c837b02e5e886e219d41ac2d6f50978a7bb2f8a4a2cd493b1afd2"), looks := true }, kinds := [], alts := [], laidByText := true, laidKinds := [.data, .data, .data, .data, .pinned], laidTests := true, laidLooks := .later }
def JudgeOthersCardSaid : Prop := Claim7.holds Tryz.pinned (.plain (OpenSpec.ofChange judgeOthersSpec)) judgeOthersCard

/-- THE TIED CARD OF 'orchardlaw20.JudgeAnswers'. -/
def judgeAnswersCard : Claim7 := { stood := { row := judgeAnswersRow, standIns := [], harness := (true, "0fd6b0f72a3c837b02e5e886e219d41ac2d6f50978a7bb2f8a4a2cd493b1afd2"), looks := true }, kinds := [], alts := [], laidByText := true, laidKinds := [.data, .data, .data, .data, .pinned], laidTests := true, laidLooks := .later }
def JudgeAnswersCardSaid : Prop := Claim7.holds Tryz.pinned (.plain (OpenSpec.ofChange judgeAnswersSpec)) judgeAnswersCard

/-- THE TIED CARD OF 'orchardlaw20.JudgeLate'. -/
def judgeLateCard : Claim7 := { stood := { row := judgeLateRow, standIns := [], harness := (true, "0fd6b0f72a3c837b02e5e886e219d41ac2d6f50978a7bb2f8a4a2cd493b1afd2"), looks := true }, kinds := [], alts := [], laidByText := true, laidKinds := [.data, .data, .data, .data, .pinned], laidTests := true, laidLooks := .later }
def JudgeLateCardSaid : Prop := Claim7.holds Tryz.pinned (.plain (OpenSpec.ofChange judgeLateSpec)) judgeLateCard

/-- THE TIED CARD OF 'orchardlaw13.StateBytes'. -/
def stateBytesCard : Claim7 := { stood := { row := stateBytesRow, standIns := [], harness := (true, "0fd6b0f72a3c837b02e5e886e219d41ac2d6f50978a7bb2f8a4a2cd493b1afd2"), looks := true }, kinds := [], alts := [], laidByText := true, laidKinds := [.data, .data, .data, .data, .pinned], laidTests := true, laidLooks := .later }
def StateBytesCardSaid : Prop := Claim7.holds Tryz.pinned (.plain (OpenSpec.ofChange stateBytesSpec)) stateBytesCard

/-- THE SECOND FORM's CARD OF 'orchardlaw20.JudgeCommits'. -/
def judgeCommitsUptoCard : Claim7 := { stood := { row := judgeCommitsUptoRow, standIns := [], harness := (true, "0fd6b0f72a3c837b02e5e886e219d41ac2d6f50978a7bb2f8a4a2cd493b1afd2"), looks := true }, kinds := [], alts := [], laidByText := true, laidKinds := [.data, .data, .data, .data, .pinned], laidTests := true, laidLooks := .later }
def JudgeCommitsUptoCardSaid : Prop := Claim7.holds Tryz.pinned (.plain (OpenSpec.upto judgeCommitsSpec)) judgeCommitsUptoCard

/-- THE SECOND FORM's CARD OF 'orchardlaw20.JudgeReads'. -/
def judgeReadsUptoCard : Claim7 := { stood := { row := judgeReadsUptoRow, standIns := [], harness := (true, "0fd6b0f72a3c837b02e5e886e219d41ac2d6f50978a7bb2f8a4a2cd493b1afd2"), looks := true }, kinds := [], alts := [], laidByText := true, laidKinds := [.data, .data, .data, .data, .pinned], laidTests := true, laidLooks := .later }
def JudgeReadsUptoCardSaid : Prop := Claim7.holds Tryz.pinned (.plain (OpenSpec.upto judgeReadsSpec)) judgeReadsUptoCard

/-- THE SECOND FORM's CARD OF 'orchardlaw20.JudgeOthers'. -/
def judgeOthersUptoCard : Claim7 := { stood := { row := judgeOthersUptoRow, standIns := [], harness := (true, "0fd6b0f72a3c837b02e5e886e219d41ac2d6f50978a7bb2f8a4a2cd493b1afd2"), looks := true }, kinds := [], alts := [], laidByText := true, laidKinds := [.data, .data, .data, .data, .pinned], laidTests := true, laidLooks := .later }
def JudgeOthersUptoCardSaid : Prop := Claim7.holds Tryz.pinned (.plain (OpenSpec.upto judgeOthersSpec)) judgeOthersUptoCard

/-- THE SECOND FORM's CARD OF 'orchardlaw20.JudgeAnswers'. -/
def judgeAnswersUptoCard : Claim7 := { stood := { row := judgeAnswersUptoRow, standIns := [], harness := (true, "0fd6b0f72a3c837b02e5e886e219d41ac2d6f50978a7bb2f8a4a2cd493b1afd2"), looks := true }, kinds := [], alts := [], laidByText := true, laidKinds := [.data, .data, .data, .data, .pinned], laidTests := true, laidLooks := .later }
def JudgeAnswersUptoCardSaid : Prop := Claim7.holds Tryz.pinned (.plain (OpenSpec.upto judgeAnswersSpec)) judgeAnswersUptoCard

/-- THE SECOND FORM's CARD OF 'orchardlaw20.JudgeLate'. -/
def judgeLateUptoCard : Claim7 := { stood := { row := judgeLateUptoRow, standIns := [], harness := (true, "0fd6b0f72a3c837b02e5e886e219d41ac2d6f50978a7bb2f8a4a2cd493b1afd2"), looks := true }, kinds := [], alts := [], laidByText := true, laidKinds := [.data, .data, .data, .data, .pinned], laidTests := true, laidLooks := .later }
def JudgeLateUptoCardSaid : Prop := Claim7.holds Tryz.pinned (.plain (OpenSpec.upto judgeLateSpec)) judgeLateUptoCard

/-- THE SECOND FORM's CARD OF 'orchardlaw13.StateBytes'. -/
def stateBytesUptoCard : Claim7 := { stood := { row := stateBytesUptoRow, standIns := [], harness := (true, "0fd6b0f72a3c837b02e5e886e219d41ac2d6f50978a7bb2f8a4a2cd493b1afd2"), looks := true }, kinds := [], alts := [], laidByText := true, laidKinds := [.data, .data, .data, .data, .pinned], laidTests := true, laidLooks := .later }
def StateBytesUptoCardSaid : Prop := Claim7.holds Tryz.pinned (.plain (OpenSpec.upto stateBytesSpec)) stateBytesUptoCard
end Rows
end Go.Proofs.YthgiamofndhehaaGreatDoor
