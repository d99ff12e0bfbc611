/- Closed facts of the seat's program, one by one. No condition. -/
import Derived.Test.YtegafdkhbgojcaaGreatDoorRows
import Derived.Test.YtegafdkhbgojcaaGreatDoorCards
import Derived.Test.YtegafdkhbgojcaaGreatDoorHand
set_option linter.unusedVariables false
set_option maxRecDepth 100000
namespace Go.Proofs.YtegafdkhbgojcaaGreatDoor
theorem fact_own : ownKnob Tryz.prog.godebug = none := by kernel_rfl
theorem fact_laidOut : laidOutB Tryz.prog = true := by kernel_rfl
theorem fact_mapsRowed : mapsRowed Tryz.prog = true := by kernel_rfl
theorem fact_stops : (Tryz.prog.stops == []) = true := by kernel_rfl
theorem fact_knobs : (Tryz.prog.stopKnobs == []) = true := by kernel_rfl
theorem fact_plainKeys : (Rows.scriptReadsRow.plainKeys == Tryz.prog.plainKeys) = true := by kernel_rfl
theorem fact_heard : Tryz.prog.stopsHeard = true := by kernel_rfl
theorem fact_mayEnter : Tryz.prog.mayEnter = true := by kernel_rfl
theorem fact_lifts : (Rows.scriptReadsRow.lifted == Tryz.prog.liftsFinal) = true := by kernel_rfl
theorem fact_make : (Tryz.prog.make == some Rows.scriptReadsRow.make) = true := by kernel_rfl
theorem fact_main : Tryz.pinned.checked.prog.mainIs = some (Rows.scriptReadsCard.stood.harness.1, Rows.scriptReadsCard.stood.harness.2.toList) := by kernel_rfl
theorem fact_looks : Rows.scriptReadsCard.stood.looks = Tryz.prog.looks [] := by kernel_rfl

end Go.Proofs.YtegafdkhbgojcaaGreatDoor
