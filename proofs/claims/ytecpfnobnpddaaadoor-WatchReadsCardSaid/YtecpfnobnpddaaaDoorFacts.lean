/- Closed facts of the seat's program, one by one. No condition. -/
import Derived.Test.YtecpfnobnpddaaaDoorRows
import Derived.Test.YtecpfnobnpddaaaDoorCards
import Derived.Test.YtecpfnobnpddaaaDoorHand
set_option linter.unusedVariables false
set_option maxRecDepth 100000
namespace Go.Proofs.YtecpfnobnpddaaaDoor
theorem fact_own : ownKnob Tryd.prog.godebug = none := by kernel_rfl
theorem fact_laidOut : laidOutB Tryd.prog = true := by kernel_rfl
theorem fact_mapsRowed : mapsRowed Tryd.prog = true := by kernel_rfl
theorem fact_stops : (Tryd.prog.stops == []) = true := by kernel_rfl
theorem fact_knobs : (Tryd.prog.stopKnobs == []) = true := by kernel_rfl
theorem fact_plainKeys : (Rows.treeQuotasRow.plainKeys == Tryd.prog.plainKeys) = true := by kernel_rfl
theorem fact_heard : Tryd.prog.stopsHeard = true := by kernel_rfl
theorem fact_mayEnter : Tryd.prog.mayEnter = true := by kernel_rfl
theorem fact_lifts : (Rows.treeQuotasRow.lifted == Tryd.prog.liftsFinal) = true := by kernel_rfl
theorem fact_make : (Tryd.prog.make == some Rows.treeQuotasRow.make) = true := by kernel_rfl
theorem fact_main : Tryd.pinned.checked.prog.mainIs = some (Rows.treeQuotasCard.stood.harness.1, Rows.treeQuotasCard.stood.harness.2.toList) := by kernel_rfl
theorem fact_looks : Rows.treeQuotasCard.stood.looks = Tryd.prog.looks [] := by kernel_rfl

end Go.Proofs.YtecpfnobnpddaaaDoor
