/- Closed facts of the seat's program, one by one. No condition. -/
import Derived.Test.YtcnehacblodiaaaRows
import Derived.Test.YtcnehacblodiaaaHand
set_option linter.unusedVariables false
set_option maxRecDepth 100000
namespace Go.Proofs.Ytcnehacblodiaaa
theorem fact_own : ownKnob Try.prog.godebug = none := by kernel_rfl
theorem fact_laidOut : laidOutB Try.prog = true := by kernel_rfl
theorem fact_mapsRowed : mapsRowed Try.prog = true := by kernel_rfl
theorem fact_stops : (Try.prog.stops == []) = true := by kernel_rfl
theorem fact_knobs : (Try.prog.stopKnobs == []) = true := by kernel_rfl
theorem fact_plainKeys : (Rows.sessManyRow.plainKeys == Try.prog.plainKeys) = true := by kernel_rfl
theorem fact_heard : Try.prog.stopsHeard = true := by kernel_rfl
theorem fact_mayEnter : Try.prog.mayEnter = true := by kernel_rfl
theorem fact_lifts : (Rows.sessManyRow.lifted == Try.prog.liftsFinal) = true := by kernel_rfl
theorem fact_make : (Try.prog.make == some Rows.sessManyRow.make) = true := by kernel_rfl

end Go.Proofs.Ytcnehacblodiaaa
