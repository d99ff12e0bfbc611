/- A closed run, from one state to the next. No condition. -/
import Derived.Test.YtegafdkhbgojcaaGreatDoorEH19S
import Derived.Test.YtegafdkhbgojcaaGreatDoorEH19S1
set_option linter.unusedVariables false
set_option maxRecDepth 100000
namespace Go.Proofs.YtegafdkhbgojcaaGreatDoor.Ek
open Go.Proofs.YtegafdkhbgojcaaGreatDoor.Ex
theorem h19c28 : goL Tryz.prog (nthN masks) (run Tryz.prog natives (nthN masks) (fun _ => false) (finL (.b true) []) 8000) h19s28 = true := by kernel_rfl

end Go.Proofs.YtegafdkhbgojcaaGreatDoor.Ek
