/- A closed run, from one state to the next. No condition. -/
import Derived.Test.YtegafdkhbgojcaaGreatDoorEH18S
set_option linter.unusedVariables false
set_option maxRecDepth 100000
namespace Go.Proofs.YtegafdkhbgojcaaGreatDoor.Ek
open Go.Proofs.YtegafdkhbgojcaaGreatDoor.Ex
theorem h18c9 : goL Tryz.prog (nthN masks) (run Tryz.prog natives (nthN masks) (mS Tryz.prog (nthN masks) h18s10) (fun _ _ _ => false) 8000) h18s9 = true := by kernel_rfl
theorem h18c10 : goL Tryz.prog (nthN masks) (run Tryz.prog natives (nthN masks) (fun _ => false) (finL (.b true) []) 8000) h18s10 = true := by kernel_rfl

end Go.Proofs.YtegafdkhbgojcaaGreatDoor.Ek
