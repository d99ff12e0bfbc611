/- A closed run, from one state to the next. No condition. -/
import Derived.Test.YtegafdkhbgojcaaGreatDoorEH21S
import Derived.Test.YtegafdkhbgojcaaGreatDoorEH21S1
set_option linter.unusedVariables false
set_option maxRecDepth 100000
namespace Go.Proofs.YtegafdkhbgojcaaGreatDoor.Ek
open Go.Proofs.YtegafdkhbgojcaaGreatDoor.Ex
theorem h21c3 : goL Tryz.prog (nthN masks) (run Tryz.prog natives (nthN masks) (mS Tryz.prog (nthN masks) h21s4) (fun _ _ _ => false) 8000) h21s3 = true := by kernel_rfl
theorem h21c4 : goL Tryz.prog (nthN masks) (run Tryz.prog natives (nthN masks) (mS Tryz.prog (nthN masks) h21s5) (fun _ _ _ => false) 8000) h21s4 = true := by kernel_rfl
theorem h21c5 : goL Tryz.prog (nthN masks) (run Tryz.prog natives (nthN masks) (mS Tryz.prog (nthN masks) h21s6) (fun _ _ _ => false) 8000) h21s5 = true := by kernel_rfl

end Go.Proofs.YtegafdkhbgojcaaGreatDoor.Ek
