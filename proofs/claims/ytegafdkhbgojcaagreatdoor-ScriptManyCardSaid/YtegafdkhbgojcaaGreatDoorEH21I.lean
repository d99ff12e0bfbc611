/- A closed run, from one state to the next. No condition. -/
import Derived.Test.YtegafdkhbgojcaaGreatDoorEH21S
import Derived.Test.YtegafdkhbgojcaaGreatDoorEH21S1
set_option linter.unusedVariables false
set_option maxRecDepth 100000
namespace Go.Proofs.YtegafdkhbgojcaaGreatDoor.Ek
open Go.Proofs.YtegafdkhbgojcaaGreatDoor.Ex
theorem h21c24 : goL Tryz.prog (nthN masks) (run Tryz.prog natives (nthN masks) (mS Tryz.prog (nthN masks) h21s25) (fun _ _ _ => false) 8000) h21s24 = true := by kernel_rfl
theorem h21c25 : goL Tryz.prog (nthN masks) (run Tryz.prog natives (nthN masks) (mS Tryz.prog (nthN masks) h21s26) (fun _ _ _ => false) 8000) h21s25 = true := by kernel_rfl
theorem h21c26 : goL Tryz.prog (nthN masks) (run Tryz.prog natives (nthN masks) (mS Tryz.prog (nthN masks) h21s27) (fun _ _ _ => false) 8000) h21s26 = true := by kernel_rfl

end Go.Proofs.YtegafdkhbgojcaaGreatDoor.Ek
