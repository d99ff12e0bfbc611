/- A closed run, from one state to the next. No condition. -/
import Derived.Test.YtegafdkhbgojcaaGreatDoorEH21S
import Derived.Test.YtegafdkhbgojcaaGreatDoorEH21S1
set_option linter.unusedVariables false
set_option maxRecDepth 100000
namespace Go.Proofs.YtegafdkhbgojcaaGreatDoor.Ek
open Go.Proofs.YtegafdkhbgojcaaGreatDoor.Ex
theorem h21c12 : goL Tryz.prog (nthN masks) (run Tryz.prog natives (nthN masks) (mS Tryz.prog (nthN masks) h21s13) (fun _ _ _ => false) 8000) h21s12 = true := by kernel_rfl
theorem h21c13 : goL Tryz.prog (nthN masks) (run Tryz.prog natives (nthN masks) (mS Tryz.prog (nthN masks) h21s14) (fun _ _ _ => false) 8000) h21s13 = true := by kernel_rfl
theorem h21c14 : goL Tryz.prog (nthN masks) (run Tryz.prog natives (nthN masks) (mS Tryz.prog (nthN masks) h21s15) (fun _ _ _ => false) 8000) h21s14 = true := by kernel_rfl

end Go.Proofs.YtegafdkhbgojcaaGreatDoor.Ek
