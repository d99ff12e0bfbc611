/- A closed run, from one state to the next. No condition. -/
import Derived.Test.YtegafdkhbgojcaaGreatDoorEH21S
import Derived.Test.YtegafdkhbgojcaaGreatDoorEH21S1
set_option linter.unusedVariables false
set_option maxRecDepth 100000
namespace Go.Proofs.YtegafdkhbgojcaaGreatDoor.Ek
open Go.Proofs.YtegafdkhbgojcaaGreatDoor.Ex
theorem h21c9 : goL Tryz.prog (nthN masks) (run Tryz.prog natives (nthN masks) (mS Tryz.prog (nthN masks) h21s10) (fun _ _ _ => false) 8000) h21s9 = true := by kernel_rfl
theorem h21c10 : goL Tryz.prog (nthN masks) (run Tryz.prog natives (nthN masks) (mS Tryz.prog (nthN masks) h21s11) (fun _ _ _ => false) 8000) h21s10 = true := by kernel_rfl
theorem h21c11 : goL Tryz.prog (nthN masks) (run Tryz.prog natives (nthN masks) (mS Tryz.prog (nthN masks) h21s12) (fun _ _ _ => false) 8000) h21s11 = true := by kernel_rfl

end Go.Proofs.YtegafdkhbgojcaaGreatDoor.Ek
