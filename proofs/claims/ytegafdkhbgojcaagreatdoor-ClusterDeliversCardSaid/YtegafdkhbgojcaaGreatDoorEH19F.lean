/- A closed run, from one state to the next. No condition. -/
import Derived.Test.YtegafdkhbgojcaaGreatDoorEH19S
import Derived.Test.YtegafdkhbgojcaaGreatDoorEH19S1
set_option linter.unusedVariables false
set_option maxRecDepth 100000
namespace Go.Proofs.YtegafdkhbgojcaaGreatDoor.Ek
open Go.Proofs.YtegafdkhbgojcaaGreatDoor.Ex
theorem h19c20 : goL Tryz.prog (nthN masks) (run Tryz.prog natives (nthN masks) (mS Tryz.prog (nthN masks) h19s21) (fun _ _ _ => false) 8000) h19s20 = true := by kernel_rfl
theorem h19c21 : goL Tryz.prog (nthN masks) (run Tryz.prog natives (nthN masks) (mS Tryz.prog (nthN masks) h19s22) (fun _ _ _ => false) 8000) h19s21 = true := by kernel_rfl
theorem h19c22 : goL Tryz.prog (nthN masks) (run Tryz.prog natives (nthN masks) (mS Tryz.prog (nthN masks) h19s23) (fun _ _ _ => false) 8000) h19s22 = true := by kernel_rfl
theorem h19c23 : goL Tryz.prog (nthN masks) (run Tryz.prog natives (nthN masks) (mS Tryz.prog (nthN masks) h19s24) (fun _ _ _ => false) 8000) h19s23 = true := by kernel_rfl

end Go.Proofs.YtegafdkhbgojcaaGreatDoor.Ek
