/- A closed run, from one state to the next. No condition. -/
import Derived.Test.YtegafdkhbgojcaaGreatDoorEH19S
import Derived.Test.YtegafdkhbgojcaaGreatDoorEH19S1
set_option linter.unusedVariables false
set_option maxRecDepth 100000
namespace Go.Proofs.YtegafdkhbgojcaaGreatDoor.Ek
open Go.Proofs.YtegafdkhbgojcaaGreatDoor.Ex
theorem h19c0 : goL Tryz.prog (nthN masks) (run Tryz.prog natives (nthN masks) (mS Tryz.prog (nthN masks) h19s1) (fun _ _ _ => false) 8000) h19s0 = true := by kernel_rfl
theorem h19c1 : goL Tryz.prog (nthN masks) (run Tryz.prog natives (nthN masks) (mS Tryz.prog (nthN masks) h19s2) (fun _ _ _ => false) 8000) h19s1 = true := by kernel_rfl
theorem h19c2 : goL Tryz.prog (nthN masks) (run Tryz.prog natives (nthN masks) (mS Tryz.prog (nthN masks) h19s3) (fun _ _ _ => false) 8000) h19s2 = true := by kernel_rfl
theorem h19c3 : goL Tryz.prog (nthN masks) (run Tryz.prog natives (nthN masks) (mS Tryz.prog (nthN masks) h19s4) (fun _ _ _ => false) 8000) h19s3 = true := by kernel_rfl

end Go.Proofs.YtegafdkhbgojcaaGreatDoor.Ek
