/- A closed run, from one state to the next. No condition. -/
import Derived.Test.YtegafdkhbgojcaaGreatDoorEH19S
import Derived.Test.YtegafdkhbgojcaaGreatDoorEH19S1
set_option linter.unusedVariables false
set_option maxRecDepth 100000
namespace Go.Proofs.YtegafdkhbgojcaaGreatDoor.Ek
open Go.Proofs.YtegafdkhbgojcaaGreatDoor.Ex
theorem h19c12 : goL Tryz.prog (nthN masks) (run Tryz.prog natives (nthN masks) (mS Tryz.prog (nthN masks) h19s13) (fun _ _ _ => false) 8000) h19s12 = true := by kernel_rfl
theorem h19c13 : goL Tryz.prog (nthN masks) (run Tryz.prog natives (nthN masks) (mS Tryz.prog (nthN masks) h19s14) (fun _ _ _ => false) 8000) h19s13 = true := by kernel_rfl
theorem h19c14 : goL Tryz.prog (nthN masks) (run Tryz.prog natives (nthN masks) (mS Tryz.prog (nthN masks) h19s15) (fun _ _ _ => false) 8000) h19s14 = true := by kernel_rfl
theorem h19c15 : goL Tryz.prog (nthN masks) (run Tryz.prog natives (nthN masks) (mS Tryz.prog (nthN masks) h19s16) (fun _ _ _ => false) 8000) h19s15 = true := by kernel_rfl

end Go.Proofs.YtegafdkhbgojcaaGreatDoor.Ek
