/- A closed run, from one state to the next. No condition. -/
import Derived.Test.YtegafdkhbgojcaaGreatDoorEH19S
import Derived.Test.YtegafdkhbgojcaaGreatDoorEH19S1
set_option linter.unusedVariables false
set_option maxRecDepth 100000
namespace Go.Proofs.YtegafdkhbgojcaaGreatDoor.Ek
open Go.Proofs.YtegafdkhbgojcaaGreatDoor.Ex
theorem h19c16 : goL Tryz.prog (nthN masks) (run Tryz.prog natives (nthN masks) (mS Tryz.prog (nthN masks) h19s17) (fun _ _ _ => false) 8000) h19s16 = true := by kernel_rfl
theorem h19c17 : goL Tryz.prog (nthN masks) (run Tryz.prog natives (nthN masks) (mS Tryz.prog (nthN masks) h19s18) (fun _ _ _ => false) 8000) h19s17 = true := by kernel_rfl
theorem h19c18 : goL Tryz.prog (nthN masks) (run Tryz.prog natives (nthN masks) (mS Tryz.prog (nthN masks) h19s19) (fun _ _ _ => false) 8000) h19s18 = true := by kernel_rfl
theorem h19c19 : goL Tryz.prog (nthN masks) (run Tryz.prog natives (nthN masks) (mS Tryz.prog (nthN masks) h19s20) (fun _ _ _ => false) 8000) h19s19 = true := by kernel_rfl

end Go.Proofs.YtegafdkhbgojcaaGreatDoor.Ek
