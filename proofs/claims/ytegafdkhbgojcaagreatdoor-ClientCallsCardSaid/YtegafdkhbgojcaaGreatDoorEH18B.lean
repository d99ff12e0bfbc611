/- A closed run, from one state to the next. No condition. -/
import Derived.Test.YtegafdkhbgojcaaGreatDoorEH18S
set_option linter.unusedVariables false
set_option maxRecDepth 100000
namespace Go.Proofs.YtegafdkhbgojcaaGreatDoor.Ek
open Go.Proofs.YtegafdkhbgojcaaGreatDoor.Ex
theorem h18c3 : goL Tryz.prog (nthN masks) (run Tryz.prog natives (nthN masks) (mS Tryz.prog (nthN masks) h18s4) (fun _ _ _ => false) 8000) h18s3 = true := by kernel_rfl
theorem h18c4 : goL Tryz.prog (nthN masks) (run Tryz.prog natives (nthN masks) (mS Tryz.prog (nthN masks) h18s5) (fun _ _ _ => false) 8000) h18s4 = true := by kernel_rfl
theorem h18c5 : goL Tryz.prog (nthN masks) (run Tryz.prog natives (nthN masks) (mS Tryz.prog (nthN masks) h18s6) (fun _ _ _ => false) 8000) h18s5 = true := by kernel_rfl

end Go.Proofs.YtegafdkhbgojcaaGreatDoor.Ek
