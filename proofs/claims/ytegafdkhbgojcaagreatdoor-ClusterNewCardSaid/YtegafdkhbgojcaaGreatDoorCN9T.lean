/- The statement ClusterNew with 7 replicas: the runs behind it. No condition. -/
import Derived.Test.YtegafdkhbgojcaaGreatDoorCN9
set_option linter.unusedVariables false
set_option maxRecDepth 100000
namespace Go.Proofs.YtegafdkhbgojcaaGreatDoor.Ek
open Go.Proofs.YtegafdkhbgojcaaGreatDoor.Ex
theorem cn9t0 : allB (fun k => cn9F (k + 0)) 4 = true := by kernel_rfl
theorem cn9t4 : cn9F 4 = true := by kernel_rfl
theorem cn9t5 : cn9F 5 = true := by kernel_rfl
theorem cn9t6 : cn9F 6 = true := by kernel_rfl
theorem cn9t7 : cn9F 7 = true := by kernel_rfl
theorem cn9t8 : cn9F 8 = true := by kernel_rfl
theorem cn9t9 : cn9F 9 = true := by kernel_rfl
theorem cn9t10 : cn9F 10 = true := by kernel_rfl
theorem cn9t11 : cn9F 11 = true := by kernel_rfl
theorem cn9t12 : cn9F 12 = true := by kernel_rfl

end Go.Proofs.YtegafdkhbgojcaaGreatDoor.Ek
