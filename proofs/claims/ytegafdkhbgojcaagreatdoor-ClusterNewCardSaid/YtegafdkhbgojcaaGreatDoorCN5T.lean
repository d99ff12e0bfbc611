/- The statement ClusterNew with 3 replicas: the runs behind it. No condition. -/
import Derived.Test.YtegafdkhbgojcaaGreatDoorCN5
set_option linter.unusedVariables false
set_option maxRecDepth 100000
namespace Go.Proofs.YtegafdkhbgojcaaGreatDoor.Ek
open Go.Proofs.YtegafdkhbgojcaaGreatDoor.Ex
theorem cn5t0 : allB (fun k => cn5F (k + 0)) 4 = true := by kernel_rfl
theorem cn5t4 : cn5F 4 = true := by kernel_rfl
theorem cn5t5 : cn5F 5 = true := by kernel_rfl
theorem cn5t6 : cn5F 6 = true := by kernel_rfl
theorem cn5t7 : cn5F 7 = true := by kernel_rfl
theorem cn5t8 : cn5F 8 = true := by kernel_rfl
theorem cn5t9 : cn5F 9 = true := by kernel_rfl
theorem cn5t10 : cn5F 10 = true := by kernel_rfl
theorem cn5t11 : cn5F 11 = true := by kernel_rfl
theorem cn5t12 : cn5F 12 = true := by kernel_rfl

end Go.Proofs.YtegafdkhbgojcaaGreatDoor.Ek
