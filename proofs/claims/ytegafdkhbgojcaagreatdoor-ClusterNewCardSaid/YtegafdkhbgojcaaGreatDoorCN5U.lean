/- The statement ClusterNew with 3 replicas: the runs behind it. No condition. -/
import Derived.Test.YtegafdkhbgojcaaGreatDoorCN5
set_option linter.unusedVariables false
set_option maxRecDepth 100000
namespace Go.Proofs.YtegafdkhbgojcaaGreatDoor.Ek
open Go.Proofs.YtegafdkhbgojcaaGreatDoor.Ex
theorem cn5t13 : cn5F 13 = true := by kernel_rfl
theorem cn5t14 : cn5F 14 = true := by kernel_rfl
theorem cn5t15 : cn5F 15 = true := by kernel_rfl
theorem cn5t16 : cn5F 16 = true := by kernel_rfl
theorem cn5t17 : cn5F 17 = true := by kernel_rfl
theorem cn5t18 : cn5F 18 = true := by kernel_rfl
theorem cn5t19 : cn5F 19 = true := by kernel_rfl
theorem cn5t20 : cn5F 20 = true := by kernel_rfl
theorem cn5t21 : allB (fun k => cn5F (k + 21)) 11 = true := by kernel_rfl

end Go.Proofs.YtegafdkhbgojcaaGreatDoor.Ek
