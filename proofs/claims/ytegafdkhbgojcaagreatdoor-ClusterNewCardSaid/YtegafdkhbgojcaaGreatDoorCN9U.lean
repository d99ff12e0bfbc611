/- The statement ClusterNew with 7 replicas: the runs behind it. No condition. -/
import Derived.Test.YtegafdkhbgojcaaGreatDoorCN9
set_option linter.unusedVariables false
set_option maxRecDepth 100000
namespace Go.Proofs.YtegafdkhbgojcaaGreatDoor.Ek
open Go.Proofs.YtegafdkhbgojcaaGreatDoor.Ex
theorem cn9t13 : cn9F 13 = true := by kernel_rfl
theorem cn9t14 : cn9F 14 = true := by kernel_rfl
theorem cn9t15 : cn9F 15 = true := by kernel_rfl
theorem cn9t16 : cn9F 16 = true := by kernel_rfl
theorem cn9t17 : cn9F 17 = true := by kernel_rfl
theorem cn9t18 : cn9F 18 = true := by kernel_rfl
theorem cn9t19 : cn9F 19 = true := by kernel_rfl
theorem cn9t20 : cn9F 20 = true := by kernel_rfl
theorem cn9t21 : allB (fun k => cn9F (k + 21)) 11 = true := by kernel_rfl

end Go.Proofs.YtegafdkhbgojcaaGreatDoor.Ek
