/- The statement ClusterNew with 5 replicas: the runs behind it. No condition. -/
import Derived.Test.YtegafdkhbgojcaaGreatDoorCN7
set_option linter.unusedVariables false
set_option maxRecDepth 100000
namespace Go.Proofs.YtegafdkhbgojcaaGreatDoor.Ek
open Go.Proofs.YtegafdkhbgojcaaGreatDoor.Ex
theorem cn7t13 : cn7F 13 = true := by kernel_rfl
theorem cn7t14 : cn7F 14 = true := by kernel_rfl
theorem cn7t15 : cn7F 15 = true := by kernel_rfl
theorem cn7t16 : cn7F 16 = true := by kernel_rfl
theorem cn7t17 : cn7F 17 = true := by kernel_rfl
theorem cn7t18 : cn7F 18 = true := by kernel_rfl
theorem cn7t19 : cn7F 19 = true := by kernel_rfl
theorem cn7t20 : cn7F 20 = true := by kernel_rfl
theorem cn7t21 : allB (fun k => cn7F (k + 21)) 11 = true := by kernel_rfl

end Go.Proofs.YtegafdkhbgojcaaGreatDoor.Ek
