/- The statement ClusterNew with 5 replicas: the runs behind it. No condition. -/
import Derived.Test.YtegafdkhbgojcaaGreatDoorCN7
set_option linter.unusedVariables false
set_option maxRecDepth 100000
namespace Go.Proofs.YtegafdkhbgojcaaGreatDoor.Ek
open Go.Proofs.YtegafdkhbgojcaaGreatDoor.Ex
theorem cn7t0 : allB (fun k => cn7F (k + 0)) 4 = true := by kernel_rfl
theorem cn7t4 : cn7F 4 = true := by kernel_rfl
theorem cn7t5 : cn7F 5 = true := by kernel_rfl
theorem cn7t6 : cn7F 6 = true := by kernel_rfl
theorem cn7t7 : cn7F 7 = true := by kernel_rfl
theorem cn7t8 : cn7F 8 = true := by kernel_rfl
theorem cn7t9 : cn7F 9 = true := by kernel_rfl
theorem cn7t10 : cn7F 10 = true := by kernel_rfl
theorem cn7t11 : cn7F 11 = true := by kernel_rfl
theorem cn7t12 : cn7F 12 = true := by kernel_rfl

end Go.Proofs.YtegafdkhbgojcaaGreatDoor.Ek
