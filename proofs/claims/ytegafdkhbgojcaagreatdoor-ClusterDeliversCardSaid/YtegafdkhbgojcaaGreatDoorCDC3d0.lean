/- The statement ClusterDelivers with 6 letters, due behind 0: the runs. No condition. -/
import Derived.Test.YtegafdkhbgojcaaGreatDoorCDC3
set_option linter.unusedVariables false
set_option maxRecDepth 100000
namespace Go.Proofs.YtegafdkhbgojcaaGreatDoor.Ek
open Go.Proofs.YtegafdkhbgojcaaGreatDoor.Ex
theorem d30a : cdK (exX 9 (.ofNat 0)) (cdGW3 (cI 0)) (cdGW3 (.x 9)) (cdHW3 (cI 0)) (cdHW3 (.x 9)) 89815 89815 = true := by kernel_rfl
theorem d30b : cdQ (.mk 10 cdIP3 cdGa3d0 (cdHP3 (cI 0)) 89840 []) (cdWs3 (cI 0)) 28 = true := by kernel_rfl
theorem d30c : cdK exAny (cdGP3 (cI 0)) cdGa3d0 (cdHP3 (cI 0)) (cdHP3 (cI 0)) 89950 89840 = true := by kernel_rfl
theorem d30e : cdQ (cdV3j0 0 (.x 8)) (.mk 10 cdIP3 (cdGP3 (cI 0)) (cdHP3 (cI 0)) 89950 []) 10 = true := by kernel_rfl
theorem d30l0 : cdL 0 (cdV3j0 0) (cdVB3j0 0) = true := by kernel_rfl
theorem d30q0 : cdQ (cdV3j1 0 (.x 8)) (cdVB3j0 0) 837 = true := by kernel_rfl
theorem d30l1 : cdL 1 (cdV3j1 0) (cdVB3j1 0) = true := by kernel_rfl
theorem d30q1 : cdQ (cdV3j2 0 (.x 8)) (cdVB3j1 0) 788 = true := by kernel_rfl
theorem d30l2 : cdL 2 (cdV3j2 0) (cdVB3j2 0) = true := by kernel_rfl
theorem d30q2 : cdQ (cdV3j3 0 (.x 8)) (cdVB3j2 0) 835 = true := by kernel_rfl
theorem d30l3 : cdL 3 (cdV3j3 0) (cdVB3j3 0) = true := by kernel_rfl
theorem d30q3 : cdQ (cdV3j4 0 (.x 8)) (cdVB3j3 0) 834 = true := by kernel_rfl
theorem d30l4 : cdL 4 (cdV3j4 0) (cdVB3j4 0) = true := by kernel_rfl
theorem d30q4 : cdQ (cdV3j5 0 (.x 8)) (cdVB3j4 0) 836 = true := by kernel_rfl
theorem d30l5 : cdL 5 (cdV3j5 0) (cdVB3j5 0) = true := by kernel_rfl
theorem d30q5 : cdQ (cdV3j6 0 (.x 8)) (cdVB3j5 0) 789 = true := by kernel_rfl
theorem d30l6 : cdE 6 (cdV3j6 0) = true := by kernel_rfl
theorem d30 {X : Nat → Value} (hX : XOk X) {m : Nat} (h8 : X 8 = .int .i64 (Int.ofNat m)) (hm : m < 8) (h9 : X 9 = .int .i64 (Int.ofNat 0)) : GD X (cdWs3 (.x 9)) := by
  have g6 : 6 ≤ m → GD X (cdV3j6 0 (.x 8)) := fun h => gd_vlast hX h8 hm h d30l6
  have g5 : 5 ≤ m → GD X (cdV3j5 0 (.x 8)) := fun h => gd_vstep hX h8 hm h d30l5 fun h2 => gd_run hX d30q5 (g6 h2)
  have g4 : 4 ≤ m → GD X (cdV3j4 0 (.x 8)) := fun h => gd_vstep hX h8 hm h d30l4 fun h2 => gd_run hX d30q4 (g5 h2)
  have g3 : 3 ≤ m → GD X (cdV3j3 0 (.x 8)) := fun h => gd_vstep hX h8 hm h d30l3 fun h2 => gd_run hX d30q3 (g4 h2)
  have g2 : 2 ≤ m → GD X (cdV3j2 0 (.x 8)) := fun h => gd_vstep hX h8 hm h d30l2 fun h2 => gd_run hX d30q2 (g3 h2)
  have g1 : 1 ≤ m → GD X (cdV3j1 0 (.x 8)) := fun h => gd_vstep hX h8 hm h d30l1 fun h2 => gd_run hX d30q1 (g2 h2)
  have g0 : 0 ≤ m → GD X (cdV3j0 0 (.x 8)) := fun h => gd_vstep hX h8 hm h d30l0 fun h2 => gd_run hX d30q0 (g1 h2)
  exact gd_hold (tells_exX h9) d30a (gd_run hX d30b (gd_hold tells_any d30c (gd_run hX d30e (g0 (Nat.zero_le _)))))

end Go.Proofs.YtegafdkhbgojcaaGreatDoor.Ek
