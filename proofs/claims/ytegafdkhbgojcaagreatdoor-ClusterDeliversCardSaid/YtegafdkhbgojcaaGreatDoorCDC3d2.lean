/- The statement ClusterDelivers with 6 letters, due behind 2: the runs. No condition. -/
import Derived.Test.YtegafdkhbgojcaaGreatDoorCDC3
set_option linter.unusedVariables false
set_option maxRecDepth 100000
namespace Go.Proofs.YtegafdkhbgojcaaGreatDoor.Ek
open Go.Proofs.YtegafdkhbgojcaaGreatDoor.Ex
theorem d32a : cdK (exX 9 (.ofNat 2)) (cdGW3 (cI 2)) (cdGW3 (.x 9)) (cdHW3 (cI 2)) (cdHW3 (.x 9)) 89815 89815 = true := by kernel_rfl
theorem d32b : cdQ (.mk 10 cdIP3 cdGa3d2 (cdHP3 (cI 2)) 89930 []) (cdWs3 (cI 2)) 102 = true := by kernel_rfl
theorem d32c : cdK exAny (cdGP3 (cI 2)) cdGa3d2 (cdHP3 (cI 2)) (cdHP3 (cI 2)) 89950 89930 = true := by kernel_rfl
theorem d32e : cdQ (cdV3j0 2 (.x 8)) (.mk 10 cdIP3 (cdGP3 (cI 2)) (cdHP3 (cI 2)) 89950 []) 10 = true := by kernel_rfl
theorem d32l0 : cdL 0 (cdV3j0 2) (cdVB3j0 2) = true := by kernel_rfl
theorem d32q0 : cdQ (cdV3j1 2 (.x 8)) (cdVB3j0 2) 837 = true := by kernel_rfl
theorem d32l1 : cdL 1 (cdV3j1 2) (cdVB3j1 2) = true := by kernel_rfl
theorem d32q1 : cdQ (cdV3j2 2 (.x 8)) (cdVB3j1 2) 788 = true := by kernel_rfl
theorem d32l2 : cdL 2 (cdV3j2 2) (cdVB3j2 2) = true := by kernel_rfl
theorem d32q2 : cdQ (cdV3j3 2 (.x 8)) (cdVB3j2 2) 835 = true := by kernel_rfl
theorem d32l3 : cdL 3 (cdV3j3 2) (cdVB3j3 2) = true := by kernel_rfl
theorem d32q3 : cdQ (cdV3j4 2 (.x 8)) (cdVB3j3 2) 834 = true := by kernel_rfl
theorem d32l4 : cdL 4 (cdV3j4 2) (cdVB3j4 2) = true := by kernel_rfl
theorem d32q4 : cdQ (cdV3j5 2 (.x 8)) (cdVB3j4 2) 836 = true := by kernel_rfl
theorem d32l5 : cdL 5 (cdV3j5 2) (cdVB3j5 2) = true := by kernel_rfl
theorem d32q5 : cdQ (cdV3j6 2 (.x 8)) (cdVB3j5 2) 789 = true := by kernel_rfl
theorem d32l6 : cdE 6 (cdV3j6 2) = true := by kernel_rfl
theorem d32 {X : Nat → Value} (hX : XOk X) {m : Nat} (h8 : X 8 = .int .i64 (Int.ofNat m)) (hm : m < 8) (h9 : X 9 = .int .i64 (Int.ofNat 2)) : GD X (cdWs3 (.x 9)) := by
  have g6 : 6 ≤ m → GD X (cdV3j6 2 (.x 8)) := fun h => gd_vlast hX h8 hm h d32l6
  have g5 : 5 ≤ m → GD X (cdV3j5 2 (.x 8)) := fun h => gd_vstep hX h8 hm h d32l5 fun h2 => gd_run hX d32q5 (g6 h2)
  have g4 : 4 ≤ m → GD X (cdV3j4 2 (.x 8)) := fun h => gd_vstep hX h8 hm h d32l4 fun h2 => gd_run hX d32q4 (g5 h2)
  have g3 : 3 ≤ m → GD X (cdV3j3 2 (.x 8)) := fun h => gd_vstep hX h8 hm h d32l3 fun h2 => gd_run hX d32q3 (g4 h2)
  have g2 : 2 ≤ m → GD X (cdV3j2 2 (.x 8)) := fun h => gd_vstep hX h8 hm h d32l2 fun h2 => gd_run hX d32q2 (g3 h2)
  have g1 : 1 ≤ m → GD X (cdV3j1 2 (.x 8)) := fun h => gd_vstep hX h8 hm h d32l1 fun h2 => gd_run hX d32q1 (g2 h2)
  have g0 : 0 ≤ m → GD X (cdV3j0 2 (.x 8)) := fun h => gd_vstep hX h8 hm h d32l0 fun h2 => gd_run hX d32q0 (g1 h2)
  exact gd_hold (tells_exX h9) d32a (gd_run hX d32b (gd_hold tells_any d32c (gd_run hX d32e (g0 (Nat.zero_le _)))))

end Go.Proofs.YtegafdkhbgojcaaGreatDoor.Ek
