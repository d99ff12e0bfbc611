/- The statement ClusterDelivers with 6 letters, due behind 3: the runs. No condition. -/
import Derived.Test.YtegafdkhbgojcaaGreatDoorCDC3
set_option linter.unusedVariables false
set_option maxRecDepth 100000
namespace Go.Proofs.YtegafdkhbgojcaaGreatDoor.Ek
open Go.Proofs.YtegafdkhbgojcaaGreatDoor.Ex
theorem d33a : cdK (exX 9 (.ofNat 3)) (cdGW3 (cI 3)) (cdGW3 (.x 9)) (cdHW3 (cI 3)) (cdHW3 (.x 9)) 89815 89815 = true := by kernel_rfl
theorem d33b : cdQ (.mk 10 cdIP3 cdGa3d3 (cdHP3 (cI 3)) 89950 []) (cdWs3 (cI 3)) 118 = true := by kernel_rfl
theorem d33c : cdK exAny (cdGP3 (cI 3)) cdGa3d3 (cdHP3 (cI 3)) (cdHP3 (cI 3)) 89950 89950 = true := by kernel_rfl
theorem d33e : cdQ (cdV3j0 3 (.x 8)) (.mk 10 cdIP3 (cdGP3 (cI 3)) (cdHP3 (cI 3)) 89950 []) 10 = true := by kernel_rfl
theorem d33l0 : cdL 0 (cdV3j0 3) (cdVB3j0 3) = true := by kernel_rfl
theorem d33q0 : cdQ (cdV3j1 3 (.x 8)) (cdVB3j0 3) 837 = true := by kernel_rfl
theorem d33l1 : cdL 1 (cdV3j1 3) (cdVB3j1 3) = true := by kernel_rfl
theorem d33q1 : cdQ (cdV3j2 3 (.x 8)) (cdVB3j1 3) 788 = true := by kernel_rfl
theorem d33l2 : cdL 2 (cdV3j2 3) (cdVB3j2 3) = true := by kernel_rfl
theorem d33q2 : cdQ (cdV3j3 3 (.x 8)) (cdVB3j2 3) 835 = true := by kernel_rfl
theorem d33l3 : cdL 3 (cdV3j3 3) (cdVB3j3 3) = true := by kernel_rfl
theorem d33q3 : cdQ (cdV3j4 3 (.x 8)) (cdVB3j3 3) 834 = true := by kernel_rfl
theorem d33l4 : cdL 4 (cdV3j4 3) (cdVB3j4 3) = true := by kernel_rfl
theorem d33q4 : cdQ (cdV3j5 3 (.x 8)) (cdVB3j4 3) 836 = true := by kernel_rfl
theorem d33l5 : cdL 5 (cdV3j5 3) (cdVB3j5 3) = true := by kernel_rfl
theorem d33q5 : cdQ (cdV3j6 3 (.x 8)) (cdVB3j5 3) 789 = true := by kernel_rfl
theorem d33l6 : cdE 6 (cdV3j6 3) = true := by kernel_rfl
theorem d33 {X : Nat → Value} (hX : XOk X) {m : Nat} (h8 : X 8 = .int .i64 (Int.ofNat m)) (hm : m < 8) (h9 : X 9 = .int .i64 (Int.ofNat 3)) : GD X (cdWs3 (.x 9)) := by
  have g6 : 6 ≤ m → GD X (cdV3j6 3 (.x 8)) := fun h => gd_vlast hX h8 hm h d33l6
  have g5 : 5 ≤ m → GD X (cdV3j5 3 (.x 8)) := fun h => gd_vstep hX h8 hm h d33l5 fun h2 => gd_run hX d33q5 (g6 h2)
  have g4 : 4 ≤ m → GD X (cdV3j4 3 (.x 8)) := fun h => gd_vstep hX h8 hm h d33l4 fun h2 => gd_run hX d33q4 (g5 h2)
  have g3 : 3 ≤ m → GD X (cdV3j3 3 (.x 8)) := fun h => gd_vstep hX h8 hm h d33l3 fun h2 => gd_run hX d33q3 (g4 h2)
  have g2 : 2 ≤ m → GD X (cdV3j2 3 (.x 8)) := fun h => gd_vstep hX h8 hm h d33l2 fun h2 => gd_run hX d33q2 (g3 h2)
  have g1 : 1 ≤ m → GD X (cdV3j1 3 (.x 8)) := fun h => gd_vstep hX h8 hm h d33l1 fun h2 => gd_run hX d33q1 (g2 h2)
  have g0 : 0 ≤ m → GD X (cdV3j0 3 (.x 8)) := fun h => gd_vstep hX h8 hm h d33l0 fun h2 => gd_run hX d33q0 (g1 h2)
  exact gd_hold (tells_exX h9) d33a (gd_run hX d33b (gd_hold tells_any d33c (gd_run hX d33e (g0 (Nat.zero_le _)))))

end Go.Proofs.YtegafdkhbgojcaaGreatDoor.Ek
