/- The statement ClusterDelivers with 6 letters, due behind 1: the runs. No condition. -/
import Derived.Test.YtegafdkhbgojcaaGreatDoorCDC3
set_option linter.unusedVariables false
set_option maxRecDepth 100000
namespace Go.Proofs.YtegafdkhbgojcaaGreatDoor.Ek
open Go.Proofs.YtegafdkhbgojcaaGreatDoor.Ex
theorem d31a : cdK (exX 9 (.ofNat 1)) (cdGW3 (cI 1)) (cdGW3 (.x 9)) (cdHW3 (cI 1)) (cdHW3 (.x 9)) 89815 89815 = true := by kernel_rfl
theorem d31b : cdQ (.mk 10 cdIP3 cdGa3d1 (cdHP3 (cI 1)) 89910 []) (cdWs3 (cI 1)) 86 = true := by kernel_rfl
theorem d31c : cdK exAny (cdGP3 (cI 1)) cdGa3d1 (cdHP3 (cI 1)) (cdHP3 (cI 1)) 89950 89910 = true := by kernel_rfl
theorem d31e : cdQ (cdV3j0 1 (.x 8)) (.mk 10 cdIP3 (cdGP3 (cI 1)) (cdHP3 (cI 1)) 89950 []) 10 = true := by kernel_rfl
theorem d31l0 : cdL 0 (cdV3j0 1) (cdVB3j0 1) = true := by kernel_rfl
theorem d31q0 : cdQ (cdV3j1 1 (.x 8)) (cdVB3j0 1) 837 = true := by kernel_rfl
theorem d31l1 : cdL 1 (cdV3j1 1) (cdVB3j1 1) = true := by kernel_rfl
theorem d31q1 : cdQ (cdV3j2 1 (.x 8)) (cdVB3j1 1) 788 = true := by kernel_rfl
theorem d31l2 : cdL 2 (cdV3j2 1) (cdVB3j2 1) = true := by kernel_rfl
theorem d31q2 : cdQ (cdV3j3 1 (.x 8)) (cdVB3j2 1) 835 = true := by kernel_rfl
theorem d31l3 : cdL 3 (cdV3j3 1) (cdVB3j3 1) = true := by kernel_rfl
theorem d31q3 : cdQ (cdV3j4 1 (.x 8)) (cdVB3j3 1) 834 = true := by kernel_rfl
theorem d31l4 : cdL 4 (cdV3j4 1) (cdVB3j4 1) = true := by kernel_rfl
theorem d31q4 : cdQ (cdV3j5 1 (.x 8)) (cdVB3j4 1) 836 = true := by kernel_rfl
theorem d31l5 : cdL 5 (cdV3j5 1) (cdVB3j5 1) = true := by kernel_rfl
theorem d31q5 : cdQ (cdV3j6 1 (.x 8)) (cdVB3j5 1) 789 = true := by kernel_rfl
theorem d31l6 : cdE 6 (cdV3j6 1) = true := by kernel_rfl
theorem d31 {X : Nat → Value} (hX : XOk X) {m : Nat} (h8 : X 8 = .int .i64 (Int.ofNat m)) (hm : m < 8) (h9 : X 9 = .int .i64 (Int.ofNat 1)) : GD X (cdWs3 (.x 9)) := by
  have g6 : 6 ≤ m → GD X (cdV3j6 1 (.x 8)) := fun h => gd_vlast hX h8 hm h d31l6
  have g5 : 5 ≤ m → GD X (cdV3j5 1 (.x 8)) := fun h => gd_vstep hX h8 hm h d31l5 fun h2 => gd_run hX d31q5 (g6 h2)
  have g4 : 4 ≤ m → GD X (cdV3j4 1 (.x 8)) := fun h => gd_vstep hX h8 hm h d31l4 fun h2 => gd_run hX d31q4 (g5 h2)
  have g3 : 3 ≤ m → GD X (cdV3j3 1 (.x 8)) := fun h => gd_vstep hX h8 hm h d31l3 fun h2 => gd_run hX d31q3 (g4 h2)
  have g2 : 2 ≤ m → GD X (cdV3j2 1 (.x 8)) := fun h => gd_vstep hX h8 hm h d31l2 fun h2 => gd_run hX d31q2 (g3 h2)
  have g1 : 1 ≤ m → GD X (cdV3j1 1 (.x 8)) := fun h => gd_vstep hX h8 hm h d31l1 fun h2 => gd_run hX d31q1 (g2 h2)
  have g0 : 0 ≤ m → GD X (cdV3j0 1 (.x 8)) := fun h => gd_vstep hX h8 hm h d31l0 fun h2 => gd_run hX d31q0 (g1 h2)
  exact gd_hold (tells_exX h9) d31a (gd_run hX d31b (gd_hold tells_any d31c (gd_run hX d31e (g0 (Nat.zero_le _)))))

end Go.Proofs.YtegafdkhbgojcaaGreatDoor.Ek
