/- The statement ClusterDelivers with 4 letters, due behind 2: the runs. No condition. -/
import Derived.Test.YtegafdkhbgojcaaGreatDoorCDC2
set_option linter.unusedVariables false
set_option maxRecDepth 100000
namespace Go.Proofs.YtegafdkhbgojcaaGreatDoor.Ek
open Go.Proofs.YtegafdkhbgojcaaGreatDoor.Ex
theorem d22a : cdK (exX 9 (.ofNat 2)) (cdGW2 (cI 2)) (cdGW2 (.x 9)) (cdHW2 (cI 2)) (cdHW2 (.x 9)) 82065 82065 = true := by kernel_rfl
theorem d22b : cdQ (.mk 10 cdIP2 cdGa2d2 (cdHP2 (cI 2)) 82180 []) (cdWs2 (cI 2)) 102 = true := by kernel_rfl
theorem d22c : cdK exAny (cdGP2 (cI 2)) cdGa2d2 (cdHP2 (cI 2)) (cdHP2 (cI 2)) 82200 82180 = true := by kernel_rfl
theorem d22e : cdQ (cdV2j0 2 (.x 8)) (.mk 10 cdIP2 (cdGP2 (cI 2)) (cdHP2 (cI 2)) 82200 []) 10 = true := by kernel_rfl
theorem d22l0 : cdL 0 (cdV2j0 2) (cdVB2j0 2) = true := by kernel_rfl
theorem d22q0 : cdQ (cdV2j1 2 (.x 8)) (cdVB2j0 2) 788 = true := by kernel_rfl
theorem d22l1 : cdL 1 (cdV2j1 2) (cdVB2j1 2) = true := by kernel_rfl
theorem d22q1 : cdQ (cdV2j2 2 (.x 8)) (cdVB2j1 2) 3989 = true := by kernel_rfl
theorem d22l2 : cdL 2 (cdV2j2 2) (cdVB2j2 2) = true := by kernel_rfl
theorem d22q2 : cdQ (cdV2j3 2 (.x 8)) (cdVB2j2 2) 787 = true := by kernel_rfl
theorem d22l3 : cdL 3 (cdV2j3 2) (cdVB2j3 2) = true := by kernel_rfl
theorem d22q3 : cdQ (cdV2j4 2 (.x 8)) (cdVB2j3 2) 789 = true := by kernel_rfl
theorem d22l4 : cdE 4 (cdV2j4 2) = true := by kernel_rfl
theorem d22 {X : Nat → Value} (hX : XOk X) {m : Nat} (h8 : X 8 = .int .i64 (Int.ofNat m)) (hm : m < 8) (h9 : X 9 = .int .i64 (Int.ofNat 2)) : GD X (cdWs2 (.x 9)) := by
  have g4 : 4 ≤ m → GD X (cdV2j4 2 (.x 8)) := fun h => gd_vlast hX h8 hm h d22l4
  have g3 : 3 ≤ m → GD X (cdV2j3 2 (.x 8)) := fun h => gd_vstep hX h8 hm h d22l3 fun h2 => gd_run hX d22q3 (g4 h2)
  have g2 : 2 ≤ m → GD X (cdV2j2 2 (.x 8)) := fun h => gd_vstep hX h8 hm h d22l2 fun h2 => gd_run hX d22q2 (g3 h2)
  have g1 : 1 ≤ m → GD X (cdV2j1 2 (.x 8)) := fun h => gd_vstep hX h8 hm h d22l1 fun h2 => gd_run hX d22q1 (g2 h2)
  have g0 : 0 ≤ m → GD X (cdV2j0 2 (.x 8)) := fun h => gd_vstep hX h8 hm h d22l0 fun h2 => gd_run hX d22q0 (g1 h2)
  exact gd_hold (tells_exX h9) d22a (gd_run hX d22b (gd_hold tells_any d22c (gd_run hX d22e (g0 (Nat.zero_le _)))))

end Go.Proofs.YtegafdkhbgojcaaGreatDoor.Ek
