/- The statement ClusterDelivers with 4 letters, due behind 3: the runs. No condition. -/
import Derived.Test.YtegafdkhbgojcaaGreatDoorCDC2
set_option linter.unusedVariables false
set_option maxRecDepth 100000
namespace Go.Proofs.YtegafdkhbgojcaaGreatDoor.Ek
open Go.Proofs.YtegafdkhbgojcaaGreatDoor.Ex
theorem d23a : cdK (exX 9 (.ofNat 3)) (cdGW2 (cI 3)) (cdGW2 (.x 9)) (cdHW2 (cI 3)) (cdHW2 (.x 9)) 82065 82065 = true := by kernel_rfl
theorem d23b : cdQ (.mk 10 cdIP2 cdGa2d3 (cdHP2 (cI 3)) 82200 []) (cdWs2 (cI 3)) 118 = true := by kernel_rfl
theorem d23c : cdK exAny (cdGP2 (cI 3)) cdGa2d3 (cdHP2 (cI 3)) (cdHP2 (cI 3)) 82200 82200 = true := by kernel_rfl
theorem d23e : cdQ (cdV2j0 3 (.x 8)) (.mk 10 cdIP2 (cdGP2 (cI 3)) (cdHP2 (cI 3)) 82200 []) 10 = true := by kernel_rfl
theorem d23l0 : cdL 0 (cdV2j0 3) (cdVB2j0 3) = true := by kernel_rfl
theorem d23q0 : cdQ (cdV2j1 3 (.x 8)) (cdVB2j0 3) 788 = true := by kernel_rfl
theorem d23l1 : cdL 1 (cdV2j1 3) (cdVB2j1 3) = true := by kernel_rfl
theorem d23q1 : cdQ (cdV2j2 3 (.x 8)) (cdVB2j1 3) 3989 = true := by kernel_rfl
theorem d23l2 : cdL 2 (cdV2j2 3) (cdVB2j2 3) = true := by kernel_rfl
theorem d23q2 : cdQ (cdV2j3 3 (.x 8)) (cdVB2j2 3) 787 = true := by kernel_rfl
theorem d23l3 : cdL 3 (cdV2j3 3) (cdVB2j3 3) = true := by kernel_rfl
theorem d23q3 : cdQ (cdV2j4 3 (.x 8)) (cdVB2j3 3) 789 = true := by kernel_rfl
theorem d23l4 : cdE 4 (cdV2j4 3) = true := by kernel_rfl
theorem d23 {X : Nat → Value} (hX : XOk X) {m : Nat} (h8 : X 8 = .int .i64 (Int.ofNat m)) (hm : m < 8) (h9 : X 9 = .int .i64 (Int.ofNat 3)) : GD X (cdWs2 (.x 9)) := by
  have g4 : 4 ≤ m → GD X (cdV2j4 3 (.x 8)) := fun h => gd_vlast hX h8 hm h d23l4
  have g3 : 3 ≤ m → GD X (cdV2j3 3 (.x 8)) := fun h => gd_vstep hX h8 hm h d23l3 fun h2 => gd_run hX d23q3 (g4 h2)
  have g2 : 2 ≤ m → GD X (cdV2j2 3 (.x 8)) := fun h => gd_vstep hX h8 hm h d23l2 fun h2 => gd_run hX d23q2 (g3 h2)
  have g1 : 1 ≤ m → GD X (cdV2j1 3 (.x 8)) := fun h => gd_vstep hX h8 hm h d23l1 fun h2 => gd_run hX d23q1 (g2 h2)
  have g0 : 0 ≤ m → GD X (cdV2j0 3 (.x 8)) := fun h => gd_vstep hX h8 hm h d23l0 fun h2 => gd_run hX d23q0 (g1 h2)
  exact gd_hold (tells_exX h9) d23a (gd_run hX d23b (gd_hold tells_any d23c (gd_run hX d23e (g0 (Nat.zero_le _)))))

end Go.Proofs.YtegafdkhbgojcaaGreatDoor.Ek
