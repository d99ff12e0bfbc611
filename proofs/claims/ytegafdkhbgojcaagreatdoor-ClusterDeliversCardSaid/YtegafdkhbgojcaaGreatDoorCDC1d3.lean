/- The statement ClusterDelivers with 2 letters, due behind 3: the runs. No condition. -/
import Derived.Test.YtegafdkhbgojcaaGreatDoorCDC1
set_option linter.unusedVariables false
set_option maxRecDepth 100000
namespace Go.Proofs.YtegafdkhbgojcaaGreatDoor.Ek
open Go.Proofs.YtegafdkhbgojcaaGreatDoor.Ex
theorem d13a : cdK (exX 9 (.ofNat 3)) (cdGW1 (cI 3)) (cdGW1 (.x 9)) (cdHW1 (cI 3)) (cdHW1 (.x 9)) 71930 71930 = true := by kernel_rfl
theorem d13b : cdQ (.mk 10 cdIP1 cdGa1d3 (cdHP1 (cI 3)) 72065 []) (cdWs1 (cI 3)) 118 = true := by kernel_rfl
theorem d13c : cdK exAny (cdGP1 (cI 3)) cdGa1d3 (cdHP1 (cI 3)) (cdHP1 (cI 3)) 72065 72065 = true := by kernel_rfl
theorem d13e : cdQ (cdV1j0 3 (.x 8)) (.mk 10 cdIP1 (cdGP1 (cI 3)) (cdHP1 (cI 3)) 72065 []) 10 = true := by kernel_rfl
theorem d13l0 : cdL 0 (cdV1j0 3) (cdVB1j0 3) = true := by kernel_rfl
theorem d13q0 : cdQ (cdV1j1 3 (.x 8)) (cdVB1j0 3) 3941 = true := by kernel_rfl
theorem d13l1 : cdL 1 (cdV1j1 3) (cdVB1j1 3) = true := by kernel_rfl
theorem d13q1 : cdQ (cdV1j2 3 (.x 8)) (cdVB1j1 3) 3942 = true := by kernel_rfl
theorem d13l2 : cdE 2 (cdV1j2 3) = true := by kernel_rfl
theorem d13 {X : Nat → Value} (hX : XOk X) {m : Nat} (h8 : X 8 = .int .i64 (Int.ofNat m)) (hm : m < 8) (h9 : X 9 = .int .i64 (Int.ofNat 3)) : GD X (cdWs1 (.x 9)) := by
  have g2 : 2 ≤ m → GD X (cdV1j2 3 (.x 8)) := fun h => gd_vlast hX h8 hm h d13l2
  have g1 : 1 ≤ m → GD X (cdV1j1 3 (.x 8)) := fun h => gd_vstep hX h8 hm h d13l1 fun h2 => gd_run hX d13q1 (g2 h2)
  have g0 : 0 ≤ m → GD X (cdV1j0 3 (.x 8)) := fun h => gd_vstep hX h8 hm h d13l0 fun h2 => gd_run hX d13q0 (g1 h2)
  exact gd_hold (tells_exX h9) d13a (gd_run hX d13b (gd_hold tells_any d13c (gd_run hX d13e (g0 (Nat.zero_le _)))))

end Go.Proofs.YtegafdkhbgojcaaGreatDoor.Ek
