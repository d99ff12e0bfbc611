/- The statement ClusterDelivers with 2 letters, due behind 2: the runs. No condition. -/
import Derived.Test.YtegafdkhbgojcaaGreatDoorCDC1
set_option linter.unusedVariables false
set_option maxRecDepth 100000
namespace Go.Proofs.YtegafdkhbgojcaaGreatDoor.Ek
open Go.Proofs.YtegafdkhbgojcaaGreatDoor.Ex
theorem d12a : cdK (exX 9 (.ofNat 2)) (cdGW1 (cI 2)) (cdGW1 (.x 9)) (cdHW1 (cI 2)) (cdHW1 (.x 9)) 71930 71930 = true := by kernel_rfl
theorem d12b : cdQ (.mk 10 cdIP1 cdGa1d2 (cdHP1 (cI 2)) 72045 []) (cdWs1 (cI 2)) 102 = true := by kernel_rfl
theorem d12c : cdK exAny (cdGP1 (cI 2)) cdGa1d2 (cdHP1 (cI 2)) (cdHP1 (cI 2)) 72065 72045 = true := by kernel_rfl
theorem d12e : cdQ (cdV1j0 2 (.x 8)) (.mk 10 cdIP1 (cdGP1 (cI 2)) (cdHP1 (cI 2)) 72065 []) 10 = true := by kernel_rfl
theorem d12l0 : cdL 0 (cdV1j0 2) (cdVB1j0 2) = true := by kernel_rfl
theorem d12q0 : cdQ (cdV1j1 2 (.x 8)) (cdVB1j0 2) 3941 = true := by kernel_rfl
theorem d12l1 : cdL 1 (cdV1j1 2) (cdVB1j1 2) = true := by kernel_rfl
theorem d12q1 : cdQ (cdV1j2 2 (.x 8)) (cdVB1j1 2) 3942 = true := by kernel_rfl
theorem d12l2 : cdE 2 (cdV1j2 2) = true := by kernel_rfl
theorem d12 {X : Nat → Value} (hX : XOk X) {m : Nat} (h8 : X 8 = .int .i64 (Int.ofNat m)) (hm : m < 8) (h9 : X 9 = .int .i64 (Int.ofNat 2)) : GD X (cdWs1 (.x 9)) := by
  have g2 : 2 ≤ m → GD X (cdV1j2 2 (.x 8)) := fun h => gd_vlast hX h8 hm h d12l2
  have g1 : 1 ≤ m → GD X (cdV1j1 2 (.x 8)) := fun h => gd_vstep hX h8 hm h d12l1 fun h2 => gd_run hX d12q1 (g2 h2)
  have g0 : 0 ≤ m → GD X (cdV1j0 2 (.x 8)) := fun h => gd_vstep hX h8 hm h d12l0 fun h2 => gd_run hX d12q0 (g1 h2)
  exact gd_hold (tells_exX h9) d12a (gd_run hX d12b (gd_hold tells_any d12c (gd_run hX d12e (g0 (Nat.zero_le _)))))

end Go.Proofs.YtegafdkhbgojcaaGreatDoor.Ek
