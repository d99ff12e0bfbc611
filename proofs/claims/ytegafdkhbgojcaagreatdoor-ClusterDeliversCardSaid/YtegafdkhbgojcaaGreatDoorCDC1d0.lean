/- The statement ClusterDelivers with 2 letters, due behind 0: the runs. No condition. -/
import Derived.Test.YtegafdkhbgojcaaGreatDoorCDC1
set_option linter.unusedVariables false
set_option maxRecDepth 100000
namespace Go.Proofs.YtegafdkhbgojcaaGreatDoor.Ek
open Go.Proofs.YtegafdkhbgojcaaGreatDoor.Ex
theorem d10a : cdK (exX 9 (.ofNat 0)) (cdGW1 (cI 0)) (cdGW1 (.x 9)) (cdHW1 (cI 0)) (cdHW1 (.x 9)) 71930 71930 = true := by kernel_rfl
theorem d10b : cdQ (.mk 10 cdIP1 cdGa1d0 (cdHP1 (cI 0)) 71955 []) (cdWs1 (cI 0)) 28 = true := by kernel_rfl
theorem d10c : cdK exAny (cdGP1 (cI 0)) cdGa1d0 (cdHP1 (cI 0)) (cdHP1 (cI 0)) 72065 71955 = true := by kernel_rfl
theorem d10e : cdQ (cdV1j0 0 (.x 8)) (.mk 10 cdIP1 (cdGP1 (cI 0)) (cdHP1 (cI 0)) 72065 []) 10 = true := by kernel_rfl
theorem d10l0 : cdL 0 (cdV1j0 0) (cdVB1j0 0) = true := by kernel_rfl
theorem d10q0 : cdQ (cdV1j1 0 (.x 8)) (cdVB1j0 0) 3941 = true := by kernel_rfl
theorem d10l1 : cdL 1 (cdV1j1 0) (cdVB1j1 0) = true := by kernel_rfl
theorem d10q1 : cdQ (cdV1j2 0 (.x 8)) (cdVB1j1 0) 3942 = true := by kernel_rfl
theorem d10l2 : cdE 2 (cdV1j2 0) = true := by kernel_rfl
theorem d10 {X : Nat → Value} (hX : XOk X) {m : Nat} (h8 : X 8 = .int .i64 (Int.ofNat m)) (hm : m < 8) (h9 : X 9 = .int .i64 (Int.ofNat 0)) : GD X (cdWs1 (.x 9)) := by
  have g2 : 2 ≤ m → GD X (cdV1j2 0 (.x 8)) := fun h => gd_vlast hX h8 hm h d10l2
  have g1 : 1 ≤ m → GD X (cdV1j1 0 (.x 8)) := fun h => gd_vstep hX h8 hm h d10l1 fun h2 => gd_run hX d10q1 (g2 h2)
  have g0 : 0 ≤ m → GD X (cdV1j0 0 (.x 8)) := fun h => gd_vstep hX h8 hm h d10l0 fun h2 => gd_run hX d10q0 (g1 h2)
  exact gd_hold (tells_exX h9) d10a (gd_run hX d10b (gd_hold tells_any d10c (gd_run hX d10e (g0 (Nat.zero_le _)))))
theorem d11a : cdK (exX 9 (.ofNat 1)) (cdGW1 (cI 1)) (cdGW1 (.x 9)) (cdHW1 (cI 1)) (cdHW1 (.x 9)) 71930 71930 = true := by kernel_rfl
theorem d11b : cdQ (.mk 10 cdIP1 cdGa1d1 (cdHP1 (cI 1)) 72025 []) (cdWs1 (cI 1)) 86 = true := by kernel_rfl
theorem d11c : cdK exAny (cdGP1 (cI 1)) cdGa1d1 (cdHP1 (cI 1)) (cdHP1 (cI 1)) 72065 72025 = true := by kernel_rfl
theorem d11e : cdQ (cdV1j0 1 (.x 8)) (.mk 10 cdIP1 (cdGP1 (cI 1)) (cdHP1 (cI 1)) 72065 []) 10 = true := by kernel_rfl
theorem d11l0 : cdL 0 (cdV1j0 1) (cdVB1j0 1) = true := by kernel_rfl
theorem d11q0 : cdQ (cdV1j1 1 (.x 8)) (cdVB1j0 1) 3941 = true := by kernel_rfl
theorem d11l1 : cdL 1 (cdV1j1 1) (cdVB1j1 1) = true := by kernel_rfl
theorem d11q1 : cdQ (cdV1j2 1 (.x 8)) (cdVB1j1 1) 3942 = true := by kernel_rfl
theorem d11l2 : cdE 2 (cdV1j2 1) = true := by kernel_rfl
theorem d11 {X : Nat → Value} (hX : XOk X) {m : Nat} (h8 : X 8 = .int .i64 (Int.ofNat m)) (hm : m < 8) (h9 : X 9 = .int .i64 (Int.ofNat 1)) : GD X (cdWs1 (.x 9)) := by
  have g2 : 2 ≤ m → GD X (cdV1j2 1 (.x 8)) := fun h => gd_vlast hX h8 hm h d11l2
  have g1 : 1 ≤ m → GD X (cdV1j1 1 (.x 8)) := fun h => gd_vstep hX h8 hm h d11l1 fun h2 => gd_run hX d11q1 (g2 h2)
  have g0 : 0 ≤ m → GD X (cdV1j0 1 (.x 8)) := fun h => gd_vstep hX h8 hm h d11l0 fun h2 => gd_run hX d11q0 (g1 h2)
  exact gd_hold (tells_exX h9) d11a (gd_run hX d11b (gd_hold tells_any d11c (gd_run hX d11e (g0 (Nat.zero_le _)))))

end Go.Proofs.YtegafdkhbgojcaaGreatDoor.Ek
