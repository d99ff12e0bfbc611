/- The statement ClusterDelivers with 4 letters, due behind 0: the runs. No condition. -/
import Derived.Test.YtegafdkhbgojcaaGreatDoorCDC2
set_option linter.unusedVariables false
set_option maxRecDepth 100000
namespace Go.Proofs.YtegafdkhbgojcaaGreatDoor.Ek
open Go.Proofs.YtegafdkhbgojcaaGreatDoor.Ex
theorem d20a : cdK (exX 9 (.ofNat 0)) (cdGW2 (cI 0)) (cdGW2 (.x 9)) (cdHW2 (cI 0)) (cdHW2 (.x 9)) 82065 82065 = true := by kernel_rfl
theorem d20b : cdQ (.mk 10 cdIP2 cdGa2d0 (cdHP2 (cI 0)) 82090 []) (cdWs2 (cI 0)) 28 = true := by kernel_rfl
theorem d20c : cdK exAny (cdGP2 (cI 0)) cdGa2d0 (cdHP2 (cI 0)) (cdHP2 (cI 0)) 82200 82090 = true := by kernel_rfl
theorem d20e : cdQ (cdV2j0 0 (.x 8)) (.mk 10 cdIP2 (cdGP2 (cI 0)) (cdHP2 (cI 0)) 82200 []) 10 = true := by kernel_rfl
theorem d20l0 : cdL 0 (cdV2j0 0) (cdVB2j0 0) = true := by kernel_rfl
theorem d20q0 : cdQ (cdV2j1 0 (.x 8)) (cdVB2j0 0) 788 = true := by kernel_rfl
theorem d20l1 : cdL 1 (cdV2j1 0) (cdVB2j1 0) = true := by kernel_rfl
theorem d20q1 : cdQ (cdV2j2 0 (.x 8)) (cdVB2j1 0) 3989 = true := by kernel_rfl
theorem d20l2 : cdL 2 (cdV2j2 0) (cdVB2j2 0) = true := by kernel_rfl
theorem d20q2 : cdQ (cdV2j3 0 (.x 8)) (cdVB2j2 0) 787 = true := by kernel_rfl
theorem d20l3 : cdL 3 (cdV2j3 0) (cdVB2j3 0) = true := by kernel_rfl
theorem d20q3 : cdQ (cdV2j4 0 (.x 8)) (cdVB2j3 0) 789 = true := by kernel_rfl
theorem d20l4 : cdE 4 (cdV2j4 0) = true := by kernel_rfl
theorem d20 {X : Nat → Value} (hX : XOk X) {m : Nat} (h8 : X 8 = .int .i64 (Int.ofNat m)) (hm : m < 8) (h9 : X 9 = .int .i64 (Int.ofNat 0)) : GD X (cdWs2 (.x 9)) := by
  have g4 : 4 ≤ m → GD X (cdV2j4 0 (.x 8)) := fun h => gd_vlast hX h8 hm h d20l4
  have g3 : 3 ≤ m → GD X (cdV2j3 0 (.x 8)) := fun h => gd_vstep hX h8 hm h d20l3 fun h2 => gd_run hX d20q3 (g4 h2)
  have g2 : 2 ≤ m → GD X (cdV2j2 0 (.x 8)) := fun h => gd_vstep hX h8 hm h d20l2 fun h2 => gd_run hX d20q2 (g3 h2)
  have g1 : 1 ≤ m → GD X (cdV2j1 0 (.x 8)) := fun h => gd_vstep hX h8 hm h d20l1 fun h2 => gd_run hX d20q1 (g2 h2)
  have g0 : 0 ≤ m → GD X (cdV2j0 0 (.x 8)) := fun h => gd_vstep hX h8 hm h d20l0 fun h2 => gd_run hX d20q0 (g1 h2)
  exact gd_hold (tells_exX h9) d20a (gd_run hX d20b (gd_hold tells_any d20c (gd_run hX d20e (g0 (Nat.zero_le _)))))
theorem d21a : cdK (exX 9 (.ofNat 1)) (cdGW2 (cI 1)) (cdGW2 (.x 9)) (cdHW2 (cI 1)) (cdHW2 (.x 9)) 82065 82065 = true := by kernel_rfl
theorem d21b : cdQ (.mk 10 cdIP2 cdGa2d1 (cdHP2 (cI 1)) 82160 []) (cdWs2 (cI 1)) 86 = true := by kernel_rfl
theorem d21c : cdK exAny (cdGP2 (cI 1)) cdGa2d1 (cdHP2 (cI 1)) (cdHP2 (cI 1)) 82200 82160 = true := by kernel_rfl
theorem d21e : cdQ (cdV2j0 1 (.x 8)) (.mk 10 cdIP2 (cdGP2 (cI 1)) (cdHP2 (cI 1)) 82200 []) 10 = true := by kernel_rfl
theorem d21l0 : cdL 0 (cdV2j0 1) (cdVB2j0 1) = true := by kernel_rfl
theorem d21q0 : cdQ (cdV2j1 1 (.x 8)) (cdVB2j0 1) 788 = true := by kernel_rfl
theorem d21l1 : cdL 1 (cdV2j1 1) (cdVB2j1 1) = true := by kernel_rfl
theorem d21q1 : cdQ (cdV2j2 1 (.x 8)) (cdVB2j1 1) 3989 = true := by kernel_rfl
theorem d21l2 : cdL 2 (cdV2j2 1) (cdVB2j2 1) = true := by kernel_rfl
theorem d21q2 : cdQ (cdV2j3 1 (.x 8)) (cdVB2j2 1) 787 = true := by kernel_rfl
theorem d21l3 : cdL 3 (cdV2j3 1) (cdVB2j3 1) = true := by kernel_rfl
theorem d21q3 : cdQ (cdV2j4 1 (.x 8)) (cdVB2j3 1) 789 = true := by kernel_rfl
theorem d21l4 : cdE 4 (cdV2j4 1) = true := by kernel_rfl
theorem d21 {X : Nat → Value} (hX : XOk X) {m : Nat} (h8 : X 8 = .int .i64 (Int.ofNat m)) (hm : m < 8) (h9 : X 9 = .int .i64 (Int.ofNat 1)) : GD X (cdWs2 (.x 9)) := by
  have g4 : 4 ≤ m → GD X (cdV2j4 1 (.x 8)) := fun h => gd_vlast hX h8 hm h d21l4
  have g3 : 3 ≤ m → GD X (cdV2j3 1 (.x 8)) := fun h => gd_vstep hX h8 hm h d21l3 fun h2 => gd_run hX d21q3 (g4 h2)
  have g2 : 2 ≤ m → GD X (cdV2j2 1 (.x 8)) := fun h => gd_vstep hX h8 hm h d21l2 fun h2 => gd_run hX d21q2 (g3 h2)
  have g1 : 1 ≤ m → GD X (cdV2j1 1 (.x 8)) := fun h => gd_vstep hX h8 hm h d21l1 fun h2 => gd_run hX d21q1 (g2 h2)
  have g0 : 0 ≤ m → GD X (cdV2j0 1 (.x 8)) := fun h => gd_vstep hX h8 hm h d21l0 fun h2 => gd_run hX d21q0 (g1 h2)
  exact gd_hold (tells_exX h9) d21a (gd_run hX d21b (gd_hold tells_any d21c (gd_run hX d21e (g0 (Nat.zero_le _)))))

end Go.Proofs.YtegafdkhbgojcaaGreatDoor.Ek
