/- The statement ClusterDelivers: ticks, from one to the next. No condition. -/
import Derived.Test.YtegafdkhbgojcaaGreatDoorCDS
set_option linter.unusedVariables false
set_option maxRecDepth 100000
namespace Go.Proofs.YtegafdkhbgojcaaGreatDoor.Ek
open Go.Proofs.YtegafdkhbgojcaaGreatDoor.Ex
theorem cdk35 : cdK exAny (cdGW0 (.x 9)) (cdGX35 (.x 9)) (cdHW0 (.x 9)) (cdHp0 (.x 9) 12 12 11) 68974 68974 = true := by kernel_rfl
theorem cdh35 : cdH 35 cdIA (cdG35 (.x 9)) (cdHp0 (.x 9) 12 12 11) 68971 (cdX35 (.x 9)) (cdB35 (.x 9)) = true := by kernel_rfl
theorem cda35d0 : cdK (exX 9 (.ofNat 0)) (cdGB35 (cI 0)) (cdGB35 (.x 9)) (cdHp0 (cI 0) 12 12 11) (cdHp0 (.x 9) 12 12 11) 68974 68974 = true := by kernel_rfl
theorem cdr35d0 : cdQ (cdA36 (cI 0) (.x 7)) (cdB35 (cI 0)) 2266 = true := by kernel_rfl
theorem cdz35d0 : cdK (exX 9 (.ofNat 0)) (cdG36 (.x 9) (.x 7)) (cdG36 (cI 0) (.x 7)) (cdHp1 (.x 9)) (cdHp1 (cI 0)) 71927 71927 = true := by kernel_rfl
theorem cda35d1 : cdK (exX 9 (.ofNat 1)) (cdGB35 (cI 1)) (cdGB35 (.x 9)) (cdHp0 (cI 1) 12 12 11) (cdHp0 (.x 9) 12 12 11) 68974 68974 = true := by kernel_rfl
theorem cdr35d1 : cdQ (cdA36 (cI 1) (.x 7)) (cdB35 (cI 1)) 2266 = true := by kernel_rfl
theorem cdz35d1 : cdK (exX 9 (.ofNat 1)) (cdG36 (.x 9) (.x 7)) (cdG36 (cI 1) (.x 7)) (cdHp1 (.x 9)) (cdHp1 (cI 1)) 71927 71927 = true := by kernel_rfl
theorem cda35d2 : cdK (exX 9 (.ofNat 2)) (cdGB35 (cI 2)) (cdGB35 (.x 9)) (cdHp0 (cI 2) 12 12 11) (cdHp0 (.x 9) 12 12 11) 68974 68974 = true := by kernel_rfl
theorem cdr35d2 : cdQ (cdA36 (cI 2) (.x 7)) (cdB35 (cI 2)) 2266 = true := by kernel_rfl
theorem cdz35d2 : cdK (exX 9 (.ofNat 2)) (cdG36 (.x 9) (.x 7)) (cdG36 (cI 2) (.x 7)) (cdHp1 (.x 9)) (cdHp1 (cI 2)) 71927 71927 = true := by kernel_rfl
theorem cda35d3 : cdK (exX 9 (.ofNat 3)) (cdGB35 (cI 3)) (cdGB35 (.x 9)) (cdHp0 (cI 3) 12 12 11) (cdHp0 (.x 9) 12 12 11) 68974 68974 = true := by kernel_rfl
theorem cdr35d3 : cdQ (cdA36 (cI 3) (.x 7)) (cdB35 (cI 3)) 2266 = true := by kernel_rfl
theorem cdz35d3 : cdK (exX 9 (.ofNat 3)) (cdG36 (.x 9) (.x 7)) (cdG36 (cI 3) (.x 7)) (cdHp1 (.x 9)) (cdHp1 (cI 3)) 71927 71927 = true := by kernel_rfl
theorem cdk36 : cdK exAny (cdGW1 (.x 9)) (cdGX36 (.x 9)) (cdHW1 (.x 9)) (cdHp1 (.x 9)) 71930 71930 = true := by kernel_rfl
theorem cdh36 : cdH 36 cdIA (cdG36 (.x 9)) (cdHp1 (.x 9)) 71927 (cdX36 (.x 9)) (cdB36 (.x 9)) = true := by kernel_rfl
theorem cda36d0 : cdK (exX 9 (.ofNat 0)) (cdGB36 (cI 0)) (cdGB36 (.x 9)) (cdHp1 (cI 0)) (cdHp1 (.x 9)) 71930 71930 = true := by kernel_rfl
theorem cdr36d0 : cdQ (cdA37 (cI 0) (.x 7)) (cdB36 (cI 0)) 2276 = true := by kernel_rfl
theorem cdz36d0 : cdK (exX 9 (.ofNat 0)) (cdG37 (.x 9) (.x 7)) (cdG37 (cI 0) (.x 7)) (cdHp2 (.x 9) 0 13 12 0 12) (cdHp2 (cI 0) 0 13 12 0 12) 74907 74907 = true := by kernel_rfl
theorem cda36d1 : cdK (exX 9 (.ofNat 1)) (cdGB36 (cI 1)) (cdGB36 (.x 9)) (cdHp1 (cI 1)) (cdHp1 (.x 9)) 71930 71930 = true := by kernel_rfl
theorem cdr36d1 : cdQ (cdA37 (cI 1) (.x 7)) (cdB36 (cI 1)) 2276 = true := by kernel_rfl
theorem cdz36d1 : cdK (exX 9 (.ofNat 1)) (cdG37 (.x 9) (.x 7)) (cdG37 (cI 1) (.x 7)) (cdHp2 (.x 9) 0 13 12 0 12) (cdHp2 (cI 1) 0 13 12 0 12) 74907 74907 = true := by kernel_rfl
theorem cda36d2 : cdK (exX 9 (.ofNat 2)) (cdGB36 (cI 2)) (cdGB36 (.x 9)) (cdHp1 (cI 2)) (cdHp1 (.x 9)) 71930 71930 = true := by kernel_rfl
theorem cdr36d2 : cdQ (cdA37 (cI 2) (.x 7)) (cdB36 (cI 2)) 2276 = true := by kernel_rfl
theorem cdz36d2 : cdK (exX 9 (.ofNat 2)) (cdG37 (.x 9) (.x 7)) (cdG37 (cI 2) (.x 7)) (cdHp2 (.x 9) 0 13 12 0 12) (cdHp2 (cI 2) 0 13 12 0 12) 74907 74907 = true := by kernel_rfl
theorem cda36d3 : cdK (exX 9 (.ofNat 3)) (cdGB36 (cI 3)) (cdGB36 (.x 9)) (cdHp1 (cI 3)) (cdHp1 (.x 9)) 71930 71930 = true := by kernel_rfl
theorem cdr36d3 : cdQ (cdA37 (cI 3) (.x 7)) (cdB36 (cI 3)) 2276 = true := by kernel_rfl
theorem cdz36d3 : cdK (exX 9 (.ofNat 3)) (cdG37 (.x 9) (.x 7)) (cdG37 (cI 3) (.x 7)) (cdHp2 (.x 9) 0 13 12 0 12) (cdHp2 (cI 3) 0 13 12 0 12) 74907 74907 = true := by kernel_rfl
theorem cdk37 : cdK exAny (cdGW2 (.x 9)) (cdGX37 (.x 9)) (cdHW2 (.x 9)) (cdHp2 (.x 9) 0 13 12 0 12) 82065 74910 = true := by kernel_rfl
theorem cdh37 : cdH 37 cdIA (cdG37 (.x 9)) (cdHp2 (.x 9) 0 13 12 0 12) 74907 (cdX37 (.x 9)) (cdB37 (.x 9)) = true := by kernel_rfl
theorem cdq37 : cdQ (cdA38 (.x 9) (.x 7)) (cdB37 (.x 9)) 287 = true := by kernel_rfl
theorem cdk38 : cdK exAny (cdGW2 (.x 9)) (cdGX38 (.x 9)) (cdHW2 (.x 9)) (cdHp2 (.x 9) 0 13 13 0 12) 82065 75387 = true := by kernel_rfl
theorem cdh38 : cdH 38 cdIA (cdG38 (.x 9)) (cdHp2 (.x 9) 0 13 13 0 12) 75384 (cdX38 (.x 9)) (cdB38 (.x 9)) = true := by kernel_rfl
theorem cdq38 : cdQ (cdA39 (.x 9) (.x 7)) (cdB38 (.x 9)) 287 = true := by kernel_rfl
theorem cdk39 : cdK exAny (cdGW2 (.x 9)) (cdGX39 (.x 9)) (cdHW2 (.x 9)) (cdHp2 (.x 9) 0 13 13 1 13) 82065 75864 = true := by kernel_rfl
theorem cdh39 : cdH 39 cdIA (cdG39 (.x 9)) (cdHp2 (.x 9) 0 13 13 1 13) 75861 (cdX39 (.x 9)) (cdB39 (.x 9)) = true := by kernel_rfl
theorem cdq39 : cdQ (cdA40 (.x 9) (.x 7)) (cdB39 (.x 9)) 287 = true := by kernel_rfl
theorem cdk40 : cdK exAny (cdGW2 (.x 9)) (cdGX40 (.x 9)) (cdHW2 (.x 9)) (cdHp2 (.x 9) 1 14 13 1 13) 82065 76341 = true := by kernel_rfl
theorem cdh40 : cdH 40 cdIA (cdG40 (.x 9)) (cdHp2 (.x 9) 1 14 13 1 13) 76338 (cdX40 (.x 9)) (cdB40 (.x 9)) = true := by kernel_rfl
theorem cdq40 : cdQ (cdA41 (.x 9) (.x 7)) (cdB40 (.x 9)) 287 = true := by kernel_rfl
theorem cdk41 : cdK exAny (cdGW2 (.x 9)) (cdGX41 (.x 9)) (cdHW2 (.x 9)) (cdHp2 (.x 9) 1 14 14 1 13) 82065 76818 = true := by kernel_rfl
theorem cdh41 : cdH 41 cdIA (cdG41 (.x 9)) (cdHp2 (.x 9) 1 14 14 1 13) 76815 (cdX41 (.x 9)) (cdB41 (.x 9)) = true := by kernel_rfl
theorem cdq41 : cdQ (cdA42 (.x 9) (.x 7)) (cdB41 (.x 9)) 287 = true := by kernel_rfl
theorem cdk42 : cdK exAny (cdGW2 (.x 9)) (cdGX42 (.x 9)) (cdHW2 (.x 9)) (cdHp2 (.x 9) 1 14 14 2 14) 82065 77295 = true := by kernel_rfl
theorem cdh42 : cdH 42 cdIA (cdG42 (.x 9)) (cdHp2 (.x 9) 1 14 14 2 14) 77292 (cdX42 (.x 9)) (cdB42 (.x 9)) = true := by kernel_rfl
theorem cdq42 : cdQ (cdA43 (.x 9) (.x 7)) (cdB42 (.x 9)) 287 = true := by kernel_rfl
theorem cdk43 : cdK exAny (cdGW2 (.x 9)) (cdGX43 (.x 9)) (cdHW2 (.x 9)) (cdHp2 (.x 9) 2 15 14 2 14) 82065 77772 = true := by kernel_rfl
theorem cdh43 : cdH 43 cdIA (cdG43 (.x 9)) (cdHp2 (.x 9) 2 15 14 2 14) 77769 (cdX43 (.x 9)) (cdB43 (.x 9)) = true := by kernel_rfl
theorem cdq43 : cdQ (cdA44 (.x 9) (.x 7)) (cdB43 (.x 9)) 287 = true := by kernel_rfl
theorem cdk44 : cdK exAny (cdGW2 (.x 9)) (cdGX44 (.x 9)) (cdHW2 (.x 9)) (cdHp2 (.x 9) 2 15 15 2 14) 82065 78249 = true := by kernel_rfl
theorem cdh44 : cdH 44 cdIA (cdG44 (.x 9)) (cdHp2 (.x 9) 2 15 15 2 14) 78246 (cdX44 (.x 9)) (cdB44 (.x 9)) = true := by kernel_rfl
theorem cdq44 : cdQ (cdA45 (.x 9) (.x 7)) (cdB44 (.x 9)) 287 = true := by kernel_rfl

end Go.Proofs.YtegafdkhbgojcaaGreatDoor.Ek
