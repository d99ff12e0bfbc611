/- The statement ClusterDelivers: ticks, from one to the next. No condition. -/
import Derived.Test.YtegafdkhbgojcaaGreatDoorCDS0
set_option linter.unusedVariables false
set_option maxRecDepth 100000
namespace Go.Proofs.YtegafdkhbgojcaaGreatDoor.Ek
open Go.Proofs.YtegafdkhbgojcaaGreatDoor.Ex
theorem cdp3 : cdQ (cdA0 (.x 9) (.x 7)) cdt3 4067 = true := by kernel_rfl
theorem cdk0 : cdK exAny (cdGW0 (.x 9)) (cdGX0 (.x 9)) (cdHW0 (.x 9)) (cdHp0 (.x 9) 0 0 0) 68974 52279 = true := by kernel_rfl
theorem cdh0 : cdH 0 cdIA (cdG0 (.x 9)) (cdHp0 (.x 9) 0 0 0) 52276 (cdX0 (.x 9)) (cdB0 (.x 9)) = true := by kernel_rfl
theorem cdq0 : cdQ (cdA1 (.x 9) (.x 7)) (cdB0 (.x 9)) 287 = true := by kernel_rfl
theorem cdk1 : cdK exAny (cdGW0 (.x 9)) (cdGX1 (.x 9)) (cdHW0 (.x 9)) (cdHp0 (.x 9) 1 0 0) 68974 52756 = true := by kernel_rfl
theorem cdh1 : cdH 1 cdIA (cdG1 (.x 9)) (cdHp0 (.x 9) 1 0 0) 52753 (cdX1 (.x 9)) (cdB1 (.x 9)) = true := by kernel_rfl
theorem cdq1 : cdQ (cdA2 (.x 9) (.x 7)) (cdB1 (.x 9)) 287 = true := by kernel_rfl
theorem cdk2 : cdK exAny (cdGW0 (.x 9)) (cdGX2 (.x 9)) (cdHW0 (.x 9)) (cdHp0 (.x 9) 1 1 0) 68974 53233 = true := by kernel_rfl
theorem cdh2 : cdH 2 cdIA (cdG2 (.x 9)) (cdHp0 (.x 9) 1 1 0) 53230 (cdX2 (.x 9)) (cdB2 (.x 9)) = true := by kernel_rfl
theorem cdq2 : cdQ (cdA3 (.x 9) (.x 7)) (cdB2 (.x 9)) 287 = true := by kernel_rfl
theorem cdk3 : cdK exAny (cdGW0 (.x 9)) (cdGX3 (.x 9)) (cdHW0 (.x 9)) (cdHp0 (.x 9) 1 1 1) 68974 53710 = true := by kernel_rfl
theorem cdh3 : cdH 3 cdIA (cdG3 (.x 9)) (cdHp0 (.x 9) 1 1 1) 53707 (cdX3 (.x 9)) (cdB3 (.x 9)) = true := by kernel_rfl
theorem cdq3 : cdQ (cdA4 (.x 9) (.x 7)) (cdB3 (.x 9)) 287 = true := by kernel_rfl
theorem cdk4 : cdK exAny (cdGW0 (.x 9)) (cdGX4 (.x 9)) (cdHW0 (.x 9)) (cdHp0 (.x 9) 2 1 1) 68974 54187 = true := by kernel_rfl
theorem cdh4 : cdH 4 cdIA (cdG4 (.x 9)) (cdHp0 (.x 9) 2 1 1) 54184 (cdX4 (.x 9)) (cdB4 (.x 9)) = true := by kernel_rfl
theorem cdq4 : cdQ (cdA5 (.x 9) (.x 7)) (cdB4 (.x 9)) 287 = true := by kernel_rfl
theorem cdk5 : cdK exAny (cdGW0 (.x 9)) (cdGX5 (.x 9)) (cdHW0 (.x 9)) (cdHp0 (.x 9) 2 2 1) 68974 54664 = true := by kernel_rfl
theorem cdh5 : cdH 5 cdIA (cdG5 (.x 9)) (cdHp0 (.x 9) 2 2 1) 54661 (cdX5 (.x 9)) (cdB5 (.x 9)) = true := by kernel_rfl
theorem cdq5 : cdQ (cdA6 (.x 9) (.x 7)) (cdB5 (.x 9)) 287 = true := by kernel_rfl
theorem cdk6 : cdK exAny (cdGW0 (.x 9)) (cdGX6 (.x 9)) (cdHW0 (.x 9)) (cdHp0 (.x 9) 2 2 2) 68974 55141 = true := by kernel_rfl
theorem cdh6 : cdH 6 cdIA (cdG6 (.x 9)) (cdHp0 (.x 9) 2 2 2) 55138 (cdX6 (.x 9)) (cdB6 (.x 9)) = true := by kernel_rfl
theorem cdq6 : cdQ (cdA7 (.x 9) (.x 7)) (cdB6 (.x 9)) 287 = true := by kernel_rfl
theorem cdk7 : cdK exAny (cdGW0 (.x 9)) (cdGX7 (.x 9)) (cdHW0 (.x 9)) (cdHp0 (.x 9) 3 2 2) 68974 55618 = true := by kernel_rfl
theorem cdh7 : cdH 7 cdIA (cdG7 (.x 9)) (cdHp0 (.x 9) 3 2 2) 55615 (cdX7 (.x 9)) (cdB7 (.x 9)) = true := by kernel_rfl
theorem cdq7 : cdQ (cdA8 (.x 9) (.x 7)) (cdB7 (.x 9)) 287 = true := by kernel_rfl
theorem cdk8 : cdK exAny (cdGW0 (.x 9)) (cdGX8 (.x 9)) (cdHW0 (.x 9)) (cdHp0 (.x 9) 3 3 2) 68974 56095 = true := by kernel_rfl
theorem cdh8 : cdH 8 cdIA (cdG8 (.x 9)) (cdHp0 (.x 9) 3 3 2) 56092 (cdX8 (.x 9)) (cdB8 (.x 9)) = true := by kernel_rfl
theorem cdq8 : cdQ (cdA9 (.x 9) (.x 7)) (cdB8 (.x 9)) 287 = true := by kernel_rfl
theorem cdk9 : cdK exAny (cdGW0 (.x 9)) (cdGX9 (.x 9)) (cdHW0 (.x 9)) (cdHp0 (.x 9) 3 3 3) 68974 56572 = true := by kernel_rfl
theorem cdh9 : cdH 9 cdIA (cdG9 (.x 9)) (cdHp0 (.x 9) 3 3 3) 56569 (cdX9 (.x 9)) (cdB9 (.x 9)) = true := by kernel_rfl
theorem cdq9 : cdQ (cdA10 (.x 9) (.x 7)) (cdB9 (.x 9)) 287 = true := by kernel_rfl
theorem cdk10 : cdK exAny (cdGW0 (.x 9)) (cdGX10 (.x 9)) (cdHW0 (.x 9)) (cdHp0 (.x 9) 4 3 3) 68974 57049 = true := by kernel_rfl
theorem cdh10 : cdH 10 cdIA (cdG10 (.x 9)) (cdHp0 (.x 9) 4 3 3) 57046 (cdX10 (.x 9)) (cdB10 (.x 9)) = true := by kernel_rfl
theorem cdq10 : cdQ (cdA11 (.x 9) (.x 7)) (cdB10 (.x 9)) 287 = true := by kernel_rfl
theorem cdk11 : cdK exAny (cdGW0 (.x 9)) (cdGX11 (.x 9)) (cdHW0 (.x 9)) (cdHp0 (.x 9) 4 4 3) 68974 57526 = true := by kernel_rfl
theorem cdh11 : cdH 11 cdIA (cdG11 (.x 9)) (cdHp0 (.x 9) 4 4 3) 57523 (cdX11 (.x 9)) (cdB11 (.x 9)) = true := by kernel_rfl
theorem cdq11 : cdQ (cdA12 (.x 9) (.x 7)) (cdB11 (.x 9)) 287 = true := by kernel_rfl
theorem cdk12 : cdK exAny (cdGW0 (.x 9)) (cdGX12 (.x 9)) (cdHW0 (.x 9)) (cdHp0 (.x 9) 4 4 4) 68974 58003 = true := by kernel_rfl
theorem cdh12 : cdH 12 cdIA (cdG12 (.x 9)) (cdHp0 (.x 9) 4 4 4) 58000 (cdX12 (.x 9)) (cdB12 (.x 9)) = true := by kernel_rfl
theorem cdq12 : cdQ (cdA13 (.x 9) (.x 7)) (cdB12 (.x 9)) 287 = true := by kernel_rfl
theorem cdk13 : cdK exAny (cdGW0 (.x 9)) (cdGX13 (.x 9)) (cdHW0 (.x 9)) (cdHp0 (.x 9) 5 4 4) 68974 58480 = true := by kernel_rfl
theorem cdh13 : cdH 13 cdIA (cdG13 (.x 9)) (cdHp0 (.x 9) 5 4 4) 58477 (cdX13 (.x 9)) (cdB13 (.x 9)) = true := by kernel_rfl
theorem cdq13 : cdQ (cdA14 (.x 9) (.x 7)) (cdB13 (.x 9)) 287 = true := by kernel_rfl
theorem cdk14 : cdK exAny (cdGW0 (.x 9)) (cdGX14 (.x 9)) (cdHW0 (.x 9)) (cdHp0 (.x 9) 5 5 4) 68974 58957 = true := by kernel_rfl
theorem cdh14 : cdH 14 cdIA (cdG14 (.x 9)) (cdHp0 (.x 9) 5 5 4) 58954 (cdX14 (.x 9)) (cdB14 (.x 9)) = true := by kernel_rfl
theorem cdq14 : cdQ (cdA15 (.x 9) (.x 7)) (cdB14 (.x 9)) 287 = true := by kernel_rfl
theorem cdk15 : cdK exAny (cdGW0 (.x 9)) (cdGX15 (.x 9)) (cdHW0 (.x 9)) (cdHp0 (.x 9) 5 5 5) 68974 59434 = true := by kernel_rfl
theorem cdh15 : cdH 15 cdIA (cdG15 (.x 9)) (cdHp0 (.x 9) 5 5 5) 59431 (cdX15 (.x 9)) (cdB15 (.x 9)) = true := by kernel_rfl
theorem cdq15 : cdQ (cdA16 (.x 9) (.x 7)) (cdB15 (.x 9)) 287 = true := by kernel_rfl

end Go.Proofs.YtegafdkhbgojcaaGreatDoor.Ek
