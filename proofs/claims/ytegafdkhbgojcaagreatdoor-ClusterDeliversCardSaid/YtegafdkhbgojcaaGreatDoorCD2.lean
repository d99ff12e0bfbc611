/- The statement ClusterDelivers: ticks, from one to the next. No condition. -/
import Derived.Test.YtegafdkhbgojcaaGreatDoorCDS0
set_option linter.unusedVariables false
set_option maxRecDepth 100000
namespace Go.Proofs.YtegafdkhbgojcaaGreatDoor.Ek
open Go.Proofs.YtegafdkhbgojcaaGreatDoor.Ex
theorem cdk16 : cdK exAny (cdGW0 (.x 9)) (cdGX16 (.x 9)) (cdHW0 (.x 9)) (cdHp0 (.x 9) 6 5 5) 68974 59911 = true := by kernel_rfl
theorem cdh16 : cdH 16 cdIA (cdG16 (.x 9)) (cdHp0 (.x 9) 6 5 5) 59908 (cdX16 (.x 9)) (cdB16 (.x 9)) = true := by kernel_rfl
theorem cdq16 : cdQ (cdA17 (.x 9) (.x 7)) (cdB16 (.x 9)) 287 = true := by kernel_rfl
theorem cdk17 : cdK exAny (cdGW0 (.x 9)) (cdGX17 (.x 9)) (cdHW0 (.x 9)) (cdHp0 (.x 9) 6 6 5) 68974 60388 = true := by kernel_rfl
theorem cdh17 : cdH 17 cdIA (cdG17 (.x 9)) (cdHp0 (.x 9) 6 6 5) 60385 (cdX17 (.x 9)) (cdB17 (.x 9)) = true := by kernel_rfl
theorem cdq17 : cdQ (cdA18 (.x 9) (.x 7)) (cdB17 (.x 9)) 287 = true := by kernel_rfl
theorem cdk18 : cdK exAny (cdGW0 (.x 9)) (cdGX18 (.x 9)) (cdHW0 (.x 9)) (cdHp0 (.x 9) 6 6 6) 68974 60865 = true := by kernel_rfl
theorem cdh18 : cdH 18 cdIA (cdG18 (.x 9)) (cdHp0 (.x 9) 6 6 6) 60862 (cdX18 (.x 9)) (cdB18 (.x 9)) = true := by kernel_rfl
theorem cdq18 : cdQ (cdA19 (.x 9) (.x 7)) (cdB18 (.x 9)) 287 = true := by kernel_rfl
theorem cdk19 : cdK exAny (cdGW0 (.x 9)) (cdGX19 (.x 9)) (cdHW0 (.x 9)) (cdHp0 (.x 9) 7 6 6) 68974 61342 = true := by kernel_rfl
theorem cdh19 : cdH 19 cdIA (cdG19 (.x 9)) (cdHp0 (.x 9) 7 6 6) 61339 (cdX19 (.x 9)) (cdB19 (.x 9)) = true := by kernel_rfl
theorem cdq19 : cdQ (cdA20 (.x 9) (.x 7)) (cdB19 (.x 9)) 287 = true := by kernel_rfl
theorem cdk20 : cdK exAny (cdGW0 (.x 9)) (cdGX20 (.x 9)) (cdHW0 (.x 9)) (cdHp0 (.x 9) 7 7 6) 68974 61819 = true := by kernel_rfl
theorem cdh20 : cdH 20 cdIA (cdG20 (.x 9)) (cdHp0 (.x 9) 7 7 6) 61816 (cdX20 (.x 9)) (cdB20 (.x 9)) = true := by kernel_rfl
theorem cdq20 : cdQ (cdA21 (.x 9) (.x 7)) (cdB20 (.x 9)) 287 = true := by kernel_rfl
theorem cdk21 : cdK exAny (cdGW0 (.x 9)) (cdGX21 (.x 9)) (cdHW0 (.x 9)) (cdHp0 (.x 9) 7 7 7) 68974 62296 = true := by kernel_rfl
theorem cdh21 : cdH 21 cdIA (cdG21 (.x 9)) (cdHp0 (.x 9) 7 7 7) 62293 (cdX21 (.x 9)) (cdB21 (.x 9)) = true := by kernel_rfl
theorem cdq21 : cdQ (cdA22 (.x 9) (.x 7)) (cdB21 (.x 9)) 287 = true := by kernel_rfl
theorem cdk22 : cdK exAny (cdGW0 (.x 9)) (cdGX22 (.x 9)) (cdHW0 (.x 9)) (cdHp0 (.x 9) 8 7 7) 68974 62773 = true := by kernel_rfl
theorem cdh22 : cdH 22 cdIA (cdG22 (.x 9)) (cdHp0 (.x 9) 8 7 7) 62770 (cdX22 (.x 9)) (cdB22 (.x 9)) = true := by kernel_rfl
theorem cdq22 : cdQ (cdA23 (.x 9) (.x 7)) (cdB22 (.x 9)) 287 = true := by kernel_rfl
theorem cdk23 : cdK exAny (cdGW0 (.x 9)) (cdGX23 (.x 9)) (cdHW0 (.x 9)) (cdHp0 (.x 9) 8 8 7) 68974 63250 = true := by kernel_rfl
theorem cdh23 : cdH 23 cdIA (cdG23 (.x 9)) (cdHp0 (.x 9) 8 8 7) 63247 (cdX23 (.x 9)) (cdB23 (.x 9)) = true := by kernel_rfl
theorem cdq23 : cdQ (cdA24 (.x 9) (.x 7)) (cdB23 (.x 9)) 287 = true := by kernel_rfl
theorem cdk24 : cdK exAny (cdGW0 (.x 9)) (cdGX24 (.x 9)) (cdHW0 (.x 9)) (cdHp0 (.x 9) 8 8 8) 68974 63727 = true := by kernel_rfl
theorem cdh24 : cdH 24 cdIA (cdG24 (.x 9)) (cdHp0 (.x 9) 8 8 8) 63724 (cdX24 (.x 9)) (cdB24 (.x 9)) = true := by kernel_rfl
theorem cdq24 : cdQ (cdA25 (.x 9) (.x 7)) (cdB24 (.x 9)) 287 = true := by kernel_rfl
theorem cdk25 : cdK exAny (cdGW0 (.x 9)) (cdGX25 (.x 9)) (cdHW0 (.x 9)) (cdHp0 (.x 9) 9 8 8) 68974 64204 = true := by kernel_rfl
theorem cdh25 : cdH 25 cdIA (cdG25 (.x 9)) (cdHp0 (.x 9) 9 8 8) 64201 (cdX25 (.x 9)) (cdB25 (.x 9)) = true := by kernel_rfl
theorem cdq25 : cdQ (cdA26 (.x 9) (.x 7)) (cdB25 (.x 9)) 287 = true := by kernel_rfl
theorem cdk26 : cdK exAny (cdGW0 (.x 9)) (cdGX26 (.x 9)) (cdHW0 (.x 9)) (cdHp0 (.x 9) 9 9 8) 68974 64681 = true := by kernel_rfl
theorem cdh26 : cdH 26 cdIA (cdG26 (.x 9)) (cdHp0 (.x 9) 9 9 8) 64678 (cdX26 (.x 9)) (cdB26 (.x 9)) = true := by kernel_rfl
theorem cdq26 : cdQ (cdA27 (.x 9) (.x 7)) (cdB26 (.x 9)) 287 = true := by kernel_rfl
theorem cdk27 : cdK exAny (cdGW0 (.x 9)) (cdGX27 (.x 9)) (cdHW0 (.x 9)) (cdHp0 (.x 9) 9 9 9) 68974 65158 = true := by kernel_rfl
theorem cdh27 : cdH 27 cdIA (cdG27 (.x 9)) (cdHp0 (.x 9) 9 9 9) 65155 (cdX27 (.x 9)) (cdB27 (.x 9)) = true := by kernel_rfl
theorem cdq27 : cdQ (cdA28 (.x 9) (.x 7)) (cdB27 (.x 9)) 287 = true := by kernel_rfl
theorem cdk28 : cdK exAny (cdGW0 (.x 9)) (cdGX28 (.x 9)) (cdHW0 (.x 9)) (cdHp0 (.x 9) 10 9 9) 68974 65635 = true := by kernel_rfl
theorem cdh28 : cdH 28 cdIA (cdG28 (.x 9)) (cdHp0 (.x 9) 10 9 9) 65632 (cdX28 (.x 9)) (cdB28 (.x 9)) = true := by kernel_rfl
theorem cdq28 : cdQ (cdA29 (.x 9) (.x 7)) (cdB28 (.x 9)) 287 = true := by kernel_rfl
theorem cdk29 : cdK exAny (cdGW0 (.x 9)) (cdGX29 (.x 9)) (cdHW0 (.x 9)) (cdHp0 (.x 9) 10 10 9) 68974 66112 = true := by kernel_rfl
theorem cdh29 : cdH 29 cdIA (cdG29 (.x 9)) (cdHp0 (.x 9) 10 10 9) 66109 (cdX29 (.x 9)) (cdB29 (.x 9)) = true := by kernel_rfl
theorem cdq29 : cdQ (cdA30 (.x 9) (.x 7)) (cdB29 (.x 9)) 287 = true := by kernel_rfl
theorem cdk30 : cdK exAny (cdGW0 (.x 9)) (cdGX30 (.x 9)) (cdHW0 (.x 9)) (cdHp0 (.x 9) 10 10 10) 68974 66589 = true := by kernel_rfl
theorem cdh30 : cdH 30 cdIA (cdG30 (.x 9)) (cdHp0 (.x 9) 10 10 10) 66586 (cdX30 (.x 9)) (cdB30 (.x 9)) = true := by kernel_rfl
theorem cdq30 : cdQ (cdA31 (.x 9) (.x 7)) (cdB30 (.x 9)) 287 = true := by kernel_rfl
theorem cdk31 : cdK exAny (cdGW0 (.x 9)) (cdGX31 (.x 9)) (cdHW0 (.x 9)) (cdHp0 (.x 9) 11 10 10) 68974 67066 = true := by kernel_rfl
theorem cdh31 : cdH 31 cdIA (cdG31 (.x 9)) (cdHp0 (.x 9) 11 10 10) 67063 (cdX31 (.x 9)) (cdB31 (.x 9)) = true := by kernel_rfl
theorem cdq31 : cdQ (cdA32 (.x 9) (.x 7)) (cdB31 (.x 9)) 287 = true := by kernel_rfl
theorem cdk32 : cdK exAny (cdGW0 (.x 9)) (cdGX32 (.x 9)) (cdHW0 (.x 9)) (cdHp0 (.x 9) 11 11 10) 68974 67543 = true := by kernel_rfl
theorem cdh32 : cdH 32 cdIA (cdG32 (.x 9)) (cdHp0 (.x 9) 11 11 10) 67540 (cdX32 (.x 9)) (cdB32 (.x 9)) = true := by kernel_rfl
theorem cdq32 : cdQ (cdA33 (.x 9) (.x 7)) (cdB32 (.x 9)) 287 = true := by kernel_rfl
theorem cdk33 : cdK exAny (cdGW0 (.x 9)) (cdGX33 (.x 9)) (cdHW0 (.x 9)) (cdHp0 (.x 9) 11 11 11) 68974 68020 = true := by kernel_rfl
theorem cdh33 : cdH 33 cdIA (cdG33 (.x 9)) (cdHp0 (.x 9) 11 11 11) 68017 (cdX33 (.x 9)) (cdB33 (.x 9)) = true := by kernel_rfl
theorem cdq33 : cdQ (cdA34 (.x 9) (.x 7)) (cdB33 (.x 9)) 287 = true := by kernel_rfl
theorem cdk34 : cdK exAny (cdGW0 (.x 9)) (cdGX34 (.x 9)) (cdHW0 (.x 9)) (cdHp0 (.x 9) 12 11 11) 68974 68497 = true := by kernel_rfl
theorem cdh34 : cdH 34 cdIA (cdG34 (.x 9)) (cdHp0 (.x 9) 12 11 11) 68494 (cdX34 (.x 9)) (cdB34 (.x 9)) = true := by kernel_rfl
theorem cdq34 : cdQ (cdA35 (.x 9) (.x 7)) (cdB34 (.x 9)) 287 = true := by kernel_rfl

end Go.Proofs.YtegafdkhbgojcaaGreatDoor.Ek
