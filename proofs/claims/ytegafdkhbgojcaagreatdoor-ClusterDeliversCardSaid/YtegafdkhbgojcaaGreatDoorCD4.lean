/- The statement ClusterDelivers: ticks, from one to the next. No condition. -/
import Derived.Test.YtegafdkhbgojcaaGreatDoorCDS
set_option linter.unusedVariables false
set_option maxRecDepth 100000
namespace Go.Proofs.YtegafdkhbgojcaaGreatDoor.Ek
open Go.Proofs.YtegafdkhbgojcaaGreatDoor.Ex
theorem cdk45 : cdK exAny (cdGW2 (.x 9)) (cdGX45 (.x 9)) (cdHW2 (.x 9)) (cdHp2 (.x 9) 2 15 15 3 15) 82065 78726 = true := by kernel_rfl
theorem cdh45 : cdH 45 cdIA (cdG45 (.x 9)) (cdHp2 (.x 9) 2 15 15 3 15) 78723 (cdX45 (.x 9)) (cdB45 (.x 9)) = true := by kernel_rfl
theorem cdq45 : cdQ (cdA46 (.x 9) (.x 7)) (cdB45 (.x 9)) 287 = true := by kernel_rfl
theorem cdk46 : cdK exAny (cdGW2 (.x 9)) (cdGX46 (.x 9)) (cdHW2 (.x 9)) (cdHp2 (.x 9) 3 16 15 3 15) 82065 79203 = true := by kernel_rfl
theorem cdh46 : cdH 46 cdIA (cdG46 (.x 9)) (cdHp2 (.x 9) 3 16 15 3 15) 79200 (cdX46 (.x 9)) (cdB46 (.x 9)) = true := by kernel_rfl
theorem cdq46 : cdQ (cdA47 (.x 9) (.x 7)) (cdB46 (.x 9)) 287 = true := by kernel_rfl
theorem cdk47 : cdK exAny (cdGW2 (.x 9)) (cdGX47 (.x 9)) (cdHW2 (.x 9)) (cdHp2 (.x 9) 3 16 16 3 15) 82065 79680 = true := by kernel_rfl
theorem cdh47 : cdH 47 cdIA (cdG47 (.x 9)) (cdHp2 (.x 9) 3 16 16 3 15) 79677 (cdX47 (.x 9)) (cdB47 (.x 9)) = true := by kernel_rfl
theorem cdq47 : cdQ (cdA48 (.x 9) (.x 7)) (cdB47 (.x 9)) 287 = true := by kernel_rfl
theorem cdk48 : cdK exAny (cdGW2 (.x 9)) (cdGX48 (.x 9)) (cdHW2 (.x 9)) (cdHp2 (.x 9) 3 16 16 4 16) 82065 80157 = true := by kernel_rfl
theorem cdh48 : cdH 48 cdIA (cdG48 (.x 9)) (cdHp2 (.x 9) 3 16 16 4 16) 80154 (cdX48 (.x 9)) (cdB48 (.x 9)) = true := by kernel_rfl
theorem cdq48 : cdQ (cdA49 (.x 9) (.x 7)) (cdB48 (.x 9)) 287 = true := by kernel_rfl
theorem cdk49 : cdK exAny (cdGW2 (.x 9)) (cdGX49 (.x 9)) (cdHW2 (.x 9)) (cdHp2 (.x 9) 4 17 16 4 16) 82065 80634 = true := by kernel_rfl
theorem cdh49 : cdH 49 cdIA (cdG49 (.x 9)) (cdHp2 (.x 9) 4 17 16 4 16) 80631 (cdX49 (.x 9)) (cdB49 (.x 9)) = true := by kernel_rfl
theorem cdq49 : cdQ (cdA50 (.x 9) (.x 7)) (cdB49 (.x 9)) 287 = true := by kernel_rfl
theorem cdk50 : cdK exAny (cdGW2 (.x 9)) (cdGX50 (.x 9)) (cdHW2 (.x 9)) (cdHp2 (.x 9) 4 17 17 4 16) 82065 81111 = true := by kernel_rfl
theorem cdh50 : cdH 50 cdIA (cdG50 (.x 9)) (cdHp2 (.x 9) 4 17 17 4 16) 81108 (cdX50 (.x 9)) (cdB50 (.x 9)) = true := by kernel_rfl
theorem cdq50 : cdQ (cdA51 (.x 9) (.x 7)) (cdB50 (.x 9)) 287 = true := by kernel_rfl
theorem cdk51 : cdK exAny (cdGW2 (.x 9)) (cdGX51 (.x 9)) (cdHW2 (.x 9)) (cdHp2 (.x 9) 4 17 17 5 17) 82065 81588 = true := by kernel_rfl
theorem cdh51 : cdH 51 cdIA (cdG51 (.x 9)) (cdHp2 (.x 9) 4 17 17 5 17) 81585 (cdX51 (.x 9)) (cdB51 (.x 9)) = true := by kernel_rfl
theorem cdq51 : cdQ (cdA52 (.x 9) (.x 7)) (cdB51 (.x 9)) 287 = true := by kernel_rfl
theorem cdk52 : cdK exAny (cdGW2 (.x 9)) (cdGX52 (.x 9)) (cdHW2 (.x 9)) (cdHp2 (.x 9) 5 18 17 5 17) 82065 82065 = true := by kernel_rfl
theorem cdh52 : cdH 52 cdIA (cdG52 (.x 9)) (cdHp2 (.x 9) 5 18 17 5 17) 82062 (cdX52 (.x 9)) (cdB52 (.x 9)) = true := by kernel_rfl
theorem cda52d0 : cdK (exX 9 (.ofNat 0)) (cdGB52 (cI 0)) (cdGB52 (.x 9)) (cdHp2 (cI 0) 5 18 17 5 17) (cdHp2 (.x 9) 5 18 17 5 17) 82065 82065 = true := by kernel_rfl
theorem cdr52d0 : cdQ (cdA53 (cI 0) (.x 7)) (cdB52 (cI 0)) 2276 = true := by kernel_rfl
theorem cdz52d0 : cdK (exX 9 (.ofNat 0)) (cdG53 (.x 9) (.x 7)) (cdG53 (cI 0) (.x 7)) (cdHp3 (.x 9) 5 18 0 18 5 17) (cdHp3 (cI 0) 5 18 0 18 5 17) 85042 85042 = true := by kernel_rfl
theorem cda52d1 : cdK (exX 9 (.ofNat 1)) (cdGB52 (cI 1)) (cdGB52 (.x 9)) (cdHp2 (cI 1) 5 18 17 5 17) (cdHp2 (.x 9) 5 18 17 5 17) 82065 82065 = true := by kernel_rfl
theorem cdr52d1 : cdQ (cdA53 (cI 1) (.x 7)) (cdB52 (cI 1)) 2276 = true := by kernel_rfl
theorem cdz52d1 : cdK (exX 9 (.ofNat 1)) (cdG53 (.x 9) (.x 7)) (cdG53 (cI 1) (.x 7)) (cdHp3 (.x 9) 5 18 0 18 5 17) (cdHp3 (cI 1) 5 18 0 18 5 17) 85042 85042 = true := by kernel_rfl
theorem cda52d2 : cdK (exX 9 (.ofNat 2)) (cdGB52 (cI 2)) (cdGB52 (.x 9)) (cdHp2 (cI 2) 5 18 17 5 17) (cdHp2 (.x 9) 5 18 17 5 17) 82065 82065 = true := by kernel_rfl
theorem cdr52d2 : cdQ (cdA53 (cI 2) (.x 7)) (cdB52 (cI 2)) 2276 = true := by kernel_rfl
theorem cdz52d2 : cdK (exX 9 (.ofNat 2)) (cdG53 (.x 9) (.x 7)) (cdG53 (cI 2) (.x 7)) (cdHp3 (.x 9) 5 18 0 18 5 17) (cdHp3 (cI 2) 5 18 0 18 5 17) 85042 85042 = true := by kernel_rfl
theorem cda52d3 : cdK (exX 9 (.ofNat 3)) (cdGB52 (cI 3)) (cdGB52 (.x 9)) (cdHp2 (cI 3) 5 18 17 5 17) (cdHp2 (.x 9) 5 18 17 5 17) 82065 82065 = true := by kernel_rfl
theorem cdr52d3 : cdQ (cdA53 (cI 3) (.x 7)) (cdB52 (cI 3)) 2276 = true := by kernel_rfl
theorem cdz52d3 : cdK (exX 9 (.ofNat 3)) (cdG53 (.x 9) (.x 7)) (cdG53 (cI 3) (.x 7)) (cdHp3 (.x 9) 5 18 0 18 5 17) (cdHp3 (cI 3) 5 18 0 18 5 17) 85042 85042 = true := by kernel_rfl
theorem cdk53 : cdK exAny (cdGW3 (.x 9)) (cdGX53 (.x 9)) (cdHW3 (.x 9)) (cdHp3 (.x 9) 5 18 0 18 5 17) 89815 85045 = true := by kernel_rfl
theorem cdh53 : cdH 53 cdIA (cdG53 (.x 9)) (cdHp3 (.x 9) 5 18 0 18 5 17) 85042 (cdX53 (.x 9)) (cdB53 (.x 9)) = true := by kernel_rfl
theorem cdq53 : cdQ (cdA54 (.x 9) (.x 7)) (cdB53 (.x 9)) 287 = true := by kernel_rfl
theorem cdk54 : cdK exAny (cdGW3 (.x 9)) (cdGX54 (.x 9)) (cdHW3 (.x 9)) (cdHp3 (.x 9) 5 18 0 18 6 18) 89815 85522 = true := by kernel_rfl
theorem cdh54 : cdH 54 cdIA (cdG54 (.x 9)) (cdHp3 (.x 9) 5 18 0 18 6 18) 85519 (cdX54 (.x 9)) (cdB54 (.x 9)) = true := by kernel_rfl
theorem cdq54 : cdQ (cdA55 (.x 9) (.x 7)) (cdB54 (.x 9)) 287 = true := by kernel_rfl
theorem cdk55 : cdK exAny (cdGW3 (.x 9)) (cdGX55 (.x 9)) (cdHW3 (.x 9)) (cdHp3 (.x 9) 6 19 0 18 6 18) 89815 85999 = true := by kernel_rfl
theorem cdh55 : cdH 55 cdIA (cdG55 (.x 9)) (cdHp3 (.x 9) 6 19 0 18 6 18) 85996 (cdX55 (.x 9)) (cdB55 (.x 9)) = true := by kernel_rfl
theorem cdq55 : cdQ (cdA56 (.x 9) (.x 7)) (cdB55 (.x 9)) 287 = true := by kernel_rfl
theorem cdk56 : cdK exAny (cdGW3 (.x 9)) (cdGX56 (.x 9)) (cdHW3 (.x 9)) (cdHp3 (.x 9) 6 19 1 19 6 18) 89815 86476 = true := by kernel_rfl
theorem cdh56 : cdH 56 cdIA (cdG56 (.x 9)) (cdHp3 (.x 9) 6 19 1 19 6 18) 86473 (cdX56 (.x 9)) (cdB56 (.x 9)) = true := by kernel_rfl
theorem cdq56 : cdQ (cdA57 (.x 9) (.x 7)) (cdB56 (.x 9)) 287 = true := by kernel_rfl
theorem cdk57 : cdK exAny (cdGW3 (.x 9)) (cdGX57 (.x 9)) (cdHW3 (.x 9)) (cdHp3 (.x 9) 6 19 1 19 7 19) 89815 86953 = true := by kernel_rfl
theorem cdh57 : cdH 57 cdIA (cdG57 (.x 9)) (cdHp3 (.x 9) 6 19 1 19 7 19) 86950 (cdX57 (.x 9)) (cdB57 (.x 9)) = true := by kernel_rfl
theorem cdq57 : cdQ (cdA58 (.x 9) (.x 7)) (cdB57 (.x 9)) 287 = true := by kernel_rfl
theorem cdk58 : cdK exAny (cdGW3 (.x 9)) (cdGX58 (.x 9)) (cdHW3 (.x 9)) (cdHp3 (.x 9) 7 20 1 19 7 19) 89815 87430 = true := by kernel_rfl
theorem cdh58 : cdH 58 cdIA (cdG58 (.x 9)) (cdHp3 (.x 9) 7 20 1 19 7 19) 87427 (cdX58 (.x 9)) (cdB58 (.x 9)) = true := by kernel_rfl
theorem cdq58 : cdQ (cdA59 (.x 9) (.x 7)) (cdB58 (.x 9)) 287 = true := by kernel_rfl
theorem cdk59 : cdK exAny (cdGW3 (.x 9)) (cdGX59 (.x 9)) (cdHW3 (.x 9)) (cdHp3 (.x 9) 7 20 2 20 7 19) 89815 87907 = true := by kernel_rfl
theorem cdh59 : cdH 59 cdIA (cdG59 (.x 9)) (cdHp3 (.x 9) 7 20 2 20 7 19) 87904 (cdX59 (.x 9)) (cdB59 (.x 9)) = true := by kernel_rfl
theorem cdq59 : cdQ (cdA60 (.x 9) (.x 7)) (cdB59 (.x 9)) 287 = true := by kernel_rfl
theorem cdk60 : cdK exAny (cdGW3 (.x 9)) (cdGX60 (.x 9)) (cdHW3 (.x 9)) (cdHp3 (.x 9) 7 20 2 20 8 20) 89815 88384 = true := by kernel_rfl
theorem cdh60 : cdH 60 cdIA (cdG60 (.x 9)) (cdHp3 (.x 9) 7 20 2 20 8 20) 88381 (cdX60 (.x 9)) (cdB60 (.x 9)) = true := by kernel_rfl
theorem cdq60 : cdQ (cdA61 (.x 9) (.x 7)) (cdB60 (.x 9)) 287 = true := by kernel_rfl
theorem cdk61 : cdK exAny (cdGW3 (.x 9)) (cdGX61 (.x 9)) (cdHW3 (.x 9)) (cdHp3 (.x 9) 8 21 2 20 8 20) 89815 88861 = true := by kernel_rfl
theorem cdh61 : cdH 61 cdIA (cdG61 (.x 9)) (cdHp3 (.x 9) 8 21 2 20 8 20) 88858 (cdX61 (.x 9)) (cdB61 (.x 9)) = true := by kernel_rfl
theorem cdq61 : cdQ (cdA62 (.x 9) (.x 7)) (cdB61 (.x 9)) 287 = true := by kernel_rfl
theorem cdk62 : cdK exAny (cdGW3 (.x 9)) (cdGX62 (.x 9)) (cdHW3 (.x 9)) (cdHp3 (.x 9) 8 21 3 21 8 20) 89815 89338 = true := by kernel_rfl
theorem cdh62 : cdH 62 cdIA (cdG62 (.x 9)) (cdHp3 (.x 9) 8 21 3 21 8 20) 89335 (cdX62 (.x 9)) (cdB62 (.x 9)) = true := by kernel_rfl
theorem cdq62 : cdQ (cdA63 (.x 9) (.x 7)) (cdB62 (.x 9)) 287 = true := by kernel_rfl
theorem cdk63 : cdK exAny (cdGW3 (.x 9)) (cdGX63 (.x 9)) (cdHW3 (.x 9)) (cdHp3 (.x 9) 8 21 3 21 9 21) 89815 89815 = true := by kernel_rfl
theorem cdh63 : cdH 63 cdIA (cdG63 (.x 9)) (cdHp3 (.x 9) 8 21 3 21 9 21) 89812 (cdX63 (.x 9)) (cdX63 (.x 9)) = true := by kernel_rfl

end Go.Proofs.YtegafdkhbgojcaaGreatDoor.Ek
