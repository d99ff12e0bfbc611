/- The statement ClusterDelivers: the call. No condition. -/
import Derived.Test.YtegafdkhbgojcaaGreatDoorCD1
import Derived.Test.YtegafdkhbgojcaaGreatDoorCD2
import Derived.Test.YtegafdkhbgojcaaGreatDoorCD3
import Derived.Test.YtegafdkhbgojcaaGreatDoorCD4
import Derived.Test.YtegafdkhbgojcaaGreatDoorCDC0
import Derived.Test.YtegafdkhbgojcaaGreatDoorCDC1d0
import Derived.Test.YtegafdkhbgojcaaGreatDoorCDC1d2
import Derived.Test.YtegafdkhbgojcaaGreatDoorCDC1d3
import Derived.Test.YtegafdkhbgojcaaGreatDoorCDC2d0
import Derived.Test.YtegafdkhbgojcaaGreatDoorCDC2d2
import Derived.Test.YtegafdkhbgojcaaGreatDoorCDC2d3
import Derived.Test.YtegafdkhbgojcaaGreatDoorCDC3d0
import Derived.Test.YtegafdkhbgojcaaGreatDoorCDC3d1
import Derived.Test.YtegafdkhbgojcaaGreatDoorCDC3d2
import Derived.Test.YtegafdkhbgojcaaGreatDoorCDC3d3
set_option linter.unusedVariables false
set_option maxRecDepth 100000
namespace Go.Proofs.YtegafdkhbgojcaaGreatDoor.Ek
open Go.Proofs.YtegafdkhbgojcaaGreatDoor.Ex
section
variable {X : Nat → Value} (hX : XOk X) {s m d : Nat} (h7 : X 7 = .int .i64 (Int.ofNat s)) (hs : s < 64) (h8 : X 8 = .int .i64 (Int.ofNat m)) (hm : m < 8) (h9 : X 9 = .int .i64 (Int.ofNat d)) (hd : d < 4)
include hX h8 hm h9 hd in
theorem cdw0 : GD X (cdWs0 (.x 9)) := by
  match d, hd with
  | 0, _ => exact d00 hX h8 hm h9
  | 1, _ => exact d01 hX h8 hm h9
  | 2, _ => exact d02 hX h8 hm h9
  | 3, _ => exact d03 hX h8 hm h9
  | d + 4, h => omega
include hX h8 hm h9 hd in
theorem cdw1 : GD X (cdWs1 (.x 9)) := by
  match d, hd with
  | 0, _ => exact d10 hX h8 hm h9
  | 1, _ => exact d11 hX h8 hm h9
  | 2, _ => exact d12 hX h8 hm h9
  | 3, _ => exact d13 hX h8 hm h9
  | d + 4, h => omega
include hX h8 hm h9 hd in
theorem cdw2 : GD X (cdWs2 (.x 9)) := by
  match d, hd with
  | 0, _ => exact d20 hX h8 hm h9
  | 1, _ => exact d21 hX h8 hm h9
  | 2, _ => exact d22 hX h8 hm h9
  | 3, _ => exact d23 hX h8 hm h9
  | d + 4, h => omega
include hX h8 hm h9 hd in
theorem cdw3 : GD X (cdWs3 (.x 9)) := by
  match d, hd with
  | 0, _ => exact d30 hX h8 hm h9
  | 1, _ => exact d31 hX h8 hm h9
  | 2, _ => exact d32 hX h8 hm h9
  | 3, _ => exact d33 hX h8 hm h9
  | d + 4, h => omega
include hX h9 hd in
theorem cdc35 (hg : GD X (cdA36 (.x 9) (.x 7))) : GD X (cdB35 (.x 9)) := by
  match d, hd with
  | 0, _ => exact gd_hold (tells_exX h9) cda35d0 (gd_run hX cdr35d0 (gd_hold (tells_exX h9) cdz35d0 hg))
  | 1, _ => exact gd_hold (tells_exX h9) cda35d1 (gd_run hX cdr35d1 (gd_hold (tells_exX h9) cdz35d1 hg))
  | 2, _ => exact gd_hold (tells_exX h9) cda35d2 (gd_run hX cdr35d2 (gd_hold (tells_exX h9) cdz35d2 hg))
  | 3, _ => exact gd_hold (tells_exX h9) cda35d3 (gd_run hX cdr35d3 (gd_hold (tells_exX h9) cdz35d3 hg))
  | d + 4, h => omega
include hX h9 hd in
theorem cdc36 (hg : GD X (cdA37 (.x 9) (.x 7))) : GD X (cdB36 (.x 9)) := by
  match d, hd with
  | 0, _ => exact gd_hold (tells_exX h9) cda36d0 (gd_run hX cdr36d0 (gd_hold (tells_exX h9) cdz36d0 hg))
  | 1, _ => exact gd_hold (tells_exX h9) cda36d1 (gd_run hX cdr36d1 (gd_hold (tells_exX h9) cdz36d1 hg))
  | 2, _ => exact gd_hold (tells_exX h9) cda36d2 (gd_run hX cdr36d2 (gd_hold (tells_exX h9) cdz36d2 hg))
  | 3, _ => exact gd_hold (tells_exX h9) cda36d3 (gd_run hX cdr36d3 (gd_hold (tells_exX h9) cdz36d3 hg))
  | d + 4, h => omega
include hX h9 hd in
theorem cdc52 (hg : GD X (cdA53 (.x 9) (.x 7))) : GD X (cdB52 (.x 9)) := by
  match d, hd with
  | 0, _ => exact gd_hold (tells_exX h9) cda52d0 (gd_run hX cdr52d0 (gd_hold (tells_exX h9) cdz52d0 hg))
  | 1, _ => exact gd_hold (tells_exX h9) cda52d1 (gd_run hX cdr52d1 (gd_hold (tells_exX h9) cdz52d1 hg))
  | 2, _ => exact gd_hold (tells_exX h9) cda52d2 (gd_run hX cdr52d2 (gd_hold (tells_exX h9) cdz52d2 hg))
  | 3, _ => exact gd_hold (tells_exX h9) cda52d3 (gd_run hX cdr52d3 (gd_hold (tells_exX h9) cdz52d3 hg))
  | d + 4, h => omega
include hX h7 hs h8 hm h9 hd in
theorem cdg63 (hi : 63 ≤ s) : GD X (cdA63 (.x 9) (.x 7)) := gd_head (g := cdG63 (.x 9)) hX h7 hs hi cdh63 (fun _ => gd_hold tells_any cdk63 (cdw3 hX h8 hm h9 hd)) (fun h => absurd h (by omega))
include hX h7 hs h8 hm h9 hd in
theorem cdg62 (hi : 62 ≤ s) : GD X (cdA62 (.x 9) (.x 7)) := gd_head (g := cdG62 (.x 9)) hX h7 hs hi cdh62 (fun _ => gd_hold tells_any cdk62 (cdw3 hX h8 hm h9 hd)) (fun h => gd_run hX cdq62 (cdg63 hX h7 hs h8 hm h9 hd h))
include hX h7 hs h8 hm h9 hd in
theorem cdg61 (hi : 61 ≤ s) : GD X (cdA61 (.x 9) (.x 7)) := gd_head (g := cdG61 (.x 9)) hX h7 hs hi cdh61 (fun _ => gd_hold tells_any cdk61 (cdw3 hX h8 hm h9 hd)) (fun h => gd_run hX cdq61 (cdg62 hX h7 hs h8 hm h9 hd h))
include hX h7 hs h8 hm h9 hd in
theorem cdg60 (hi : 60 ≤ s) : GD X (cdA60 (.x 9) (.x 7)) := gd_head (g := cdG60 (.x 9)) hX h7 hs hi cdh60 (fun _ => gd_hold tells_any cdk60 (cdw3 hX h8 hm h9 hd)) (fun h => gd_run hX cdq60 (cdg61 hX h7 hs h8 hm h9 hd h))
include hX h7 hs h8 hm h9 hd in
theorem cdg59 (hi : 59 ≤ s) : GD X (cdA59 (.x 9) (.x 7)) := gd_head (g := cdG59 (.x 9)) hX h7 hs hi cdh59 (fun _ => gd_hold tells_any cdk59 (cdw3 hX h8 hm h9 hd)) (fun h => gd_run hX cdq59 (cdg60 hX h7 hs h8 hm h9 hd h))
include hX h7 hs h8 hm h9 hd in
theorem cdg58 (hi : 58 ≤ s) : GD X (cdA58 (.x 9) (.x 7)) := gd_head (g := cdG58 (.x 9)) hX h7 hs hi cdh58 (fun _ => gd_hold tells_any cdk58 (cdw3 hX h8 hm h9 hd)) (fun h => gd_run hX cdq58 (cdg59 hX h7 hs h8 hm h9 hd h))
include hX h7 hs h8 hm h9 hd in
theorem cdg57 (hi : 57 ≤ s) : GD X (cdA57 (.x 9) (.x 7)) := gd_head (g := cdG57 (.x 9)) hX h7 hs hi cdh57 (fun _ => gd_hold tells_any cdk57 (cdw3 hX h8 hm h9 hd)) (fun h => gd_run hX cdq57 (cdg58 hX h7 hs h8 hm h9 hd h))
include hX h7 hs h8 hm h9 hd in
theorem cdg56 (hi : 56 ≤ s) : GD X (cdA56 (.x 9) (.x 7)) := gd_head (g := cdG56 (.x 9)) hX h7 hs hi cdh56 (fun _ => gd_hold tells_any cdk56 (cdw3 hX h8 hm h9 hd)) (fun h => gd_run hX cdq56 (cdg57 hX h7 hs h8 hm h9 hd h))
include hX h7 hs h8 hm h9 hd in
theorem cdg55 (hi : 55 ≤ s) : GD X (cdA55 (.x 9) (.x 7)) := gd_head (g := cdG55 (.x 9)) hX h7 hs hi cdh55 (fun _ => gd_hold tells_any cdk55 (cdw3 hX h8 hm h9 hd)) (fun h => gd_run hX cdq55 (cdg56 hX h7 hs h8 hm h9 hd h))
include hX h7 hs h8 hm h9 hd in
theorem cdg54 (hi : 54 ≤ s) : GD X (cdA54 (.x 9) (.x 7)) := gd_head (g := cdG54 (.x 9)) hX h7 hs hi cdh54 (fun _ => gd_hold tells_any cdk54 (cdw3 hX h8 hm h9 hd)) (fun h => gd_run hX cdq54 (cdg55 hX h7 hs h8 hm h9 hd h))
include hX h7 hs h8 hm h9 hd in
theorem cdg53 (hi : 53 ≤ s) : GD X (cdA53 (.x 9) (.x 7)) := gd_head (g := cdG53 (.x 9)) hX h7 hs hi cdh53 (fun _ => gd_hold tells_any cdk53 (cdw3 hX h8 hm h9 hd)) (fun h => gd_run hX cdq53 (cdg54 hX h7 hs h8 hm h9 hd h))
include hX h7 hs h8 hm h9 hd in
theorem cdg52 (hi : 52 ≤ s) : GD X (cdA52 (.x 9) (.x 7)) := gd_head (g := cdG52 (.x 9)) hX h7 hs hi cdh52 (fun _ => gd_hold tells_any cdk52 (cdw2 hX h8 hm h9 hd)) (fun h => cdc52 hX h9 hd (cdg53 hX h7 hs h8 hm h9 hd h))
include hX h7 hs h8 hm h9 hd in
theorem cdg51 (hi : 51 ≤ s) : GD X (cdA51 (.x 9) (.x 7)) := gd_head (g := cdG51 (.x 9)) hX h7 hs hi cdh51 (fun _ => gd_hold tells_any cdk51 (cdw2 hX h8 hm h9 hd)) (fun h => gd_run hX cdq51 (cdg52 hX h7 hs h8 hm h9 hd h))
include hX h7 hs h8 hm h9 hd in
theorem cdg50 (hi : 50 ≤ s) : GD X (cdA50 (.x 9) (.x 7)) := gd_head (g := cdG50 (.x 9)) hX h7 hs hi cdh50 (fun _ => gd_hold tells_any cdk50 (cdw2 hX h8 hm h9 hd)) (fun h => gd_run hX cdq50 (cdg51 hX h7 hs h8 hm h9 hd h))
include hX h7 hs h8 hm h9 hd in
theorem cdg49 (hi : 49 ≤ s) : GD X (cdA49 (.x 9) (.x 7)) := gd_head (g := cdG49 (.x 9)) hX h7 hs hi cdh49 (fun _ => gd_hold tells_any cdk49 (cdw2 hX h8 hm h9 hd)) (fun h => gd_run hX cdq49 (cdg50 hX h7 hs h8 hm h9 hd h))
include hX h7 hs h8 hm h9 hd in
theorem cdg48 (hi : 48 ≤ s) : GD X (cdA48 (.x 9) (.x 7)) := gd_head (g := cdG48 (.x 9)) hX h7 hs hi cdh48 (fun _ => gd_hold tells_any cdk48 (cdw2 hX h8 hm h9 hd)) (fun h => gd_run hX cdq48 (cdg49 hX h7 hs h8 hm h9 hd h))
include hX h7 hs h8 hm h9 hd in
theorem cdg47 (hi : 47 ≤ s) : GD X (cdA47 (.x 9) (.x 7)) := gd_head (g := cdG47 (.x 9)) hX h7 hs hi cdh47 (fun _ => gd_hold tells_any cdk47 (cdw2 hX h8 hm h9 hd)) (fun h => gd_run hX cdq47 (cdg48 hX h7 hs h8 hm h9 hd h))
include hX h7 hs h8 hm h9 hd in
theorem cdg46 (hi : 46 ≤ s) : GD X (cdA46 (.x 9) (.x 7)) := gd_head (g := cdG46 (.x 9)) hX h7 hs hi cdh46 (fun _ => gd_hold tells_any cdk46 (cdw2 hX h8 hm h9 hd)) (fun h => gd_run hX cdq46 (cdg47 hX h7 hs h8 hm h9 hd h))
include hX h7 hs h8 hm h9 hd in
theorem cdg45 (hi : 45 ≤ s) : GD X (cdA45 (.x 9) (.x 7)) := gd_head (g := cdG45 (.x 9)) hX h7 hs hi cdh45 (fun _ => gd_hold tells_any cdk45 (cdw2 hX h8 hm h9 hd)) (fun h => gd_run hX cdq45 (cdg46 hX h7 hs h8 hm h9 hd h))
include hX h7 hs h8 hm h9 hd in
theorem cdg44 (hi : 44 ≤ s) : GD X (cdA44 (.x 9) (.x 7)) := gd_head (g := cdG44 (.x 9)) hX h7 hs hi cdh44 (fun _ => gd_hold tells_any cdk44 (cdw2 hX h8 hm h9 hd)) (fun h => gd_run hX cdq44 (cdg45 hX h7 hs h8 hm h9 hd h))
include hX h7 hs h8 hm h9 hd in
theorem cdg43 (hi : 43 ≤ s) : GD X (cdA43 (.x 9) (.x 7)) := gd_head (g := cdG43 (.x 9)) hX h7 hs hi cdh43 (fun _ => gd_hold tells_any cdk43 (cdw2 hX h8 hm h9 hd)) (fun h => gd_run hX cdq43 (cdg44 hX h7 hs h8 hm h9 hd h))
include hX h7 hs h8 hm h9 hd in
theorem cdg42 (hi : 42 ≤ s) : GD X (cdA42 (.x 9) (.x 7)) := gd_head (g := cdG42 (.x 9)) hX h7 hs hi cdh42 (fun _ => gd_hold tells_any cdk42 (cdw2 hX h8 hm h9 hd)) (fun h => gd_run hX cdq42 (cdg43 hX h7 hs h8 hm h9 hd h))
include hX h7 hs h8 hm h9 hd in
theorem cdg41 (hi : 41 ≤ s) : GD X (cdA41 (.x 9) (.x 7)) := gd_head (g := cdG41 (.x 9)) hX h7 hs hi cdh41 (fun _ => gd_hold tells_any cdk41 (cdw2 hX h8 hm h9 hd)) (fun h => gd_run hX cdq41 (cdg42 hX h7 hs h8 hm h9 hd h))
include hX h7 hs h8 hm h9 hd in
theorem cdg40 (hi : 40 ≤ s) : GD X (cdA40 (.x 9) (.x 7)) := gd_head (g := cdG40 (.x 9)) hX h7 hs hi cdh40 (fun _ => gd_hold tells_any cdk40 (cdw2 hX h8 hm h9 hd)) (fun h => gd_run hX cdq40 (cdg41 hX h7 hs h8 hm h9 hd h))
include hX h7 hs h8 hm h9 hd in
theorem cdg39 (hi : 39 ≤ s) : GD X (cdA39 (.x 9) (.x 7)) := gd_head (g := cdG39 (.x 9)) hX h7 hs hi cdh39 (fun _ => gd_hold tells_any cdk39 (cdw2 hX h8 hm h9 hd)) (fun h => gd_run hX cdq39 (cdg40 hX h7 hs h8 hm h9 hd h))
include hX h7 hs h8 hm h9 hd in
theorem cdg38 (hi : 38 ≤ s) : GD X (cdA38 (.x 9) (.x 7)) := gd_head (g := cdG38 (.x 9)) hX h7 hs hi cdh38 (fun _ => gd_hold tells_any cdk38 (cdw2 hX h8 hm h9 hd)) (fun h => gd_run hX cdq38 (cdg39 hX h7 hs h8 hm h9 hd h))
include hX h7 hs h8 hm h9 hd in
theorem cdg37 (hi : 37 ≤ s) : GD X (cdA37 (.x 9) (.x 7)) := gd_head (g := cdG37 (.x 9)) hX h7 hs hi cdh37 (fun _ => gd_hold tells_any cdk37 (cdw2 hX h8 hm h9 hd)) (fun h => gd_run hX cdq37 (cdg38 hX h7 hs h8 hm h9 hd h))
include hX h7 hs h8 hm h9 hd in
theorem cdg36 (hi : 36 ≤ s) : GD X (cdA36 (.x 9) (.x 7)) := gd_head (g := cdG36 (.x 9)) hX h7 hs hi cdh36 (fun _ => gd_hold tells_any cdk36 (cdw1 hX h8 hm h9 hd)) (fun h => cdc36 hX h9 hd (cdg37 hX h7 hs h8 hm h9 hd h))
include hX h7 hs h8 hm h9 hd in
theorem cdg35 (hi : 35 ≤ s) : GD X (cdA35 (.x 9) (.x 7)) := gd_head (g := cdG35 (.x 9)) hX h7 hs hi cdh35 (fun _ => gd_hold tells_any cdk35 (cdw0 hX h8 hm h9 hd)) (fun h => cdc35 hX h9 hd (cdg36 hX h7 hs h8 hm h9 hd h))
include hX h7 hs h8 hm h9 hd in
theorem cdg34 (hi : 34 ≤ s) : GD X (cdA34 (.x 9) (.x 7)) := gd_head (g := cdG34 (.x 9)) hX h7 hs hi cdh34 (fun _ => gd_hold tells_any cdk34 (cdw0 hX h8 hm h9 hd)) (fun h => gd_run hX cdq34 (cdg35 hX h7 hs h8 hm h9 hd h))
include hX h7 hs h8 hm h9 hd in
theorem cdg33 (hi : 33 ≤ s) : GD X (cdA33 (.x 9) (.x 7)) := gd_head (g := cdG33 (.x 9)) hX h7 hs hi cdh33 (fun _ => gd_hold tells_any cdk33 (cdw0 hX h8 hm h9 hd)) (fun h => gd_run hX cdq33 (cdg34 hX h7 hs h8 hm h9 hd h))
include hX h7 hs h8 hm h9 hd in
theorem cdg32 (hi : 32 ≤ s) : GD X (cdA32 (.x 9) (.x 7)) := gd_head (g := cdG32 (.x 9)) hX h7 hs hi cdh32 (fun _ => gd_hold tells_any cdk32 (cdw0 hX h8 hm h9 hd)) (fun h => gd_run hX cdq32 (cdg33 hX h7 hs h8 hm h9 hd h))
include hX h7 hs h8 hm h9 hd in
theorem cdg31 (hi : 31 ≤ s) : GD X (cdA31 (.x 9) (.x 7)) := gd_head (g := cdG31 (.x 9)) hX h7 hs hi cdh31 (fun _ => gd_hold tells_any cdk31 (cdw0 hX h8 hm h9 hd)) (fun h => gd_run hX cdq31 (cdg32 hX h7 hs h8 hm h9 hd h))
include hX h7 hs h8 hm h9 hd in
theorem cdg30 (hi : 30 ≤ s) : GD X (cdA30 (.x 9) (.x 7)) := gd_head (g := cdG30 (.x 9)) hX h7 hs hi cdh30 (fun _ => gd_hold tells_any cdk30 (cdw0 hX h8 hm h9 hd)) (fun h => gd_run hX cdq30 (cdg31 hX h7 hs h8 hm h9 hd h))
include hX h7 hs h8 hm h9 hd in
theorem cdg29 (hi : 29 ≤ s) : GD X (cdA29 (.x 9) (.x 7)) := gd_head (g := cdG29 (.x 9)) hX h7 hs hi cdh29 (fun _ => gd_hold tells_any cdk29 (cdw0 hX h8 hm h9 hd)) (fun h => gd_run hX cdq29 (cdg30 hX h7 hs h8 hm h9 hd h))
include hX h7 hs h8 hm h9 hd in
theorem cdg28 (hi : 28 ≤ s) : GD X (cdA28 (.x 9) (.x 7)) := gd_head (g := cdG28 (.x 9)) hX h7 hs hi cdh28 (fun _ => gd_hold tells_any cdk28 (cdw0 hX h8 hm h9 hd)) (fun h => gd_run hX cdq28 (cdg29 hX h7 hs h8 hm h9 hd h))
include hX h7 hs h8 hm h9 hd in
theorem cdg27 (hi : 27 ≤ s) : GD X (cdA27 (.x 9) (.x 7)) := gd_head (g := cdG27 (.x 9)) hX h7 hs hi cdh27 (fun _ => gd_hold tells_any cdk27 (cdw0 hX h8 hm h9 hd)) (fun h => gd_run hX cdq27 (cdg28 hX h7 hs h8 hm h9 hd h))
include hX h7 hs h8 hm h9 hd in
theorem cdg26 (hi : 26 ≤ s) : GD X (cdA26 (.x 9) (.x 7)) := gd_head (g := cdG26 (.x 9)) hX h7 hs hi cdh26 (fun _ => gd_hold tells_any cdk26 (cdw0 hX h8 hm h9 hd)) (fun h => gd_run hX cdq26 (cdg27 hX h7 hs h8 hm h9 hd h))
include hX h7 hs h8 hm h9 hd in
theorem cdg25 (hi : 25 ≤ s) : GD X (cdA25 (.x 9) (.x 7)) := gd_head (g := cdG25 (.x 9)) hX h7 hs hi cdh25 (fun _ => gd_hold tells_any cdk25 (cdw0 hX h8 hm h9 hd)) (fun h => gd_run hX cdq25 (cdg26 hX h7 hs h8 hm h9 hd h))
include hX h7 hs h8 hm h9 hd in
theorem cdg24 (hi : 24 ≤ s) : GD X (cdA24 (.x 9) (.x 7)) := gd_head (g := cdG24 (.x 9)) hX h7 hs hi cdh24 (fun _ => gd_hold tells_any cdk24 (cdw0 hX h8 hm h9 hd)) (fun h => gd_run hX cdq24 (cdg25 hX h7 hs h8 hm h9 hd h))
include hX h7 hs h8 hm h9 hd in
theorem cdg23 (hi : 23 ≤ s) : GD X (cdA23 (.x 9) (.x 7)) := gd_head (g := cdG23 (.x 9)) hX h7 hs hi cdh23 (fun _ => gd_hold tells_any cdk23 (cdw0 hX h8 hm h9 hd)) (fun h => gd_run hX cdq23 (cdg24 hX h7 hs h8 hm h9 hd h))
include hX h7 hs h8 hm h9 hd in
theorem cdg22 (hi : 22 ≤ s) : GD X (cdA22 (.x 9) (.x 7)) := gd_head (g := cdG22 (.x 9)) hX h7 hs hi cdh22 (fun _ => gd_hold tells_any cdk22 (cdw0 hX h8 hm h9 hd)) (fun h => gd_run hX cdq22 (cdg23 hX h7 hs h8 hm h9 hd h))
include hX h7 hs h8 hm h9 hd in
theorem cdg21 (hi : 21 ≤ s) : GD X (cdA21 (.x 9) (.x 7)) := gd_head (g := cdG21 (.x 9)) hX h7 hs hi cdh21 (fun _ => gd_hold tells_any cdk21 (cdw0 hX h8 hm h9 hd)) (fun h => gd_run hX cdq21 (cdg22 hX h7 hs h8 hm h9 hd h))
include hX h7 hs h8 hm h9 hd in
theorem cdg20 (hi : 20 ≤ s) : GD X (cdA20 (.x 9) (.x 7)) := gd_head (g := cdG20 (.x 9)) hX h7 hs hi cdh20 (fun _ => gd_hold tells_any cdk20 (cdw0 hX h8 hm h9 hd)) (fun h => gd_run hX cdq20 (cdg21 hX h7 hs h8 hm h9 hd h))
include hX h7 hs h8 hm h9 hd in
theorem cdg19 (hi : 19 ≤ s) : GD X (cdA19 (.x 9) (.x 7)) := gd_head (g := cdG19 (.x 9)) hX h7 hs hi cdh19 (fun _ => gd_hold tells_any cdk19 (cdw0 hX h8 hm h9 hd)) (fun h => gd_run hX cdq19 (cdg20 hX h7 hs h8 hm h9 hd h))
include hX h7 hs h8 hm h9 hd in
theorem cdg18 (hi : 18 ≤ s) : GD X (cdA18 (.x 9) (.x 7)) := gd_head (g := cdG18 (.x 9)) hX h7 hs hi cdh18 (fun _ => gd_hold tells_any cdk18 (cdw0 hX h8 hm h9 hd)) (fun h => gd_run hX cdq18 (cdg19 hX h7 hs h8 hm h9 hd h))
include hX h7 hs h8 hm h9 hd in
theorem cdg17 (hi : 17 ≤ s) : GD X (cdA17 (.x 9) (.x 7)) := gd_head (g := cdG17 (.x 9)) hX h7 hs hi cdh17 (fun _ => gd_hold tells_any cdk17 (cdw0 hX h8 hm h9 hd)) (fun h => gd_run hX cdq17 (cdg18 hX h7 hs h8 hm h9 hd h))
include hX h7 hs h8 hm h9 hd in
theorem cdg16 (hi : 16 ≤ s) : GD X (cdA16 (.x 9) (.x 7)) := gd_head (g := cdG16 (.x 9)) hX h7 hs hi cdh16 (fun _ => gd_hold tells_any cdk16 (cdw0 hX h8 hm h9 hd)) (fun h => gd_run hX cdq16 (cdg17 hX h7 hs h8 hm h9 hd h))
include hX h7 hs h8 hm h9 hd in
theorem cdg15 (hi : 15 ≤ s) : GD X (cdA15 (.x 9) (.x 7)) := gd_head (g := cdG15 (.x 9)) hX h7 hs hi cdh15 (fun _ => gd_hold tells_any cdk15 (cdw0 hX h8 hm h9 hd)) (fun h => gd_run hX cdq15 (cdg16 hX h7 hs h8 hm h9 hd h))
include hX h7 hs h8 hm h9 hd in
theorem cdg14 (hi : 14 ≤ s) : GD X (cdA14 (.x 9) (.x 7)) := gd_head (g := cdG14 (.x 9)) hX h7 hs hi cdh14 (fun _ => gd_hold tells_any cdk14 (cdw0 hX h8 hm h9 hd)) (fun h => gd_run hX cdq14 (cdg15 hX h7 hs h8 hm h9 hd h))
include hX h7 hs h8 hm h9 hd in
theorem cdg13 (hi : 13 ≤ s) : GD X (cdA13 (.x 9) (.x 7)) := gd_head (g := cdG13 (.x 9)) hX h7 hs hi cdh13 (fun _ => gd_hold tells_any cdk13 (cdw0 hX h8 hm h9 hd)) (fun h => gd_run hX cdq13 (cdg14 hX h7 hs h8 hm h9 hd h))
include hX h7 hs h8 hm h9 hd in
theorem cdg12 (hi : 12 ≤ s) : GD X (cdA12 (.x 9) (.x 7)) := gd_head (g := cdG12 (.x 9)) hX h7 hs hi cdh12 (fun _ => gd_hold tells_any cdk12 (cdw0 hX h8 hm h9 hd)) (fun h => gd_run hX cdq12 (cdg13 hX h7 hs h8 hm h9 hd h))
include hX h7 hs h8 hm h9 hd in
theorem cdg11 (hi : 11 ≤ s) : GD X (cdA11 (.x 9) (.x 7)) := gd_head (g := cdG11 (.x 9)) hX h7 hs hi cdh11 (fun _ => gd_hold tells_any cdk11 (cdw0 hX h8 hm h9 hd)) (fun h => gd_run hX cdq11 (cdg12 hX h7 hs h8 hm h9 hd h))
include hX h7 hs h8 hm h9 hd in
theorem cdg10 (hi : 10 ≤ s) : GD X (cdA10 (.x 9) (.x 7)) := gd_head (g := cdG10 (.x 9)) hX h7 hs hi cdh10 (fun _ => gd_hold tells_any cdk10 (cdw0 hX h8 hm h9 hd)) (fun h => gd_run hX cdq10 (cdg11 hX h7 hs h8 hm h9 hd h))
include hX h7 hs h8 hm h9 hd in
theorem cdg9 (hi : 9 ≤ s) : GD X (cdA9 (.x 9) (.x 7)) := gd_head (g := cdG9 (.x 9)) hX h7 hs hi cdh9 (fun _ => gd_hold tells_any cdk9 (cdw0 hX h8 hm h9 hd)) (fun h => gd_run hX cdq9 (cdg10 hX h7 hs h8 hm h9 hd h))
include hX h7 hs h8 hm h9 hd in
theorem cdg8 (hi : 8 ≤ s) : GD X (cdA8 (.x 9) (.x 7)) := gd_head (g := cdG8 (.x 9)) hX h7 hs hi cdh8 (fun _ => gd_hold tells_any cdk8 (cdw0 hX h8 hm h9 hd)) (fun h => gd_run hX cdq8 (cdg9 hX h7 hs h8 hm h9 hd h))
include hX h7 hs h8 hm h9 hd in
theorem cdg7 (hi : 7 ≤ s) : GD X (cdA7 (.x 9) (.x 7)) := gd_head (g := cdG7 (.x 9)) hX h7 hs hi cdh7 (fun _ => gd_hold tells_any cdk7 (cdw0 hX h8 hm h9 hd)) (fun h => gd_run hX cdq7 (cdg8 hX h7 hs h8 hm h9 hd h))
include hX h7 hs h8 hm h9 hd in
theorem cdg6 (hi : 6 ≤ s) : GD X (cdA6 (.x 9) (.x 7)) := gd_head (g := cdG6 (.x 9)) hX h7 hs hi cdh6 (fun _ => gd_hold tells_any cdk6 (cdw0 hX h8 hm h9 hd)) (fun h => gd_run hX cdq6 (cdg7 hX h7 hs h8 hm h9 hd h))
include hX h7 hs h8 hm h9 hd in
theorem cdg5 (hi : 5 ≤ s) : GD X (cdA5 (.x 9) (.x 7)) := gd_head (g := cdG5 (.x 9)) hX h7 hs hi cdh5 (fun _ => gd_hold tells_any cdk5 (cdw0 hX h8 hm h9 hd)) (fun h => gd_run hX cdq5 (cdg6 hX h7 hs h8 hm h9 hd h))
include hX h7 hs h8 hm h9 hd in
theorem cdg4 (hi : 4 ≤ s) : GD X (cdA4 (.x 9) (.x 7)) := gd_head (g := cdG4 (.x 9)) hX h7 hs hi cdh4 (fun _ => gd_hold tells_any cdk4 (cdw0 hX h8 hm h9 hd)) (fun h => gd_run hX cdq4 (cdg5 hX h7 hs h8 hm h9 hd h))
include hX h7 hs h8 hm h9 hd in
theorem cdg3 (hi : 3 ≤ s) : GD X (cdA3 (.x 9) (.x 7)) := gd_head (g := cdG3 (.x 9)) hX h7 hs hi cdh3 (fun _ => gd_hold tells_any cdk3 (cdw0 hX h8 hm h9 hd)) (fun h => gd_run hX cdq3 (cdg4 hX h7 hs h8 hm h9 hd h))
include hX h7 hs h8 hm h9 hd in
theorem cdg2 (hi : 2 ≤ s) : GD X (cdA2 (.x 9) (.x 7)) := gd_head (g := cdG2 (.x 9)) hX h7 hs hi cdh2 (fun _ => gd_hold tells_any cdk2 (cdw0 hX h8 hm h9 hd)) (fun h => gd_run hX cdq2 (cdg3 hX h7 hs h8 hm h9 hd h))
include hX h7 hs h8 hm h9 hd in
theorem cdg1 (hi : 1 ≤ s) : GD X (cdA1 (.x 9) (.x 7)) := gd_head (g := cdG1 (.x 9)) hX h7 hs hi cdh1 (fun _ => gd_hold tells_any cdk1 (cdw0 hX h8 hm h9 hd)) (fun h => gd_run hX cdq1 (cdg2 hX h7 hs h8 hm h9 hd h))
include hX h7 hs h8 hm h9 hd in
theorem cdg0 (hi : 0 ≤ s) : GD X (cdA0 (.x 9) (.x 7)) := gd_head (g := cdG0 (.x 9)) hX h7 hs hi cdh0 (fun _ => gd_hold tells_any cdk0 (cdw0 hX h8 hm h9 hd)) (fun h => gd_run hX cdq0 (cdg1 hX h7 hs h8 hm h9 hd h))
end
theorem delivers_walk (w : World) (z1 z2 z3 : Int) :
    Calls Tryz.prog 10 #[.int .i64 z1, .int .i64 z2, .int .i64 z3] w fun e w' => e = .returned (.bool true) ∧ Keeps (fun k => w.heap.size ≤ k) w w' := by
  obtain ⟨r, hr, e1⟩ : ∃ r : Nat, r < 2 ^ 6 ∧ z1 % (2 ^ 6 : Nat) = (r : Int) := ⟨(z1 % 64).toNat, by omega, by omega⟩
  obtain ⟨s, hs, e2⟩ : ∃ s : Nat, s < 2 ^ 3 ∧ z2 % (2 ^ 3 : Nat) = (s : Int) := ⟨(z2 % 8).toNat, by omega, by omega⟩
  obtain ⟨u, hu, e3⟩ : ∃ u : Nat, u < 2 ^ 2 ∧ z3 % (2 ^ 2 : Nat) = (u : Int) := ⟨(z3 % 4).toNat, by omega, by omega⟩
  have hX : XOk (XD (cod r 6 0) (cod s 3 1) (cod u 2 2) z1 z2 z3 (Int.ofNat r) (Int.ofNat s) (Int.ofNat u)) := XD_ok hr hs hu e1 e2 e3
  have g0 := cdg0 hX XD_7 hr XD_8 hs XD_9 hu (Nat.zero_le _)
  refine (calls_of_args (M := nthN masks) (args := #[Value.int .i64 z1, .int .i64 z2, .int .i64 z3]) Tryz.func10 rfl (XD_args (r := r) (s := s) (u := u) (z1 := z1) (z2 := z2) (z3 := z3) (t := Int.ofNat r) (m := Int.ofNat s) (d := Int.ofNat u)) (R := fun v w' => v = .bool true ∧ Keeps (fun _ => False) w w') fun C0 => ?_).mono ?_
  · exact gd_tell (S := cd0 r s u) hX (tells_orD (tells_exX XD_7) (tells_orD (tells_exX XD_8) (tells_exX XD_9))) (allB_ok (allB_ok (allB_ok cdb r hr) s hs) u hu) (gd_run hX cdp0 (gd_run hX cdp1 (gd_run hX cdp2 (gd_run hX cdp3 g0)))) w C0
  · rintro e w' h
    cases e with
    | returned v => exact ⟨congrArg Ending.returned h.1, h.2.mono fun _ _ h => h.elim⟩
    | panicked c => exact h.elim
    | outgrown => exact h.elim

end Go.Proofs.YtegafdkhbgojcaaGreatDoor.Ek
