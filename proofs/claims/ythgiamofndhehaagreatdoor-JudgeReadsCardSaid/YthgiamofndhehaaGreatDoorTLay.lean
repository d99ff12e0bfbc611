/- Contracts of the package tree: Lay. No condition. -/
import Derived.Test.YthgiamofndhehaaGreatDoorTRd
import Derived.Deep.RegionHeld3
set_option linter.unusedVariables false
set_option linter.unusedSimpArgs false
namespace Go.Proofs.YthgiamofndhehaaGreatDoor
open Go.RowKit

end Go.Proofs.YthgiamofndhehaaGreatDoor
