/- The statements' own helper: which texts may be parts. No condition. -/
import Derived.Test.YtecpfnobnpddaaaDoorMade
set_option linter.unusedVariables false
set_option linter.unusedSimpArgs false
namespace Go.Proofs.YtecpfnobnpddaaaDoor
open Go.RowKit

end Go.Proofs.YtecpfnobnpddaaaDoor
