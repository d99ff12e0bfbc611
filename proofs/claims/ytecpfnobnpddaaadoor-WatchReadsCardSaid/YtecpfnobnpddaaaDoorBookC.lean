/- Contracts of the package watch: the closures of Drop and Noted; Drop, Noted, Events, Watches. No condition. -/
import Derived.Test.YtecpfnobnpddaaaDoorBook
set_option linter.unusedVariables false
set_option linter.unusedSimpArgs false
namespace Go.Proofs.YtecpfnobnpddaaaDoor
open Go.RowKit

end Go.Proofs.YtecpfnobnpddaaaDoor
