/- Contracts of the package watch: Noted, Drop of a book. No condition. -/
import Derived.Test.YtecpfnobnpddaaaDoorBookD
set_option linter.unusedVariables false
set_option linter.unusedSimpArgs false
namespace Go.Proofs.YtecpfnobnpddaaaDoor
open Go.RowKit

def notedF (B : BookT) (sess no : Int) : BookT := { B with es := B.es.filter fun x => !decide (x.session = sess ∧ x.no ≤ no) }
def dropF (B : BookT) (sess : Int) : BookT := ⟨B.ws.filter fun x => !decide (x.session = sess), B.es.filter fun x => !decide (x.session = sess), mdel B.nos sess⟩

end Go.Proofs.YtecpfnobnpddaaaDoor
