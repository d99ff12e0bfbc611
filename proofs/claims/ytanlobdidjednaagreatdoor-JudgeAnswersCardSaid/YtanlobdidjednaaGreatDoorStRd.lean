/- A state read out of bytes, walked. No condition. -/
import Derived.Test.YtanlobdidjednaaGreatDoorStCl
import Derived.Test.YtanlobdidjednaaGreatDoorTRdW
import Derived.Test.YtanlobdidjednaaGreatDoorSessM
import Derived.Test.YtanlobdidjednaaGreatDoorBooM
set_option linter.unusedVariables false
set_option linter.unusedSimpArgs false
namespace Go.Proofs.YtanlobdidjednaaGreatDoor
open Go.RowKit

/-- what is read, and what is left -/
def rdS (tx : List UInt8) : StT × RS :=
  (⟨(readTr (rn (tx, false) 281474976710655).2).1, (readT (readTr (rn (tx, false) 281474976710655).2).2).1, (readB (readT (readTr (rn (tx, false) 281474976710655).2).2).2).1, (rn (tx, false) 281474976710655).1⟩, (readB (readT (readTr (rn (tx, false) 281474976710655).2).2).2).2)
end Go.Proofs.YtanlobdidjednaaGreatDoor
