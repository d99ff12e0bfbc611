/- Contracts of the package tree: Read. No condition. -/
import Derived.Test.YtanlobdidjednaaGreatDoorTRd
import Derived.StillTailTactics
set_option linter.unusedVariables false
set_option linter.unusedSimpArgs false
namespace Go.Proofs.YtanlobdidjednaaGreatDoor
open Go.RowKit

theorem look_any {g w : World} {L : List Asn} {mb : Nat} {T : TreeT} (S0 : Sat g w (mapA kS nodV mb T :: L)) (k : List UInt8) :
    (Instr.lookup 112 (.map (some mb)) (.string (S k)) true).run Tryz.prog w = .ok (.tuple #[nodV ((mget T k).getD zN), .bool (mget T k).isSome]) w := by
  cases h : mget T k with
  | none => exact look_non S0 h true
  | some n => exact look_node S0 h true

end Go.Proofs.YtanlobdidjednaaGreatDoor
