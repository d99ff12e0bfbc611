/- Contracts of the package tree: Lay. No condition. -/
import Derived.Test.YtanlobdidjednaaGreatDoorTRd
import Derived.Deep.RegionHeld3
set_option linter.unusedVariables false
set_option linter.unusedSimpArgs false
namespace Go.Proofs.YtanlobdidjednaaGreatDoor
open Go.RowKit

theorem nodB_le (p : List UInt8 × NodeT) : (nodB p).length ≤ 131110 := by
  have h1 := txts_le [p.1, p.2.data]
  have h2 := nums_length [p.2.version, p.2.below, p.2.owner, p.2.made, p.2.set, p.2.serial]
  simp only [List.length_cons, List.length_nil] at h1 h2
  unfold nodB
  rw [List.length_append]
  omega
theorem nods_le (l : TreeT) : (l.flatMap nodB).length ≤ 131110 * l.length := by
  induction l with
  | nil => simp
  | cons a r ih =>
    have := nodB_le a
    rw [List.flatMap_cons, List.length_append, List.length_cons]
    omega
theorem normN_length (T : TreeT) : (normN T).length = T.length := by unfold normN; rw [List.length_map, pathsF_length]
theorem normN_at (T : TreeT) (k : Nat) (s : List UInt8) (h : (pathsF T)[k]? = some s) : (normN T)[k]? = some (s, (mget T s).getD zN) := by
  unfold normN
  rw [List.getElem?_map, h]
  rfl
theorem take_flatN (l : TreeT) (k : Nat) (p : List UInt8 × NodeT) (h : l[k]? = some p) : (l.take (k + 1)).flatMap nodB = (l.take k).flatMap nodB ++ nodB p := by
  obtain ⟨hk, e⟩ := List.getElem?_eq_some_iff.1 h
  rw [List.take_succ_eq_append_getElem hk, List.flatMap_append, e]
  simp

end Go.Proofs.YtanlobdidjednaaGreatDoor
