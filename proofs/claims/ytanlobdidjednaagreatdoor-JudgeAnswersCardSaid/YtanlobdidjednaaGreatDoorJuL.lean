/- JudgeLate, walked. No condition. -/
import Derived.Test.YtanlobdidjednaaGreatDoorJuM
set_option linter.unusedVariables false
set_option linter.unusedSimpArgs false
namespace Go.Proofs.YtanlobdidjednaaGreatDoor
open Go.RowKit

theorem SeenOk.known {T : List (List UInt8)} {sn : List Bool} {m : JTx} {ss : List StT} (h : SeenOk T sn m) (hJ : JOk m ss) (hf : mget m (ss.length : Int) = none) {k : Nat} (hk : k ≤ T.length) (h1 : ∀ i, i < k → sn[i + 1]? = some true) (h2 : sn[k + 1]? = some false) : ss.length = k + 1 :=
  hJ.known hf (k := k) (fun j h3 h4 => by
    obtain ⟨j, rfl⟩ : ∃ i, j = i + 1 := ⟨j - 1, by omega⟩
    rw [h.got j (by omega) (h1 j (by omega)), List.getElem?_eq_getElem (by omega)]
    rfl) (by have := h.lack _ h2; rw [← this]; congr 1)

end Go.Proofs.YtanlobdidjednaaGreatDoor
