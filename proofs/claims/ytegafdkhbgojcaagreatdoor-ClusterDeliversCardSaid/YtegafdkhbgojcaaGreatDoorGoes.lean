/- No function of the program starts a goroutine. No condition. -/
import Derived.Test.YtegafdkhbgojcaaGreatDoorFacts
set_option linter.unusedVariables false
set_option maxRecDepth 100000
namespace Go.Proofs.YtegafdkhbgojcaaGreatDoor
theorem goes_none {P : Program} (h : (P.funcs.toList.all fun fn => !fn.goes) = true) (f : FuncId) : P.goes f = false := by
  have key : ∀ g : Nat, (P.funcs[g]?).any Func.goes = false := fun g => by
    cases e : P.funcs[g]? with
    | none => rfl
    | some fn =>
      have hm : fn ∈ P.funcs.toList := by
        have := List.mem_of_getElem? (l := P.funcs.toList) (i := g) (a := fn) (by simpa using e)
        exact this
      have := List.all_eq_true.1 h fn hm
      simpa using this
  have all : P.funcs.any Func.goes = false := by
    rw [← Array.any_toList]
    rw [List.any_eq_false]
    intro fn hm
    have := List.all_eq_true.1 h fn hm
    simpa using this
  unfold Program.goes
  rw [all, Bool.and_false, Bool.or_false]
  simp only [key]
  simp
theorem goesBy_none {P : Program} (h : (P.funcs.toList.all fun fn => !fn.goes) = true) (c : OpenClaim) : false = c.goesBy P := by
  unfold OpenClaim.goesBy Program.goesAt Program.goesFrom
  have hg := goes_none h
  have h1 : (P.funcNamed c.func).any P.goes = false := by
    cases P.funcNamed c.func with
    | none => rfl
    | some f => exact hg f
  rw [h1]
  split
  · rfl
  · simp [hg]
theorem fact_goes : (Tryz.prog.funcs.toList.all fun fn => !fn.goes) = true := by kernel_rfl
end Go.Proofs.YtegafdkhbgojcaaGreatDoor
