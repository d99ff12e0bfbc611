/- How a list of acts is read. No condition. -/
import Derived.Test.YtcnehacblodiaaaOpen
import Derived.Test.YtcnehacblodiaaaActs
set_option linter.unusedVariables false
namespace Go.Proofs.Ytcnehacblodiaaa
open Go.RowKit Go.ChangeShapes Go.WideShapes Go.Deep

section
variable {H : Type} {enc : TypeId × Value → H} {w : World} {base : Nat} {spare : Nat → Bool} {held : Bool}
theorem dec_act : Dec enc Try.prog w base spare held 38 actC (fun a => a.2.2.2.length ≤ 9223372036854775807 ∧ (-9223372036854775808 ≤ a.1 ∧ a.1 ≤ 9223372036854775807) ∧ (-9223372036854775808 ≤ a.2.1 ∧ a.2.1 ≤ 9223372036854775807) ∧ (-9223372036854775808 ≤ a.2.2.1 ∧ a.2.2.1 ≤ 9223372036854775807)) := by
  intro fuel cs x h
  obtain ⟨hl, n, hf⟩ := dec_fields Try.underlying38 (by kernel_rfl) (by kernel_rfl) h
  match cs, hl with
  | [c0, c1, c2, c3], _ =>
    obtain ⟨v0, y0, e0, t0⟩ := hf 0 _ rfl
    obtain ⟨v1, y1, e1, t1⟩ := hf 1 _ rfl
    obtain ⟨v2, y2, e2, t2⟩ := hf 2 _ rfl
    obtain ⟨v3, y3, e3, t3⟩ := hf 3 _ rfl
    simp only [List.getElem?_cons_zero, List.getElem?_cons_succ, Option.some.injEq] at e0 e1 e2 e3
    subst e0 e1 e2 e3
    obtain ⟨a0, h0, g0⟩ := dec_int Try.underlying3 _ _ _ t0
    obtain ⟨a1, h1, g1⟩ := dec_int Try.underlying3 _ _ _ t1
    obtain ⟨a2, h2, g2⟩ := dec_int Try.underlying3 _ _ _ t2
    obtain ⟨a3, h3, g3⟩ := dec_string Try.underlying9 _ _ _ t3
    simp only [List.cons.injEq, and_true] at h0 h1 h2 h3
    subst h0 h1 h2 h3
    exact ⟨(a0, a1, a2, a3), rfl, g3, g0, g1, g2⟩
end

end Go.Proofs.Ytcnehacblodiaaa
