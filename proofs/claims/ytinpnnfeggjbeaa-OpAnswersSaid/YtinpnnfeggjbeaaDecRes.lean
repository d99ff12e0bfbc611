/- How results are read. No condition. -/
import Derived.Test.YtinpnnfeggjbeaaDecOp
import Derived.Test.YtinpnnfeggjbeaaRes
set_option linter.unusedVariables false
namespace Go.Proofs.Ytinpnnfeggjbeaa
open Go.RowKit Go.ChangeShapes Go.WideShapes Go.Deep
section
variable {H : Type} {enc : TypeId × Value → H} {w : World} {base : Nat} {spare : Nat → Bool} {held : Bool}
theorem dec_out : Dec enc Try.prog w base spare held 62 outC (fun o => o.path.length ≤ 9223372036854775807 ∧ I64 o.version) := by
  intro fuel cs x h
  obtain ⟨hl, n, hf⟩ := dec_fields Try.underlying62 (by kernel_rfl) (by kernel_rfl) h
  match cs, hl with
  | [c0, c1], _ =>
    obtain ⟨v0, y0, e0, t0⟩ := hf 0 _ rfl
    obtain ⟨v1, y1, e1, t1⟩ := hf 1 _ rfl
    simp only [List.getElem?_cons_zero, List.getElem?_cons_succ, Option.some.injEq] at e0 e1
    subst e0 e1
    obtain ⟨a0, h0, g0⟩ := dec_string Try.underlying9 _ _ _ t0
    obtain ⟨a1, h1, g1⟩ := dec_int Try.underlying3 _ _ _ t1
    simp only [List.cons.injEq, and_true] at h0 h1
    subst h0 h1
    exact ⟨⟨a0, a1⟩, rfl, g0, g1⟩
theorem dec_res : Dec enc Try.prog w base spare held 58 (fun q : ResT × Option Addr × Nat => [.int .i64 q.1.e, .int .i64 q.1.at_, .slice q.2.1 q.1.outs.length q.2.2, .int .i64 q.1.when]) (fun q => OutSrc w q.2.1 q.1.outs ∧ q.1.outs.length ≤ 9223372036854775807 ∧ ∀ o ∈ q.1.outs, o.path.length ≤ 9223372036854775807) := by
  intro fuel cs x h
  obtain ⟨hl, n, hf⟩ := dec_fields Try.underlying58 (by kernel_rfl) (by kernel_rfl) h
  match cs, hl with
  | [c0, c1, c2, c3], _ =>
    obtain ⟨v0, y0, e0, t0⟩ := hf 0 _ rfl
    obtain ⟨v1, y1, e1, t1⟩ := hf 1 _ rfl
    obtain ⟨v2, y2, e2, t2⟩ := hf 2 _ rfl
    obtain ⟨v3, y3, e3, t3⟩ := hf 3 _ rfl
    simp only [List.getElem?_cons_zero, List.getElem?_cons_succ, Option.some.injEq] at e0 e1 e2 e3
    subst e0 e1 e2 e3
    obtain ⟨a0, h0, g0⟩ := dec_int Try.underlying27 _ _ _ t0
    obtain ⟨a1, h1, g1⟩ := dec_int Try.underlying3 _ _ _ t1
    obtain ⟨a2, h2, g2⟩ := (dec_slice Try.underlying56 dec_out) _ _ _ t2
    obtain ⟨a3, h3, g3⟩ := dec_int Try.underlying3 _ _ _ t3
    simp only [List.cons.injEq, and_true] at h0 h1 h2 h3
    subst h0 h1 h2 h3
    exact ⟨(⟨a0, a1, a2.2.2, a3⟩, a2.1, a2.2.1), rfl, (by have := g2.1; rw [show Try.prog.cellsOf 62 = 2 from by kernel_rfl] at this; exact this), g2.2.2, fun o ho => (g2.2.1 o ho).1⟩
end

end Go.Proofs.Ytinpnnfeggjbeaa
