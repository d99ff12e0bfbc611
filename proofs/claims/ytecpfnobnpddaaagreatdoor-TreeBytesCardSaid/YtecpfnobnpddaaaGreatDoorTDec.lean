/- How a list of acts of layer 9 is read. No condition. -/
import Derived.Test.YtecpfnobnpddaaaGreatDoorOpen
import Derived.Test.YtecpfnobnpddaaaGreatDoorTActs
set_option linter.unusedVariables false
namespace Go.Proofs.YtecpfnobnpddaaaGreatDoor
open Go.RowKit Go.ChangeShapes Go.WideShapes Go.Deep

section
variable {H : Type} {enc : TypeId × Value → H} {w : World} {base : Nat} {spare : Nat → Bool} {held : Bool}
theorem dec_tact : Dec enc Tryz.prog w base spare held 54 actTC (fun a => Src w 1 a.pa a.path.length (Is a.path) ∧ a.raw.length ≤ 9223372036854775807 ∧ a.data.length ≤ 9223372036854775807) := by
  intro fuel cs x h
  obtain ⟨hl, n, hf⟩ := dec_fields Tryz.underlying54 (by kernel_rfl) (by kernel_rfl) h
  match cs, hl with
  | [c0, c1, c2, c3, c4, c5, c6], _ =>
    obtain ⟨v0, y0, e0, t0⟩ := hf 0 _ rfl
    obtain ⟨v1, y1, e1, t1⟩ := hf 1 _ rfl
    obtain ⟨v2, y2, e2, t2⟩ := hf 2 _ rfl
    obtain ⟨v3, y3, e3, t3⟩ := hf 3 _ rfl
    obtain ⟨v4, y4, e4, t4⟩ := hf 4 _ rfl
    obtain ⟨v5, y5, e5, t5⟩ := hf 5 _ rfl
    obtain ⟨v6, y6, e6, t6⟩ := hf 6 _ rfl
    simp only [List.getElem?_cons_zero, List.getElem?_cons_succ, Option.some.injEq] at e0 e1 e2 e3 e4 e5 e6
    subst e0 e1 e2 e3 e4 e5 e6
    obtain ⟨a0, h0, g0⟩ := dec_int Tryz.underlying3 _ _ _ t0
    obtain ⟨a1, h1, g1⟩ := dec_int Tryz.underlying3 _ _ _ t1
    obtain ⟨a2, h2, g2⟩ := dec_int Tryz.underlying3 _ _ _ t2
    obtain ⟨⟨pa, pc, ps⟩, h3, g3, _⟩ := dec_slice Tryz.underlying33 (dec_int Tryz.underlying3) _ _ _ t3
    obtain ⟨a4, h4, g4⟩ := dec_string Tryz.underlying9 _ _ _ t4
    obtain ⟨a5, h5, g5⟩ := dec_string Tryz.underlying9 _ _ _ t5
    obtain ⟨a6, h6, g6⟩ := dec_bool Tryz.underlying4 _ _ _ t6
    simp only [List.cons.injEq, and_true] at h0 h1 h2 h3 h4 h5 h6
    subst h0 h1 h2 h3 h4 h5 h6
    rw [show Tryz.prog.cellsOf 3 = 1 from by kernel_rfl, flatMap_Is] at g3
    exact ⟨⟨a0, a1, a2, pa, pc, ps, a4, a5, a6⟩, rfl, g3, g4, g5⟩
end
end Go.Proofs.YtecpfnobnpddaaaGreatDoor
