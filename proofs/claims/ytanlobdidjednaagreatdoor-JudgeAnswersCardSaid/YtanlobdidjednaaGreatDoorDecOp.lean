/- How operations and commands are read. No condition. -/
import Derived.Test.YtanlobdidjednaaGreatDoorOpen
import Derived.Test.YtanlobdidjednaaGreatDoorOpsM
set_option linter.unusedVariables false
namespace Go.Proofs.YtanlobdidjednaaGreatDoor
open Go.RowKit Go.ChangeShapes Go.WideShapes Go.Deep

def I64 (n : Int) : Prop := -9223372036854775808 ≤ n ∧ n ≤ 9223372036854775807
section
variable {H : Type} {enc : TypeId × Value → H} {P : Program} {w : World} {base : Nat} {spare : Nat → Bool} {held : Bool} {r : Reach} {b0 : Nat}
/-- a parameter that is a struct -/
theorem par_struct {t : TypeId} {fs : Array Field} (ht : P.underlying t = some (.struct fs)) {v : Value} {d : DataW H} {p : List MemPlace} (hv : Value.okWide P w r b0 t v) {α : Type} {f : α → List Value} {good : α → Prop} (hd : Dec enc P w base spare held t f good) (h : DataW.Trod enc P w base spare held t v d p) :
    ∃ a, v = .agg (f a).toArray ∧ good a := by
  obtain ⟨cs, rfl, _⟩ := okWide_struct ht hv
  obtain ⟨fuel, hf⟩ := h
  obtain ⟨a, ha, hg⟩ := hd _ _ _ hf
  refine ⟨a, ?_, hg⟩
  rw [← ha]
  show _ = Value.agg cs.toList.toArray
  simp
end
section
variable {H : Type} {enc : TypeId × Value → H} {w : World} {base : Nat} {spare : Nat → Bool} {held : Bool}
theorem dec_op : Dec enc Tryz.prog w base spare held 71 opC (fun o => OpOk o ∧ I64 o.does ∧ I64 o.version) := by
  intro fuel cs x h
  obtain ⟨hl, n, hf⟩ := dec_fields Tryz.underlying71 (by kernel_rfl) (by kernel_rfl) h
  match cs, hl with
  | [c0, c1, c2, c3, c4, c5], _ =>
    obtain ⟨v0, y0, e0, t0⟩ := hf 0 _ rfl
    obtain ⟨v1, y1, e1, t1⟩ := hf 1 _ rfl
    obtain ⟨v2, y2, e2, t2⟩ := hf 2 _ rfl
    obtain ⟨v3, y3, e3, t3⟩ := hf 3 _ rfl
    obtain ⟨v4, y4, e4, t4⟩ := hf 4 _ rfl
    obtain ⟨v5, y5, e5, t5⟩ := hf 5 _ rfl
    simp only [List.getElem?_cons_zero, List.getElem?_cons_succ, Option.some.injEq] at e0 e1 e2 e3 e4 e5
    subst e0 e1 e2 e3 e4 e5
    obtain ⟨a0, h0, g0⟩ := dec_int Tryz.underlying69 _ _ _ t0
    obtain ⟨a1, h1, g1⟩ := dec_string Tryz.underlying9 _ _ _ t1
    obtain ⟨a2, h2, g2⟩ := dec_string Tryz.underlying9 _ _ _ t2
    obtain ⟨a3, h3, g3⟩ := dec_int Tryz.underlying3 _ _ _ t3
    obtain ⟨a4, h4, g4⟩ := dec_bool Tryz.underlying4 _ _ _ t4
    obtain ⟨a5, h5, g5⟩ := dec_bool Tryz.underlying4 _ _ _ t5
    simp only [List.cons.injEq, and_true] at h0 h1 h2 h3 h4 h5
    subst h0 h1 h2 h3 h4 h5
    exact ⟨⟨a0, a1, a2, a3, a4, a5⟩, rfl, ⟨g1, g2⟩, g0, g3⟩
def CmdI (c : CmdT) : Prop := I64 c.kind ∧ I64 c.session ∧ I64 c.req ∧ I64 c.noted ∧ ∀ o ∈ c.ops, I64 o.does ∧ I64 o.version
theorem dec_cmd : Dec enc Tryz.prog w base spare held 35 (fun q : CmdT × Option Addr × Nat => cmdL q.1 q.2.1 q.2.2) (fun q => OpSrc w q.2.1 q.1.ops ∧ CmdOk q.1 ∧ CmdI q.1) := by
  intro fuel cs x h
  obtain ⟨hl, n, hf⟩ := dec_fields Tryz.underlying35 (by kernel_rfl) (by kernel_rfl) h
  match cs, hl with
  | [c0, c1, c2, c3, c4, c5, c6, c7], _ =>
    obtain ⟨v0, y0, e0, t0⟩ := hf 0 _ rfl
    obtain ⟨v1, y1, e1, t1⟩ := hf 1 _ rfl
    obtain ⟨v2, y2, e2, t2⟩ := hf 2 _ rfl
    obtain ⟨v3, y3, e3, t3⟩ := hf 3 _ rfl
    obtain ⟨v4, y4, e4, t4⟩ := hf 4 _ rfl
    obtain ⟨v5, y5, e5, t5⟩ := hf 5 _ rfl
    obtain ⟨v6, y6, e6, t6⟩ := hf 6 _ rfl
    obtain ⟨v7, y7, e7, t7⟩ := hf 7 _ rfl
    simp only [List.getElem?_cons_zero, List.getElem?_cons_succ, Option.some.injEq] at e0 e1 e2 e3 e4 e5 e6 e7
    subst e0 e1 e2 e3 e4 e5 e6 e7
    obtain ⟨a0, h0, g0⟩ := dec_int Tryz.underlying32 _ _ _ t0
    obtain ⟨a1, h1, g1⟩ := dec_int Tryz.underlying3 _ _ _ t1
    obtain ⟨a2, h2, g2⟩ := dec_int Tryz.underlying3 _ _ _ t2
    obtain ⟨a3, h3, g3⟩ := dec_int Tryz.underlying3 _ _ _ t3
    obtain ⟨a4, h4, g4⟩ := (dec_slice Tryz.underlying33 dec_op) _ _ _ t4
    obtain ⟨a5, h5, g5⟩ := dec_string Tryz.underlying9 _ _ _ t5
    obtain ⟨a6, h6, g6⟩ := dec_bool Tryz.underlying4 _ _ _ t6
    obtain ⟨a7, h7, g7⟩ := dec_bool Tryz.underlying4 _ _ _ t7
    simp only [List.cons.injEq, and_true] at h0 h1 h2 h3 h4 h5 h6 h7
    subst h0 h1 h2 h3 h4 h5 h6 h7
    exact ⟨(⟨a0, a1, a2, a3, a4.2.2, a5, a6, a7⟩, a4.1, a4.2.1), rfl, (by have := g4.1; rw [show Tryz.prog.cellsOf 71 = 6 from by kernel_rfl] at this; exact this), ⟨g5, g4.2.2, fun o ho => (g4.2.1 o ho).1⟩, g0, g1, g2, g3, fun o ho => (g4.2.1 o ho).2⟩
end

end Go.Proofs.YtanlobdidjednaaGreatDoor
