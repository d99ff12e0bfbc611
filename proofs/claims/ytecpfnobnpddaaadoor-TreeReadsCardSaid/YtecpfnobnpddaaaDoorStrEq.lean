/- Structs compared, field by field, over any program. No condition. -/
import Derived.Test.YtecpfnobnpddaaaDoorBase
set_option linter.unusedVariables false
set_option linter.unusedSimpArgs false
namespace Go.Proofs.YtecpfnobnpddaaaDoor
open Go.RowKit

theorem wf_cons {P : Program} {w : World} {d : Nat} {xs ys : Array Value} {f : Field} {fs : List Field} (a b : Value) {r s : Bool} (hn : f.name ≠ "_") (ha : (part f.type xs f.offset).run P w = .ok a w) (hb : (part f.type ys f.offset).run P w = .ok b w)
    (hr : (Op.equalIn d f.type a b).run P w = .ok r w) (hrest : (Op.eqFields d xs ys fs).run P w = .ok s w) : (Op.eqFields d xs ys (f :: fs)).run P w = .ok (r && s) w := by
  unfold Op.eqFields
  rw [if_pos hn]
  simp only [Sem.run_bind, ha, hb, hr, Result.andThen_ok]
  cases r <;> simp [hrest]
theorem wneq_of {P : Program} {w : World} {t : TypeId} {fs : Array Field} {xs ys : Array Value} {b : Bool} (ht : P.underlying t = some (.struct fs)) (hp : P.stoodInHeld t = false) (h : (Op.eqFields 9999 xs ys fs.toList).run P w = .ok b w) :
    (binOp .neq t (.agg xs) (.agg ys)).run P w = .ok (.bool (!b)) w := by
  have e : P.fieldsOf t = fs := by simp [Program.fieldsOf, ht]
  subst e
  rw [run_neq_struct, run_equalIn_struct _ 9999 _ _ _ ht hp, h]
  rfl
theorem weq_of {P : Program} {w : World} {t : TypeId} {fs : Array Field} {xs ys : Array Value} {b : Bool} (ht : P.underlying t = some (.struct fs)) (hp : P.stoodInHeld t = false) (h : (Op.eqFields 9999 xs ys fs.toList).run P w = .ok b w) :
    (binOp .eql t (.agg xs) (.agg ys)).run P w = .ok (.bool b) w := by
  have e : P.fieldsOf t = fs := by simp [Program.fieldsOf, ht]
  subst e
  rw [run_eql_struct, run_equalIn_struct _ 9999 _ _ _ ht hp, h]
  rfl
theorem wstr_eq {P : Program} {w : World} {d : Nat} {t : TypeId} {a b : List UInt8} (h : P.underlying t = some .string) : (Op.equalIn (d + 1) t (.string (S a)) (.string (S b))).run P w = .ok (a == b) w := by
  rw [run_equalIn_string _ _ _ _ _ h]; simp

end Go.Proofs.YtecpfnobnpddaaaDoor
