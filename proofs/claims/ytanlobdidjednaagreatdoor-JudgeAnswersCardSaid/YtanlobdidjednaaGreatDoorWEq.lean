/- Books that are equal but for the order of the numbers. No condition. -/
import Derived.Test.YtanlobdidjednaaGreatDoorBooM
import Derived.Test.YtanlobdidjednaaGreatDoorWatM
set_option linter.unusedVariables false
set_option linter.unusedSimpArgs false
namespace Go.Proofs.YtanlobdidjednaaGreatDoor
open Go.RowKit

/-- the same but for the order of the numbers -/
structure EqB (B C : BookT) : Prop where
  ws : C.ws = B.ws
  es : C.es = B.es
  nos : ∀ k, mget C.nos k = mget B.nos k
theorem EqB.refl (B : BookT) : EqB B B := ⟨rfl, rfl, fun _ => rfl⟩
theorem notes_eq (s : List UInt8) (what when_ : Int) (l : List WatT) {es : List EvT} {a b : List (Int × Int)} (h : ∀ k, mget b k = mget a k) : (l.foldl (noteF s what when_) (es, b)).1 = (l.foldl (noteF s what when_) (es, a)).1 ∧ ∀ k, mget (l.foldl (noteF s what when_) (es, b)).2 k = mget (l.foldl (noteF s what when_) (es, a)).2 k := by
  induction l generalizing es a b with
  | nil => exact ⟨rfl, h⟩
  | cons x r ih =>
    simp only [List.foldl_cons]
    unfold noteF
    split
    · simp only [h x.session]
      exact ih fun k => by rw [mget_mput, mget_mput, h k]
    · exact ih h
theorem EqB.layW {B C : BookT} (h : EqB B C) (h1 : (keys B.nos).Nodup) (h2 : (keys C.nos).Nodup) : layW C = layW B := by
  obtain ⟨e1, e2⟩ := normZ_eq h2 h1 h.nos
  unfold Go.Proofs.YtanlobdidjednaaGreatDoor.layW
  rw [h.ws, h.es, e1, e2]
theorem EqB.invW {B C : BookT} (h : EqB B C) {m : Nat} (hi : InvW B m) : InvW C m := ⟨by rw [h.ws]; exact hi.sorted, by rw [h.ws]; exact hi.ws, by rw [h.es]; exact hi.es, fun k => by rw [h.nos k]; exact hi.nos k⟩

end Go.Proofs.YtanlobdidjednaaGreatDoor
