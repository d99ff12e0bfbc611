/- A state of a run of which fewer numbers are free. No condition. -/
import Derived.Test.YtegafdkhbgojcaaGreatDoorES
set_option linter.unusedVariables false
set_option linter.constructorNameAsVariable false
namespace Go.Proofs.YtegafdkhbgojcaaGreatDoor.Ex
open Go
section
variable {X : Nat → Value} {P : Program} {M : Nat → Nat} {f0 : Nat} {C0 : List Frame} {Z0 : Nat → Option Obj} {W : World}
theorem rel_pad {f : Nat} {its : List It} {g : T AV} {h : T AB} {nx nx' : Nat} {st : List Fr} {m : Machine} (e : st = []) (hle : nx ≤ nx') (hr : Rel X P M f0 C0 Z0 W f its g h nx st m) : Rel X P M f0 C0 Z0 W f its g h nx' st m := by
  obtain ⟨hf, hkd, hE, hH, hfr, hst, hits⟩ := hr
  subst e
  cases hst
  exact .mk hf hkd hE hH (fun i hi => hfr i (Nat.le_trans hle hi)) .nil hits
/-- fewer numbers are free: where no function waits -/
theorem relL_pad {f : Nat} {its : List LIt} {g : LE} {h : List (Nat × AB)} {nx nx' : Nat} {m : Machine} (hle : nx ≤ nx') (hr : RelL X P M f0 C0 Z0 W (.mk f its g h nx []) m) : RelL X P M f0 C0 Z0 W (.mk f its g h nx' []) m :=
  rel_pad rfl hle hr
/-- the same state of which some numbers are told: where no function waits -/
theorem relL_tells {q : AV → AV → Bool} (hq : Tells X q) {f : Nat} {its : List LIt} {g g' : LE} {h : List (Nat × AB)} {nx : Nat} {m : Machine} (hg : exGq q (gOf P M f g) (gOf P M f g') = true) (hr : RelL X P M f0 C0 Z0 W (.mk f its g' h nx []) m) : RelL X P M f0 C0 Z0 W (.mk f its g h nx []) m := by
  have hr : Rel X P M f0 C0 Z0 W f (itsOf P f its) (gOf P M f g') (hOf h .e) nx (frsOf P M []) m := hr
  obtain ⟨hf, hkd, hE, hH, hfr, hst, hits⟩ := hr
  exact .mk hf hkd (env_tells hq hg (show exLq q .e .e = true from rfl) hE) hH hfr hst hits
end
end Go.Proofs.YtegafdkhbgojcaaGreatDoor.Ex
