/- A state of a run of which less is told, in its heap too. No condition. -/
import Derived.Test.YtegafdkhbgojcaaGreatDoorET
set_option linter.unusedVariables false
set_option linter.unusedSimpArgs false
set_option linter.constructorNameAsVariable false
namespace Go.Proofs.YtegafdkhbgojcaaGreatDoor.Ex
open Go
section
variable (q : AV → AV → Bool)
noncomputable def exLq2 (l : List AV) : List AV → Bool := List.rec (motive := fun _ => List AV → Bool) (fun r => isNil r) (fun x _ ih r => List.rec (motive := fun _ => Bool) false (fun y r _ => andB (q x y) (ih r)) r) l
noncomputable def exBq (b c : AB) : Bool := match b with
  | .c l => (match c with | .c r => exLq2 q l r | c => exB (.c l) c)
  | b => exB b c
noncomputable def exOb (x y : Option AB) : Bool := Option.rec (motive := fun _ => Bool) true (fun b => Option.rec (motive := fun _ => Bool) false (fun c => exBq q b c) y) x
noncomputable def exTq (x : T AB) : T AB → Bool := T.rec (motive := fun _ => T AB → Bool) (fun _ => true) (fun _ o _ ihl ihr y => T.rec (motive := fun _ => Bool) false (fun l' o' r' _ _ => andB (exOb q o o') (andB (ihl l') (ihr r'))) y) x
end
section
variable {X : Nat → Value} {P : Program} {M : Nat → Nat} {f0 : Nat} {C0 : List Frame} {Z0 Z : Nat → Option Obj} {W w : World} {q : AV → AV → Bool} {ρ : Rho}
theorem exLq2_ok (hq : Tells X q) : ∀ {l r : List AV}, exLq2 q l r = true → l.length = r.length ∧ ∀ us, VRs X ρ r us → VRs X ρ l us := by
  intro l
  induction l with
  | nil =>
    intro r h
    cases r with
    | nil => exact ⟨rfl, fun us h => h⟩
    | cons y r => cases h
  | cons x l ih =>
    intro r h
    cases r with
    | nil => cases h
    | cons y r =>
      obtain ⟨h1, h2⟩ := andB_t.1 (show andB (q x y) (exLq2 q l r) = true from h)
      obtain ⟨e, h3⟩ := ih h2
      refine ⟨by simp [e], fun us hus => ?_⟩
      obtain ⟨u, us', e1, h4, h5⟩ := VRs_cons.1 hus
      exact VRs_cons.2 ⟨u, us', e1, hq x y h1 ρ u h4, h3 us' h5⟩
theorem exBq_ok (hq : Tells X q) {b c : AB} (h : exBq q b c = true) {o : Obj} {base tot : Nat} (hb : BO X ρ c o base tot) : BO X ρ b o base tot := by
  cases b with
  | c l =>
    cases c with
    | c r =>
      obtain ⟨cs, E, lo, hi, h1, h2, h3, h4, h5⟩ := hb
      obtain ⟨e, h6⟩ := exLq2_ok (X := X) (ρ := ρ) hq (show exLq2 q l r = true from h)
      refine ⟨cs, E, lo, hi, h1, h2, by rw [e]; exact h3, ?_, h5⟩
      rw [e]
      exact h6 _ h4
    | m es k => rw [exB_eq (show exB (.c l) (.m es k) = true from h)]; exact hb
    | it a b c d => rw [exB_eq (show exB (.c l) (.it a b c d) = true from h)]; exact hb
  | m es k => rw [exB_eq (show exB (.m es k) c = true from h)]; exact hb
  | it a b' c' d => rw [exB_eq (show exB (.it a b' c' d) c = true from h)]; exact hb
theorem exTq_get : ∀ {x y : T AB}, exTq q x y = true → ∀ i b, x.get i = some b → ∃ c, y.get i = some c ∧ exBq q b c = true := by
  intro x
  induction x with
  | e => intro y h i b hb; cases i <;> cases hb
  | n l o r ihl ihr =>
    intro y h i b hb
    cases y with
    | e => cases h
    | n l' o' r' =>
      obtain ⟨h1, h2⟩ := andB_t.1 h
      obtain ⟨h2, h3⟩ := andB_t.1 h2
      cases i with
      | zero =>
        have hb : o = some b := hb
        subst hb
        show ∃ c, o' = some c ∧ _
        cases o' with
        | none => cases h1
        | some c => exact ⟨c, rfl, h1⟩
      | succ i =>
        rw [T.get_s] at hb ⊢
        split
        · rename_i hk
          rw [if_pos hk] at hb
          exact ihl h2 _ b hb
        · rename_i hk
          rw [if_neg hk] at hb
          exact ihr h3 _ b hb
theorem HR.hold (hq : Tells X q) {h h' : Nat → Option AB} (H : HR X W Z ρ h' w) (hh : ∀ i b, h i = some b → ∃ c, h' i = some c ∧ exBq q b c = true) : HR X W Z ρ h w :=
  ⟨H.os, H.tape, H.output, H.ext, fun i b hb => by
    obtain ⟨c, hc, e⟩ := hh i b hb
    obtain ⟨B, base, tot, o, e1, e2, e3, e4⟩ := H.blk i c hc
    exact ⟨B, base, tot, o, e1, e2, e3, exBq_ok hq e e4⟩, fun i j b c B x y hb hc => by
    obtain ⟨b2, hb2, _⟩ := hh i b hb
    obtain ⟨c2, hc2, _⟩ := hh j c hc
    exact H.inj i j b2 c2 B x y hb2 hc2⟩
/-- less is told of the same state: where no function waits -/
theorem relL_hold (hq : Tells X q) {f : Nat} {its : List LIt} {g g' : LE} {h h' : List (Nat × AB)} {nx : Nat} {m : Machine} (hg : exGq q (gOf P M f g) (gOf P M f g') = true) (hh : exTq q (hOf h .e) (hOf h' .e) = true) (hr : RelL X P M f0 C0 Z0 W (.mk f its g' h' nx []) m) : RelL X P M f0 C0 Z0 W (.mk f its g h nx []) m := by
  have hr : Rel X P M f0 C0 Z0 W f (itsOf P f its) (gOf P M f g') (hOf h' .e) nx (frsOf P M []) m := hr
  obtain ⟨hf, hkd, hE, hH, hfr, hst, hits⟩ := hr
  exact .mk hf hkd (env_tells hq hg (show exLq q .e .e = true from rfl) hE) (HR.hold hq hH (exTq_get hh)) hfr hst hits
/-- nothing need be told -/
noncomputable def exAny (x y : AV) : Bool := match x with | .any => true | x => exV x y
theorem tells_any : Tells X exAny := by
  intro x y h ρ u hu
  unfold exAny at h
  split at h
  · exact trivial
  · exact tells_exV _ _ h ρ u hu
end
end Go.Proofs.YtegafdkhbgojcaaGreatDoor.Ex
