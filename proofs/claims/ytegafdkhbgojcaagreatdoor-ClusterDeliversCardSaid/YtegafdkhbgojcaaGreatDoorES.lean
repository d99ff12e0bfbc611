/- Behind a part of a run less may be told of some values. No condition. -/
import Derived.Test.YtegafdkhbgojcaaGreatDoorEC
set_option linter.unusedVariables false
set_option linter.unusedSimpArgs false
set_option linter.constructorNameAsVariable false
namespace Go.Proofs.YtegafdkhbgojcaaGreatDoor.Ex
open Go
/-! ### a state that tells less of some values -/
section
variable (q : AV → AV → Bool)
noncomputable def exOq (x y : Option AV) : Bool := Option.rec (motive := fun _ => Bool) (Option.rec (motive := fun _ => Bool) true (fun _ => false) y) (fun a => Option.rec (motive := fun _ => Bool) false (fun b => q a b) y) x
noncomputable def exGq (x : T AV) : T AV → Bool := T.rec (motive := fun _ => T AV → Bool) (fun y => T.rec (motive := fun _ => Bool) true (fun _ _ _ _ _ => false) y)
  (fun _ o _ ihl ihr y => T.rec (motive := fun _ => Bool) false (fun l' o' r' _ _ => andB (exOq q o o') (andB (ihl l') (ihr r'))) y) x
noncomputable def exLq (x : L) : L → Bool := L.rec (motive := fun _ => L → Bool) (fun y => L.rec (motive := fun _ => Bool) true (fun _ _ _ _ => false) y)
  (fun k v _ ih y => L.rec (motive := fun _ => Bool) false (fun k' v' r' _ => andB (Nat.beq k k') (andB (q v v') (ih r'))) y) x
variable (P : Program) (M : Nat → Nat)
noncomputable def qOf (r : Rg) : AV → AV → Bool := Rg.rec (motive := fun _ => AV → AV → Bool) (fun _ => q) (fun _ _ _ _ => exV) r
noncomputable def exFrq (x : LFr) (y : Fr) : Bool :=
  match x, y with
  | .mk f its g l p i base, .mk f' its' g' l' p' i' _ r => andB (Nat.beq f f') (andB (exIts its its') (andB (exGq (qOf q r) (gOf P M f g) g') (andB (exLq (qOf q r) (lOf l) l') (andB (eqPs p p') (andB (Nat.beq i i') (exBase r base))))))
noncomputable def exFrsq (l : List LFr) : List Fr → Bool := List.rec (motive := fun _ => List Fr → Bool) (fun r => isNil r) (fun x _ ih r => List.rec (motive := fun _ => Bool) false (fun y r _ => andB (exFrq q P M x y) (ih r)) r) l
noncomputable def mSq (x : LSt) (y : St) : Bool :=
  match x, y with
  | .mk f its g h nx st, .mk f' its' g' h' nx' st' => andB (Nat.beq f f') (andB (exIts its its') (andB (exGq q (gOf P M f g) g') (andB (exH h' h) (andB (Nat.beq nx nx') (exFrsq q P M st st')))))
end
section
variable {X : Nat → Value} {P : Program} {N : Nat → Option Native} {M : Nat → Nat} {f0 : Nat} {C0 : List Frame} {Z0 : Nat → Option Obj} {W : World} {R : Value → World → Prop} {q : AV → AV → Bool}
/-- what is told of the one holds of the other -/
def Tells (X : Nat → Value) (q : AV → AV → Bool) : Prop := ∀ x y, q x y = true → ∀ ρ u, VR X ρ y u → VR X ρ x u
theorem tells_exV : Tells X exV := fun x y h ρ u hu => by rw [exV_eq x y h]; exact hu
theorem exGq_get (hq : Tells X q) : ∀ {x y : T AV}, exGq q x y = true → ∀ t ρ u, VR X ρ (orAny (y.get t)) u → VR X ρ (orAny (x.get t)) u := by
  intro x
  induction x with
  | e => intro y h t ρ u hu; cases t <;> exact trivial
  | n l o r ihl ihr =>
    intro y h t ρ u hu
    cases y with
    | e => cases h
    | n l' o' r' =>
      obtain ⟨h1, h2⟩ := andB_t.1 h
      obtain ⟨h2, h3⟩ := andB_t.1 h2
      cases t with
      | zero =>
        have hu : VR X ρ (orAny o') u := hu
        show VR X ρ (orAny o) u
        cases o with
        | none => exact trivial
        | some a =>
          cases o' with
          | none => cases h1
          | some b => exact hq a b h1 ρ u hu
      | succ t =>
        rw [T.get_s] at hu ⊢
        split
        · rename_i hk
          rw [if_pos hk] at hu
          exact ihl h2 _ ρ u hu
        · rename_i hk
          rw [if_neg hk] at hu
          exact ihr h3 _ ρ u hu
theorem exLq_get (hq : Tells X q) : ∀ {x y : L}, exLq q x y = true → ∀ t ρ u, VR X ρ (y.get t) u → VR X ρ (x.get t) u := by
  intro x
  induction x with
  | e => intro y h t ρ u hu; exact trivial
  | n k v r ih =>
    intro y h t ρ u hu
    cases y with
    | e => cases h
    | n k' v' r' =>
      obtain ⟨h1, h2⟩ := andB_t.1 h
      obtain ⟨h2, h3⟩ := andB_t.1 h2
      have e := Nat.eq_of_beq_eq_true h1
      subst e
      rw [L.get_n] at hu ⊢
      split
      · rename_i hk
        rw [if_pos hk] at hu
        exact hq v v' h2 ρ u hu
      · rename_i hk
        rw [if_neg hk] at hu
        exact ih h3 t ρ u hu
theorem env_tells (hq : Tells X q) {kp nt : Nat} {g g' : T AV} {l l' : L} {ρ : Rho} {a : Act} (hg : exGq q g g' = true) (hl : exLq q l l' = true) (E : EnvM X ρ kp nt g' l' a) : EnvM X ρ kp nt g l a := by
  refine ⟨E.size, E.defers, fun t => ?_⟩
  have := E.tmp t
  rw [tv_eq] at this ⊢
  cases hb : bit kp t
  · rw [hb] at this
    exact exLq_get hq hl t ρ _ this
  · rw [hb] at this
    exact exGq_get hq hg t ρ _ this
theorem exGq_exV {x : T AV} : ∀ {y : T AV}, exGq exV x y = true → x = y := fun {y} h => exG_eq (x := x) (y := y) h
theorem exLq_exV {x : L} : ∀ {y : L}, exLq exV x y = true → x = y := fun {y} h => exLo_eq (x := x) (y := y) h
theorem exFrsq_ok (hq : Tells X q) {bd f : Nat} {ρ : Rho} {Z : Nat → Option Obj} {st : List Fr} {cs : List Frame} (S : StR X P M f0 C0 Z0 bd f ρ Z st cs) : ∀ {l : List LFr}, exFrsq q P M l st = true → StR X P M f0 C0 Z0 bd f ρ Z (frsOf P M l) cs := by
  have key : ∀ {xf : Nat} {xits : List LIt} {xg xl : LE} {xp : List Bool} {xi : Nat} {xb : Option Nat} {l : List LFr} {f' : Nat} {its : List It} {g : T AV} {lo : L} {p : List Bool} {i : Nat} {d : Dst} {r : Rg} {st : List Fr}, exFrsq q P M (.mk xf xits xg xl xp xi xb :: l) (.mk f' its g lo p i d r :: st) = true →
      xf = f' ∧ exIts xits its = true ∧ exGq (qOf q r) (gOf P M xf xg) g = true ∧ exLq (qOf q r) (lOf xl) lo = true ∧ xp = p ∧ xi = i ∧ exBase r xb = true ∧ exFrsq q P M l st = true := by
    intro xf xits xg xl xp xi xb l f' its g lo p i d r st h
    obtain ⟨k0, h2⟩ := andB_t.1 h
    obtain ⟨k1, j1⟩ := andB_t.1 k0
    obtain ⟨k2, j2⟩ := andB_t.1 j1
    obtain ⟨k3, j3⟩ := andB_t.1 j2
    obtain ⟨k4, j4⟩ := andB_t.1 j3
    obtain ⟨k5, j5⟩ := andB_t.1 j4
    obtain ⟨k6, k7⟩ := andB_t.1 j5
    exact ⟨Nat.eq_of_beq_eq_true k1, k2, k3, k4, eqPs_eq k5, Nat.eq_of_beq_eq_true k6, k7, h2⟩
  induction S with
  | nil => intro l h; cases l <;> first | exact .nil | cases h
  | @ops bd bd' f f' ρ Z st cs its g lo p i b a ops o hb hst hf hkd hits ho hE hok hcd hd ih =>
    intro l h
    cases l with
    | nil => cases h
    | cons x l =>
      cases x with
      | mk xf xits xg xl xp xi xb =>
        obtain ⟨e1, k2, k3, k4, e5, e6, k7, h2⟩ := key h
        subst e1; subst e5; subst e6
        have eb : xb = none := eqN_eq (show eqN xb none = true from k7)
        subst eb
        show StR X P M f0 C0 Z0 bd f ρ Z (.mk xf (itsOf P xf xits) (gOf P M xf xg) (lOf xl) xp xi (rgOf P M xf xp xi none).1 (rgOf P M xf xp xi none).2 :: frsOf P M l) _
        rw [rgOf_ops hcd ho hd, exIts_eq k2 hits]
        exact .ops hb (ih h2) hf hkd hits ho (env_tells hq k3 k4 hE) hok hcd hd
  | @dr bd f f' ρ Zf Z st cs its g lo p x b a ops o base all pre ms fin rr p' s' r hb hst hf hkd hits hcd hp hall hd hS ih =>
    intro l h
    cases l with
    | nil => cases h
    | cons x' l =>
      cases x' with
      | mk xf xits xg xl xp xi xb =>
        obtain ⟨e1, k2, k3, k4, e5, e6, k7, h2⟩ := key h
        subst e1; subst e5; subst e6
        have eb : xb = some base := eqN_eq (show eqN xb (some base) = true from k7)
        subst eb
        show StR X P M f0 C0 Z0 bd f ρ Z (.mk xf (itsOf P xf xits) (gOf P M xf xg) (lOf xl) xp xi (rgOf P M xf xp xi (some base)).1 (rgOf P M xf xp xi (some base)).2 :: frsOf P M l) _
        rw [rgOf_dr hcd hp hall hd, exIts_eq k2 hits, exGq_exV k3, exLq_exV k4]
        exact .dr hb (ih h2) hf hkd hits hcd hp hall hd hS
theorem mSq_ok (hq : Tells X q) {S : LSt} {f : Nat} {its : List It} {g : T AV} {h : T AB} {nx : Nat} {st : List Fr} {m : Machine} (hs : mSq q P M S (.mk f its g h nx st) = true) (hr : Rel X P M f0 C0 Z0 W f its g h nx st m) : RelL X P M f0 C0 Z0 W S m := by
  cases S with
  | mk sf sits sg sh snx sst =>
    obtain ⟨k1, j1⟩ := andB_t.1 hs
    obtain ⟨k2, j2⟩ := andB_t.1 j1
    obtain ⟨k3, j3⟩ := andB_t.1 j2
    obtain ⟨k4, j4⟩ := andB_t.1 j3
    obtain ⟨k5, k6⟩ := andB_t.1 j4
    have e1 := Nat.eq_of_beq_eq_true k1
    subst e1
    have e2 := Nat.eq_of_beq_eq_true k5
    subst e2
    obtain ⟨hf, hkd, hE, hH, hfr, hst, hits⟩ := hr
    show Rel X P M f0 C0 Z0 W sf (itsOf P sf sits) (gOf P M sf sg) (hOf sh .e) snx (frsOf P M sst) _
    rw [exIts_eq k2 hits]
    refine .mk hf hkd (env_tells hq k3 (show exLq q .e .e = true from rfl) hE) (hH.weaken fun i b hb => ?_) hfr (exFrsq_ok hq hst k6) hits
    rcases hOf_get hb with hb | hb
    · cases i <;> cases hb
    · exact exH_mem k4 i b hb
/-- one chunk of a run, behind which less is told of some values -/
theorem chunkq_ok (hX : XOk X) (hF : FieldsOk P) (hm : P.follows .mixedOrders = true) (hN : ∀ f n, N f = some n → NatOk X P W Z0 f n) (hn : NamesOk P) (hq : Tells X q) {S S' : LSt} {n : Nat} (h' : ∀ m, RelL X P M f0 C0 Z0 W S' m → Good P f0 C0 R m) (hr : goL P M (run P N M (mSq q P M S') (fun _ _ _ => false) n) S = true) :
    ∀ m, RelL X P M f0 C0 Z0 W S m → Good P f0 C0 R m := by
  intro m hrel
  cases S with
  | mk f its g h nx st =>
    exact run_ok hX hF hm hN hn (fin := fun _ _ _ => false) (fun _ _ _ _ _ _ h => by cases h) (fun f its g h nx st m hc hr => h' m (mSq_ok hq hc hr)) n _ _ _ _ _ _ m hr hrel
/-- an opaque value is a number that is known beside -/
noncomputable def exX (k : Nat) (r : Int) (x y : AV) : Bool :=
  match x with
  | .x k' => (match y with | .i kd n => andB (Nat.beq k k') (andB (eqK kd .i64) (eqI n r)) | y => exV (.x k') y)
  | .i kd n => (match y with | .x k' => andB (Nat.beq k k') (andB (eqK kd .i64) (eqI n r)) | y => exV (.i kd n) y)
  | x => exV x y
theorem tells_exX {k : Nat} {r : Int} (hk : X k = .int .i64 r) : Tells X (exX k r) := by
  intro x y h ρ u hu
  unfold exX at h
  split at h
  · split at h
    · obtain ⟨h1, h2⟩ := andB_t.1 h
      obtain ⟨h2, h3⟩ := andB_t.1 h2
      have e1 := Nat.eq_of_beq_eq_true h1
      have e2 := eqK_t h2
      rw [eqI_eq, decide_eq_true_iff] at h3
      subst e1; subst e2
      have hu : u = .int .i64 _ := hu
      show u = X _
      rw [hu, hk, h3]
    · exact tells_exV _ _ h ρ u hu
  · split at h
    · obtain ⟨h1, h2⟩ := andB_t.1 h
      obtain ⟨h2, h3⟩ := andB_t.1 h2
      have e1 := Nat.eq_of_beq_eq_true h1
      have e2 := eqK_t h2
      rw [eqI_eq, decide_eq_true_iff] at h3
      subst e1; subst e2
      have hu : u = X _ := hu
      show u = .int .i64 _
      rw [hu, hk, h3]
    · exact tells_exV _ _ h ρ u hu
  · exact tells_exV _ _ h ρ u hu
end
end Go.Proofs.YtegafdkhbgojcaaGreatDoor.Ex
