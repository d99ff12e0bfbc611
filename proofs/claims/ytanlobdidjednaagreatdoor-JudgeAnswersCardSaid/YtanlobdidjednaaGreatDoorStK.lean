/- The plain form of the state with sorts that the kernel can carry out. No condition. -/
import Derived.Test.YtanlobdidjednaaGreatDoorSta
set_option linter.unusedVariables false
set_option linter.unusedSimpArgs false
namespace Go.Proofs.YtanlobdidjednaaGreatDoor
open Go.RowKit

def insK {α : Type} (le : α → α → Bool) (x : α) : List α → List α
  | [] => [x]
  | y :: r => if le x y = true then x :: y :: r else y :: insK le x r
def sortK {α : Type} (le : α → α → Bool) : List α → List α
  | [] => []
  | x :: r => insK le x (sortK le r)
theorem insK_perm {α : Type} (le : α → α → Bool) (x : α) (l : List α) : (insK le x l).Perm (x :: l) := by
  induction l with
  | nil => exact List.Perm.refl _
  | cons y r ih =>
    unfold insK
    split
    · exact List.Perm.refl _
    · exact (ih.cons y).trans (List.Perm.swap x y r)
theorem sortK_perm {α : Type} (le : α → α → Bool) (l : List α) : (sortK le l).Perm l := by
  induction l with
  | nil => exact List.Perm.refl _
  | cons x r ih => exact (insK_perm le x _).trans (ih.cons x)
theorem insK_pair {α : Type} {le : α → α → Bool} (htr : ∀ a b c, le a b = true → le b c = true → le a c = true) (hto : ∀ a b, (le a b || le b a) = true) (x : α) {l : List α} (h : l.Pairwise fun a b => le a b = true) : (insK le x l).Pairwise fun a b => le a b = true := by
  induction l with
  | nil => simp [insK]
  | cons y r ih =>
    obtain ⟨h1, h2⟩ := List.pairwise_cons.1 h
    unfold insK
    split
    · rename_i hxy
      refine List.pairwise_cons.2 ⟨fun z hz => ?_, h⟩
      rcases List.mem_cons.1 hz with rfl | hz
      · exact hxy
      · exact htr _ _ _ hxy (h1 z hz)
    · rename_i hxy
      have hyx : le y x = true := by
        have := hto x y
        simp only [Bool.or_eq_true] at this
        exact this.resolve_left hxy
      refine List.pairwise_cons.2 ⟨fun z hz => ?_, ih h2⟩
      rcases List.mem_cons.1 ((insK_perm le x r).mem_iff.1 hz) with rfl | hz
      · exact hyx
      · exact h1 z hz
theorem sortK_pair {α : Type} {le : α → α → Bool} (htr : ∀ a b c, le a b = true → le b c = true → le a c = true) (hto : ∀ a b, (le a b || le b a) = true) (l : List α) : (sortK le l).Pairwise fun a b => le a b = true := by
  induction l with
  | nil => simp [sortK]
  | cons x r ih => exact insK_pair htr hto x ih
abbrev leI (x y : Int) : Bool := decide (x ≤ y)
abbrev leB (x y : List UInt8) : Bool := decide (x ≤ y)
theorem sortI_K (l : List Int) : sortI l = sortK leI l := by
  have htr : ∀ a b c : Int, leI a b = true → leI b c = true → leI a c = true := by
    intro a b c h1 h2
    simp only [leI, decide_eq_true_eq] at *
    omega
  have hto : ∀ a b : Int, (leI a b || leI b a) = true := by
    intro a b
    simp only [leI, Bool.or_eq_true, decide_eq_true_eq]
    omega
  refine List.Perm.eq_of_pairwise (le := fun a b => leI a b = true) ?_ (List.pairwise_mergeSort htr hto l) (sortK_pair htr hto l) ((List.mergeSort_perm l _).trans (sortK_perm leI l).symm)
  intro a b _ _ h1 h2
  simp only [leI, decide_eq_true_eq] at h1 h2
  omega
theorem sortB_K (l : List (List UInt8)) : sortB l = sortK leB l := by
  have htr : ∀ a b c : List UInt8, leB a b = true → leB b c = true → leB a c = true := by
    intro a b c h1 h2
    simp only [leB, decide_eq_true_eq] at *
    exact List.le_trans h1 h2
  have hto : ∀ a b : List UInt8, (leB a b || leB b a) = true := by
    intro a b
    simp only [leB, Bool.or_eq_true, decide_eq_true_eq]
    exact List.le_total a b
  refine List.Perm.eq_of_pairwise (le := fun a b => leB a b = true) ?_ (List.pairwise_mergeSort htr hto l) (sortK_pair htr hto l) ((sortB_perm l).trans (sortK_perm leB l).symm)
  intro a b _ _ h1 h2
  simp only [leB, decide_eq_true_eq] at h1 h2
  exact List.le_antisymm h1 h2

def ownK (T : TreeT) (o : Int) : List (List UInt8) := (sortK leB (keys T)).filter fun s => decide (((mget T s).getD zN).owner = o ∧ o ≠ 0)
theorem own_K (T : TreeT) (o : Int) : ownedF T o = ownK T o := by
  unfold ownedF pathsF ownK
  rw [sortB_K]
def endK (s : StT) (id when_ : Int) : StT :=
  match endL when_ (ownK s.tree id).reverse s.tree s.book with
  | (T, B) => ⟨T, (closeF s.tab id).2, dropF B id, s.at_⟩
theorem end_K (s : StT) (id when_ : Int) : endF s id when_ = endK s id when_ := by
  unfold endF endK
  rw [own_K]
def crowdK (s : StT) : Option Int := (sortK leI (keys s.tab)).find? fun id => overF s.book id
theorem crowd_K (s : StT) : crowdF s = crowdK s := by
  unfold crowdF crowdK
  rw [sortI_K]
def crowdLK (when_ : Int) : Nat → StT → StT
  | 0, s => s
  | n + 1, s => match crowdK s with
    | none => s
    | some id => crowdLK when_ n (endK s id when_)
theorem crowdL_K (when_ : Int) (n : Nat) (s : StT) : crowdL when_ n s = crowdLK when_ n s := by
  induction n generalizing s with
  | zero => rfl
  | succ n ih =>
    unfold crowdL crowdLK
    rw [crowd_K]
    cases crowdK s with
    | none => rfl
    | some id => simp only [end_K, ih]
def cmdK (s : StT) (c : CmdT) (when_ : Int) : ResT × StT :=
  if c.kind = 0 then (⟨0, 0, [], when_⟩, s)
  else if c.kind = 1 then match openF s.tab c.session with
    | (e, m) => (⟨e, 0, [], when_⟩, ⟨s.tree, m, s.book, s.at_⟩)
  else match seenF s.tab c.session c.req with
    | (t, again, e) => if e ≠ 0 then (⟨e, 0, [], when_⟩, s)
      else if again = true then ((ansF t).1, s)
      else if c.kind = 2 then (⟨0, 0, [], when_⟩, endK ⟨s.tree, s.tab, notedF s.book c.session c.noted, s.at_⟩ c.session when_)
      else match doF ⟨s.tree, s.tab, notedF s.book c.session c.noted, s.at_⟩ c when_ with
        | (r, s2) => (r, ⟨s2.tree, (keepF s2.tab c.session c.req (resB r)).2, s2.book, s2.at_⟩)
theorem cmd_K (s : StT) (c : CmdT) (when_ : Int) : cmdF s c when_ = cmdK s c when_ := by
  unfold cmdF cmdK
  simp only [end_K]
def applyK (s : StT) (c : CmdT) : ResT × StT :=
  match cmdK ⟨s.tree, s.tab, s.book, s.at_ + 1⟩ c (s.at_ + 1) with
  | (r, s2) => (r, crowdLK (s.at_ + 1) s2.tab.length s2)
theorem apply_K (s : StT) (c : CmdT) : applyC s c = applyK s c := by
  unfold applyC applyK
  rw [cmd_K]
  simp only [crowdL_K]

end Go.Proofs.YtanlobdidjednaaGreatDoor
