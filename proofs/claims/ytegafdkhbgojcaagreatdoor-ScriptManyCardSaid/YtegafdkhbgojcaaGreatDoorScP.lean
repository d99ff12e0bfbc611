/- Steps of a script as bytes, plainly. No condition. -/
import Derived.Test.YtegafdkhbgojcaaGreatDoorTook
set_option linter.unusedVariables false
namespace Go.Proofs.YtegafdkhbgojcaaGreatDoor

/-- a step -/
structure StepT where
  kind : Int
  who : Int
  n : Int
  m : Int
  text : List UInt8
  fates : List Int
def badF (f : Int) : Bool := decide (f < 0) || decide (2 < f)
def stepR (s : StepT) : Bool := decide (1 ≤ s.kind) && decide (s.kind ≤ 13) && decide (0 ≤ s.who ∧ 0 ≤ s.n ∧ 0 ≤ s.m ∧ s.who ≤ 1048576 ∧ s.n ≤ 1048576 ∧ s.m ≤ 1048576) && decide (s.text.length ≤ 500) && decide (s.fates.length ≤ 100) && !s.fates.any badF
def stepB (s : StepT) : List UInt8 := nums [s.kind, s.who, s.n, s.m] ++ txts [s.text] ++ nums [(s.fates.length : Int)] ++ nums s.fates
def stepsB (l : List StepT) : List UInt8 := nums [(l.length : Int)] ++ l.flatMap stepB
theorem stepR_of {s : StepT} (h : stepR s = true) : 1 ≤ s.kind ∧ s.kind ≤ 13 ∧ (0 ≤ s.who ∧ 0 ≤ s.n ∧ 0 ≤ s.m ∧ s.who ≤ 1048576 ∧ s.n ≤ 1048576 ∧ s.m ≤ 1048576) ∧ s.text.length ≤ 500 ∧ s.fates.length ≤ 100 ∧ ∀ f ∈ s.fates, 0 ≤ f ∧ f ≤ 2 := by
  simp only [stepR, Bool.and_eq_true, decide_eq_true_eq, Bool.not_eq_true', List.any_eq_false] at h
  obtain ⟨⟨⟨⟨⟨h1, h2⟩, h3⟩, h4⟩, h5⟩, h6⟩ := h
  refine ⟨h1, h2, h3, h4, h5, fun f hf => ?_⟩
  have := h6 f hf
  simp [badF] at this
  omega
/-- fates, one behind the other -/
def rFates : Nat → RS → List Int × RS
  | 0, x => ([], x)
  | k + 1, x => ((rFates k x).1 ++ [(rn (rFates k x).2 2).1], (rn (rFates k x).2 2).2)
/-- a step's reading, from its k-th part on -/
def rA7 (k w n m : Int) (t : List UInt8) (c : Int) (x : RS) : StepT × RS := (⟨k, w, n, m, t, (rFates c.toNat x).1⟩, (rFates c.toNat x).2)
def rA6 (k w n m : Int) (t : List UInt8) (x : RS) : StepT × RS := rA7 k w n m t (rn x 100).1 (rn x 100).2
def rA5 (k w n m : Int) (x : RS) : StepT × RS := rA6 k w n m (rt x 500).1 (rt x 500).2
def rA4 (k w n : Int) (x : RS) : StepT × RS := rA5 k w n (rn x 1048576).1 (rn x 1048576).2
def rA3 (k w : Int) (x : RS) : StepT × RS := rA4 k w (rn x 1048576).1 (rn x 1048576).2
def rA2 (k : Int) (x : RS) : StepT × RS := rA3 k (rn x 1048576).1 (rn x 1048576).2
def rStep (x : RS) : StepT × RS := rA2 (rn x 13).1 (rn x 13).2
def rSt : Nat → RS → List StepT × RS
  | 0, x => ([], x)
  | k + 1, x => ((rSt k x).1 ++ [(rStep (rSt k x).2).1], (rStep (rSt k x).2).2)
theorem rFates_length (n : Nat) (x : RS) : (rFates n x).1.length = n := by
  induction n with
  | zero => rfl
  | succ n ih => simp [rFates, ih]
theorem rFates_le (n : Nat) (x : RS) : (rFates n x).2.1.length ≤ x.1.length := by
  induction n with
  | zero => exact Nat.le_refl _
  | succ n ih => exact Nat.le_trans (rn_le _ _) ih
theorem rStep_le (x : RS) : (rStep x).2.1.length ≤ x.1.length := by
  unfold rStep rA2 rA3 rA4 rA5 rA6 rA7
  simp only
  refine Nat.le_trans (rFates_le _ _) (Nat.le_trans (rn_le _ _) (Nat.le_trans (rt_le _ _) (Nat.le_trans (rn_le _ _) (Nat.le_trans (rn_le _ _) (Nat.le_trans (rn_le _ _) (rn_le _ _))))))
theorem rSt_length (n : Nat) (x : RS) : (rSt n x).1.length = n := by
  induction n with
  | zero => rfl
  | succ n ih => simp [rSt, ih]
theorem rSt_le (n : Nat) (x : RS) : (rSt n x).2.1.length ≤ x.1.length := by
  induction n with
  | zero => exact Nat.le_refl _
  | succ n ih => exact Nat.le_trans (rStep_le _) ih
theorem nums_cons (a : Int) (l : List Int) : nums (a :: l) = num6 a ++ nums l := rfl
theorem rFates_took (x : RS) (n : Nat) : Took x (nums (rFates n x).1) (rFates n x).2 := by
  induction n with
  | zero => exact Took.nil x
  | succ n ih =>
    have h := ih.trans (rn_took (rFates n x).2 2)
    have e : nums (rFates (n + 1) x).1 = nums (rFates n x).1 ++ num6 (rn (rFates n x).2 2).1 := by simp [rFates, nums]
    rw [e]
    exact h
theorem rFates_app (l : List Int) (b : List UInt8) (h : ∀ f ∈ l, 0 ≤ f ∧ f ≤ 2) : ∀ k ≤ l.length, rFates k (nums l ++ b, false) = (l.take k, (nums (l.drop k) ++ b, false)) := by
  intro k
  induction k with
  | zero => intro _; simp [rFates]
  | succ k ih =>
    intro hk
    rw [rFates, ih (by omega)]
    have hd : l.drop k = l[k] :: l.drop (k + 1) := List.drop_eq_getElem_cons (by omega)
    have hb := h _ (List.getElem_mem (show k < l.length by omega))
    simp only
    rw [hd, nums_cons, List.append_assoc, rn_app _ 2 _ hb.1 hb.2 (by decide)]
    simp only
    rw [List.take_succ_eq_append_getElem (by omega)]
theorem rStep_app (s : StepT) (b : List UInt8) (h : stepR s = true) : rStep (stepB s ++ b, false) = (s, (b, false)) := by
  obtain ⟨h1, h2, h3, h4, h5, h6⟩ := stepR_of h
  obtain ⟨kind, who, n, m, text, fates⟩ := s
  simp only at h1 h2 h3 h4 h5 h6
  have e : stepB ⟨kind, who, n, m, text, fates⟩ ++ b = num6 kind ++ (num6 who ++ (num6 n ++ (num6 m ++ (txt text ++ (num6 fates.length ++ (nums fates ++ b)))))) := by
    simp [stepB, nums, txts]
  rw [e]
  unfold rStep rA2 rA3 rA4 rA5 rA6 rA7
  rw [rn_app kind 13 _ (by omega) (by omega) (by omega)]
  simp only
  rw [rn_app who _ _ (by omega) (by omega) (by omega)]
  simp only
  rw [rn_app n _ _ (by omega) (by omega) (by omega)]
  simp only
  rw [rn_app m _ _ (by omega) (by omega) (by omega)]
  simp only
  rw [rt_app text _ 500 (by omega) (by omega)]
  simp only
  rw [rn_app fates.length 100 _ (by omega) (by omega) (by omega)]
  simp only [Int.toNat_natCast]
  rw [rFates_app fates _ h6 fates.length (Nat.le_refl _)]
  simp [nums]
theorem rStep_took (x : RS) : Took x (stepB (rStep x).1) (rStep x).2 := by
  unfold rStep rA2 rA3 rA4 rA5 rA6 rA7
  simp only
  have h1 := rn_took x 13
  generalize rn x 13 = a1 at *
  have h2 := rn_took a1.2 1048576
  generalize rn a1.2 1048576 = a2 at *
  have h3 := rn_took a2.2 1048576
  generalize rn a2.2 1048576 = a3 at *
  have h4 := rn_took a3.2 1048576
  generalize rn a3.2 1048576 = a4 at *
  have h5 := rt_took a4.2 500
  generalize rt a4.2 500 = a5 at *
  have h6 := rn_took a5.2 100
  have hn := rn_lo a5.2 100
  generalize rn a5.2 100 = a6 at *
  have h7 := rFates_took a6.2 a6.1.toNat
  have hl := rFates_length a6.1.toNat a6.2
  generalize rFates a6.1.toNat a6.2 = a7 at *
  have h := h1.trans (h2.trans (h3.trans (h4.trans (h5.trans (h6.trans h7)))))
  have e : ((a7.1.length : Nat) : Int) = a6.1 := by omega
  have e2 : stepB ⟨a1.1, a2.1, a3.1, a4.1, a5.1, a7.1⟩ = num6 a1.1 ++ (num6 a2.1 ++ (num6 a3.1 ++ (num6 a4.1 ++ (txt a5.1 ++ (num6 a6.1 ++ nums a7.1))))) := by
    simp [stepB, nums, txts, e]
  rw [e2]
  exact h
theorem rSt_took (x : RS) (n : Nat) : Took x ((rSt n x).1.flatMap stepB) (rSt n x).2 := by
  induction n with
  | zero => exact Took.nil x
  | succ n ih =>
    have h := ih.trans (rStep_took (rSt n x).2)
    simp only [rSt, List.flatMap_append, List.flatMap_cons, List.flatMap_nil, List.append_nil]
    exact h
theorem rSt_app (l : List StepT) (b : List UInt8) (h : ∀ s ∈ l, stepR s = true) : ∀ k ≤ l.length, rSt k (l.flatMap stepB ++ b, false) = (l.take k, ((l.drop k).flatMap stepB ++ b, false)) := by
  intro k
  induction k with
  | zero => intro _; simp [rSt]
  | succ k ih =>
    intro hk
    rw [rSt, ih (by omega)]
    have hd : l.drop k = l[k] :: l.drop (k + 1) := List.drop_eq_getElem_cons (by omega)
    simp only
    rw [hd, List.flatMap_cons, List.append_assoc, rStep_app _ _ (h _ (List.getElem_mem _))]
    simp only
    rw [List.take_succ_eq_append_getElem (by omega)]
/-- what bytes are read as: so many steps are said -/
def stN (s : List UInt8) : Nat := (rn (s, false) 500).1.toNat
def stX (s : List UInt8) : RS := (rn (s, false) 500).2
/-- they are steps -/
def StYes (s : List UInt8) (l : List StepT) : Prop := l = (rSt (stN s) (stX s)).1 ∧ (∀ t ∈ l, stepR t = true) ∧ rdone (rSt (stN s) (stX s)).2 = 0
/-- they are none -/
def StNo (s : List UInt8) : Prop := (∃ k, k < stN s ∧ ((rStep (rSt k (stX s)).2).2.2 = true ∨ stepR (rStep (rSt k (stX s)).2).1 = false)) ∨ rdone (rSt (stN s) (stX s)).2 ≠ 0
theorem StYes.bytes {s : List UInt8} {l : List StepT} (h : StYes s l) : stepsB l = s ∧ l.length ≤ 500 := by
  obtain ⟨h1, h2, h3⟩ := h
  have hb : (rSt (stN s) (stX s)).2.2 = false ∧ (rSt (stN s) (stX s)).2.1 = [] := by
    unfold rdone at h3
    split at h3
    · cases h3
    · rename_i hn
      constructor
      · cases hc : (rSt (stN s) (stX s)).2.2
        · rfl
        · exact absurd (Or.inl hc) hn
      · apply Classical.byContradiction
        intro hc
        exact hn (Or.inr hc)
  have hl : l.length = stN s := by rw [h1]; exact rSt_length _ _
  have lo := rn_lo (s, false) 500
  have hi := rn_hi (s, false) 500 (by decide)
  have t := ((rn_took (s, false) 500).trans (rSt_took (stX s) (stN s))) hb.1
  rw [hb.2, List.append_nil] at t
  refine ⟨?_, by rw [hl]; unfold stN; omega⟩
  have e : ((l.length : Nat) : Int) = (rn (s, false) 500).1 := by rw [hl]; unfold stN; omega
  unfold stepsB
  rw [e, ← h1] at *
  rw [h1] at *
  simpa [nums] using t.2.symm
theorem stN_of (l : List StepT) (hl : l.length ≤ 500) : stN (stepsB l) = l.length ∧ stX (stepsB l) = (l.flatMap stepB, false) := by
  have h := rn_app (l.length : Int) 500 (l.flatMap stepB) (by omega) (by omega) (by decide)
  have e : stepsB l = num6 (l.length : Int) ++ l.flatMap stepB := by simp [stepsB, nums]
  unfold stN stX
  rw [e, h]
  exact ⟨by simp, rfl⟩
theorem no_bytes {l : List StepT} (hl : l.length ≤ 500) (hr : ∀ s ∈ l, stepR s = true) : ¬ StNo (stepsB l) := by
  obtain ⟨e1, e2⟩ := stN_of l hl
  have ha := rSt_app l [] hr
  simp only [List.append_nil] at ha
  rintro (⟨k, hk, h⟩ | h)
  · rw [e1] at hk
    rw [e2, ha k (by omega)] at h
    have hd : l.drop k = l[k] :: l.drop (k + 1) := List.drop_eq_getElem_cons (by omega)
    simp only at h
    rw [hd, List.flatMap_cons, rStep_app _ _ (hr _ (List.getElem_mem _))] at h
    rcases h with h | h
    · cases h
    · rw [hr _ (List.getElem_mem _)] at h; cases h
  · rw [e1, e2, ha l.length (Nat.le_refl _)] at h
    exact h (by simp [rdone])
theorem yes_bytes {l l' : List StepT} (hl : l.length ≤ 500) (hr : ∀ s ∈ l, stepR s = true) (h : StYes (stepsB l) l') : l' = l := by
  obtain ⟨e1, e2⟩ := stN_of l hl
  have ha := rSt_app l [] hr l.length (Nat.le_refl _)
  simp only [List.append_nil] at ha
  rw [h.1, e1, e2, ha]
  simp
end Go.Proofs.YtegafdkhbgojcaaGreatDoor
