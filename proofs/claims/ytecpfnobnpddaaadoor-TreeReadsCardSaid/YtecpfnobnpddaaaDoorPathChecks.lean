/- The law PathChecks, walked. No condition. -/
import Derived.Test.YtecpfnobnpddaaaDoorPartL
set_option linter.unusedVariables false
set_option linter.unusedSimpArgs false
namespace Go.Proofs.YtecpfnobnpddaaaDoor
open Go.RowKit

/-- the scan of the law: from a place on, with the part at hand and what was wanted -/
theorem cutL_app (c : UInt8) (p l : List UInt8) (hp : c ∉ p) : ∃ q qs, cutL c l = q :: qs ∧ cutL c (p ++ l) = (p ++ q) :: qs := by
  induction p with
  | nil =>
    obtain ⟨q, qs, h⟩ := cutL_ne c l
    exact ⟨q, qs, h, h⟩
  | cons b p ih =>
    simp only [List.mem_cons, not_or] at hp
    obtain ⟨q, qs, h1, h2⟩ := ih hp.2
    refine ⟨q, qs, h1, ?_⟩
    rw [List.cons_append]
    unfold cutL
    rw [if_neg (fun e => hp.1 e.symm), h2]
    rfl
theorem cutL_sep (c : UInt8) (p l : List UInt8) (hp : c ∉ p) : cutL c (p ++ c :: l) = p :: cutL c l := by
  obtain ⟨q, qs, h1, h2⟩ := cutL_app c p (c :: l) hp
  have e : cutL c (c :: l) = [] :: cutL c l := by
    conv => lhs; unfold cutL
    rw [if_pos rfl]
  rw [e] at h1
  injection h1 with h3 h4
  subst h3 h4
  simpa using h2

theorem cutL_none_ {c : UInt8} {l : List UInt8} (h : c ∉ l) : cutL c l = [l] := by
  obtain ⟨q, qs, h1, h2⟩ := cutL_app c l [] h
  have e : cutL c [] = [[]] := rfl
  rw [e] at h1
  injection h1 with h3 h4
  subst h3 h4
  simpa using h2
theorem check_cases (s : List UInt8) : checkF s = 0 ∨ checkF s = 10 := by
  unfold checkF
  split
  · exact .inl rfl
  · split
    · exact .inr rfl
    · split
      · exact .inl rfl
      · exact .inr rfl
/-- what the law wants -/
def wantF (s : List UInt8) : Bool := decide (s = [47]) || (decide (1 < s.length) && decide (s.head? = some 47) && decide (s.length ≤ 60))
theorem prefix_head (s : List UInt8) : [47].isPrefixOf s = decide (s.head? = some 47) := by
  cases s with
  | nil => rfl
  | cons a r =>
    by_cases h : a = 47
    · subst h; simp
    · have : ((47 : UInt8) == a) = false := by simpa using fun e => h e.symm
      simp [List.isPrefixOf, h, this]
theorem check_want (s : List UInt8) (h : s ≠ [47]) : (checkF s == 0) = (wantF s && (cutL 47 (s.drop 1)).all partF) := by
  unfold checkF wantF
  rw [if_neg h, prefix_head]
  generalize (cutL 47 (s.drop 1)).all partF = A
  have h1 : decide (s = [47]) = false := by simpa using h
  rw [h1]
  by_cases h2 : s.head? = some 47
  · have h3 : 1 < s.length := by
      match s, h, h2 with
      | [a], h, h2 => simp at h2; exact absurd (by rw [h2]) h
      | a :: b :: r, _, _ => simp
    by_cases h4 : 60 < s.length
    · have h5 : ¬ s.length ≤ 60 := by omega
      simp [h4, h5]
    · have h5 : s.length ≤ 60 := by omega
      cases A <;> simp [h2, h3, h4, h5]
  · simp [h2]

/-- how far the scan is: what is behind it, the part at hand -/
theorem scan_step (s p : List UInt8) (i : Nat) (c : UInt8) (h : s[i]? = some c) (hc : c ≠ 47) : (p ++ [c]) ++ s.drop (i + 1) = p ++ s.drop i := by
  obtain ⟨hi, rfl⟩ := List.getElem?_eq_some_iff.1 h
  rw [List.drop_eq_getElem_cons hi]
  simp

end Go.Proofs.YtecpfnobnpddaaaDoor
