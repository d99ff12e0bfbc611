/- Numbers of k decimal digits, zeros ahead. Plain. -/
import Derived.Test.YtecpfnobnpddaaaDoorPath
import Derived.Lib.Atoi
import Derived.Lib.ItoaMem
set_option linter.unusedVariables false
namespace Go.Proofs.YtecpfnobnpddaaaDoor

/-- the last k digits of u -/
def fixD : Nat → Nat → List UInt8
  | 0, _ => []
  | k + 1, u => fixD k (u / 10) ++ [UInt8.ofNat (48 + u % 10)]
theorem fixD_length (k u : Nat) : (fixD k u).length = k := by
  induction k generalizing u with
  | zero => rfl
  | succ k ih => simp [fixD, ih]
theorem repeatL_snoc (a : UInt8) (k : Nat) : Lib.repeatL [a] k ++ [a] = Lib.repeatL [a] (k + 1) := by
  induction k with
  | zero => rfl
  | succ k ih =>
    show [a] ++ Lib.repeatL [a] k ++ [a] = [a] ++ Lib.repeatL [a] (k + 1)
    rw [List.append_assoc, ih]
theorem fixD_zero (k : Nat) : fixD k 0 = Lib.repeatL [48] k := by
  induction k with
  | zero => rfl
  | succ k ih =>
    show fixD k 0 ++ [48] = _
    rw [ih, repeatL_snoc]
theorem pad_fix (k u : Nat) (hk : 1 ≤ k) (hu : u < 10 ^ k) : (Lib.decDigits u).length ≤ k ∧ Lib.repeatL [48] (k - (Lib.decDigits u).length) ++ Lib.decDigits u = fixD k u := by
  induction k generalizing u with
  | zero => omega
  | succ k ih =>
    by_cases h : u < 10
    · rw [Lib.decDigits_one h]
      refine ⟨by simp, ?_⟩
      have e1 : u / 10 = 0 := by omega
      have e2 : u % 10 = u := by omega
      simp only [fixD, e1, e2, fixD_zero, List.length_singleton]
      simp
    · have hk2 : 1 ≤ k := by
        rcases Nat.eq_zero_or_pos k with rfl | h2
        · simp at hu; omega
        · exact h2
      have hu2 : u / 10 < 10 ^ k := by
        rw [Nat.pow_succ] at hu
        omega
      obtain ⟨i1, i2⟩ := ih (u / 10) hk2 hu2
      have e : Lib.decDigits u = Lib.decDigits (u / 10) ++ [UInt8.ofNat (48 + u % 10)] := by
        conv => lhs; rw [Lib.decDigits, dif_neg h]
      rw [e]
      refine ⟨by simp; omega, ?_⟩
      have e3 : k + 1 - (Lib.decDigits (u / 10) ++ [UInt8.ofNat (48 + u % 10)]).length = k - (Lib.decDigits (u / 10)).length := by simp
      rw [e3, ← List.append_assoc, i2]
      rfl
theorem decFrom_app (acc : Nat) (l m : List UInt8) : Lib.decFrom acc (l ++ m) = (Lib.decFrom acc l).bind fun a => Lib.decFrom a m := by
  induction l generalizing acc with
  | nil => rfl
  | cons a t ih =>
    simp only [List.cons_append, Lib.decFrom]
    cases Lib.digitVal a with
    | none => rfl
    | some e => exact ih _
theorem digit_of (d : Nat) (h : d < 10) : Lib.digitVal (UInt8.ofNat (48 + d)) = some d := by
  have : ∀ d < 10, Lib.digitVal (UInt8.ofNat (48 + d)) = some d := by decide
  exact this d h
theorem fixD_dec (k u acc : Nat) (hu : u < 10 ^ k) : Lib.decFrom acc (fixD k u) = some (acc * 10 ^ k + u) := by
  induction k generalizing u with
  | zero => simp at hu; subst hu; simp [fixD, Lib.decFrom]
  | succ k ih =>
    have hu2 : u / 10 < 10 ^ k := by
      rw [Nat.pow_succ] at hu
      omega
    simp only [fixD]
    rw [decFrom_app, ih _ hu2]
    simp only [Option.bind_some, Lib.decFrom, digit_of _ (Nat.mod_lt u (by decide))]
    congr 1
    rw [Nat.pow_succ, Nat.add_mul, Nat.mul_assoc]
    omega
theorem fixD_digit (k u : Nat) : ∀ b ∈ fixD k u, 48 ≤ b.toNat ∧ b.toNat ≤ 57 := by
  induction k generalizing u with
  | zero => simp [fixD]
  | succ k ih =>
    intro b hb
    simp only [fixD, List.mem_append, List.mem_singleton] at hb
    rcases hb with hb | rfl
    · exact ih _ b hb
    · have : ∀ d < 10, 48 ≤ (UInt8.ofNat (48 + d)).toNat ∧ (UInt8.ofNat (48 + d)).toNat ≤ 57 := by decide
      exact this _ (Nat.mod_lt u (by decide))
theorem fixD_atoi (u : Nat) (hu : u < 10 ^ 10) : Lib.atoi (fixD 10 u) = some (u : Int) := by
  have h1 := fixD_dec 10 u 0 hu
  have h2 := fixD_length 10 u
  have h3 := fixD_digit 10 u
  generalize fixD 10 u = l at *
  cases l with
  | nil => simp at h2
  | cons b r =>
    obtain ⟨h4, h5⟩ := h3 b (by simp)
    have n45 : (b == 45) = false := by
      simp only [beq_eq_false_iff_ne, ne_eq]
      rintro rfl
      exact absurd h4 (by decide)
    have n43 : (b == 43) = false := by
      simp only [beq_eq_false_iff_ne, ne_eq]
      rintro rfl
      exact absurd h4 (by decide)
    unfold Lib.atoi
    simp only [n45, n43]
    unfold Lib.decNat
    simp [h1]

end Go.Proofs.YtecpfnobnpddaaaDoor
