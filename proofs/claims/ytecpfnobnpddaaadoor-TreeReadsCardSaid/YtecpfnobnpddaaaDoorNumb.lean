/- Numbers of k digits in order. Plain. -/
import Derived.Test.YtecpfnobnpddaaaDoorDigits
set_option linter.unusedVariables false
set_option linter.unusedSimpArgs false
namespace Go.Proofs.YtecpfnobnpddaaaDoor

theorem less_app (s a b : List UInt8) : Op.bytesLess (s ++ a) (s ++ b) = Op.bytesLess a b := by
  induction s with
  | nil => rfl
  | cons x s ih => simp [Op.bytesLess, ih]
theorem less_snoc (l m : List UInt8) (x y : UInt8) (h : l.length = m.length) : Op.bytesLess (l ++ [x]) (m ++ [y]) = (Op.bytesLess l m || (decide (l = m) && decide (x < y))) := by
  induction l generalizing m with
  | nil =>
    cases m with
    | nil => simp [Op.bytesLess]
    | cons b m => simp at h
  | cons a l ih =>
    cases m with
    | nil => simp at h
    | cons b m =>
      have := ih m (by simpa using h)
      simp only [List.cons_append, Op.bytesLess, this]
      by_cases hab : a = b
      · subst hab; simp
      · have h2 : (a == b) = false := by simpa using hab
        simp [hab, h2]
theorem fixD_inj (k u v : Nat) (hu : u < 10 ^ k) (hv : v < 10 ^ k) : fixD k u = fixD k v ↔ u = v := by
  constructor
  · intro h
    have h1 := fixD_dec k u 0 hu
    have h2 := fixD_dec k v 0 hv
    rw [h, h2] at h1
    simpa [eq_comm] using h1
  · rintro rfl; rfl
theorem digit_less (a b : Nat) (ha : a < 10) (hb : b < 10) : decide (UInt8.ofNat (48 + a) < UInt8.ofNat (48 + b)) = decide (a < b) := by
  have : ∀ a < 10, ∀ b < 10, decide (UInt8.ofNat (48 + a) < UInt8.ofNat (48 + b)) = decide (a < b) := by decide +kernel
  exact this a ha b hb
theorem fixD_less (k u v : Nat) (hu : u < 10 ^ k) (hv : v < 10 ^ k) : Op.bytesLess (fixD k u) (fixD k v) = decide (u < v) := by
  induction k generalizing u v with
  | zero => simp at hu hv; subst hu hv; rfl
  | succ k ih =>
    rw [Nat.pow_succ] at hu hv
    have hu2 : u / 10 < 10 ^ k := by omega
    have hv2 : v / 10 < 10 ^ k := by omega
    simp only [fixD]
    rw [less_snoc _ _ _ _ (by rw [fixD_length, fixD_length]), ih _ _ hu2 hv2, digit_less _ _ (Nat.mod_lt _ (by decide)) (Nat.mod_lt _ (by decide)), Bool.eq_iff_iff]
    simp only [Bool.or_eq_true, Bool.and_eq_true, decide_eq_true_eq, fixD_inj k _ _ hu2 hv2]
    omega

end Go.Proofs.YtecpfnobnpddaaaDoor
