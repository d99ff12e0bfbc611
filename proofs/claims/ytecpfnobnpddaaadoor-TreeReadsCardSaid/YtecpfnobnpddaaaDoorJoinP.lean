/- Paths of some parts: what up, join, below and check answer. Plain. -/
import Derived.Test.YtecpfnobnpddaaaDoorPathChecks
import Derived.Test.YtecpfnobnpddaaaDoorPathOrders
set_option linter.unusedVariables false
set_option linter.unusedSimpArgs false
namespace Go.Proofs.YtecpfnobnpddaaaDoor

theorem last_sep (l p : List UInt8) (h : (47 : UInt8) ∉ p) : Lib.lastIndexByte (S (l ++ 47 :: p)) 47 = l.length := by
  rcases Lib.lastIndexByte_spec (S (l ++ 47 :: p)) 47 with ⟨_, hn⟩ | ⟨i, hi, e, hc, hl⟩
  · exfalso
    have := hn l.length (by simp)
    apply this
    simp [S]
  · rw [e]
    have hi2 : i < (l ++ 47 :: p).length := by simpa using hi
    have hc2 : (((l ++ 47 :: p)[i]'hi2).toNat : Int) = 47 := by
      rw [getElem!_pos _ _ (by simpa [S] using hi2)] at hc
      simpa [S] using hc
    rcases Nat.lt_trichotomy i l.length with h1 | h1 | h1
    · exfalso
      have := hl l.length h1 (by simp)
      apply this
      rw [getElem!_pos _ _ (by simp [S])]
      simp [S]
    · exact congrArg Nat.cast h1
    · exfalso
      apply h
      have hm : (l ++ 47 :: p)[i]'hi2 = 47 := UInt8.toNat_inj.1 (by have h2 : (47 : UInt8).toNat = 47 := rfl; omega)
      rw [List.getElem_append_right (by omega)] at hm
      obtain ⟨j, hj⟩ : ∃ j, i - l.length = j + 1 := ⟨i - l.length - 1, by omega⟩
      simp only [hj, List.getElem_cons_succ] at hm
      rw [← hm]
      exact List.getElem_mem _

/-- a path of these parts, and one more -/
def joinP (l : List Int) (p : List UInt8) : List UInt8 := bodyP l ++ 47 :: p
theorem body_len (l : List Int) : bodyP l = [] ∨ 2 ≤ (bodyP l).length := by
  cases l with
  | nil => exact .inl rfl
  | cons a r =>
    right
    have : 1 ≤ (nameP (pid a)).length := by unfold nameP; split <;> simp
    simp only [bodyP, List.flatMap_cons, List.length_append, List.length_cons]
    omega
theorem madeP_root (l : List Int) : madeP l = [47] ↔ l = [] := by
  rw [← bodyP_eq]
  unfold madeP
  by_cases h : bodyP l = []
  · simp [h]
  · rw [if_neg h]
    have := (body_len l).resolve_left h
    constructor
    · intro e; rw [e] at this; simp at this
    · intro e; exact absurd e h
theorem join_made (l : List Int) (p : List UInt8) : joinF (madeP l) p = joinP l p := by
  unfold joinF joinP
  by_cases h : madeP l = [47]
  · have h2 := (madeP_root l).1 h
    subst h2
    rfl
  · have h2 : bodyP l ≠ [] := fun e => h ((madeP_root l).2 ((bodyP_eq l).1 e))
    rw [if_neg h]
    unfold madeP
    rw [if_neg h2]
    simp
theorem made_join (l : List Int) (x : Int) : madeP (l ++ [x]) = joinP l (nameP (pid x)) := by
  unfold madeP joinP bodyP
  simp
theorem join_inj (l : List Int) (p q : List UInt8) : joinP l p = joinP l q ↔ p = q := by simp [joinP]
theorem part_slash {p : List UInt8} (h : partF p = true) : (47 : UInt8) ∉ p := by
  intro hm
  unfold partF at h
  simp only [Bool.and_eq_true, List.all_eq_true] at h
  have := h.2 47 hm
  exact absurd this (by decide)
theorem part_len {p : List UInt8} (h : partF p = true) : 1 ≤ p.length ∧ p.length ≤ 20 := by
  unfold partF at h
  simp only [Bool.and_eq_true, decide_eq_true_eq] at h
  exact h.1
theorem name_part (k : Nat) : partF (nameP k) = true := by
  unfold nameP
  split <;> decide
theorem up_made (l : List Int) (p : List UInt8) (h : partF p = true) : upF (joinP l p) = (madeP l, p) := by
  have hs := part_slash h
  have hl := part_len h
  unfold upF
  have e : Lib.lastIndexByte (S (joinP l p)) 47 = (bodyP l).length := last_sep _ _ hs
  rw [e, if_neg (by
    rintro (h1 | h1)
    · have := congrArg List.length h1
      simp [joinP] at this
      omega
    · omega)]
  by_cases h0 : bodyP l = []
  · rw [if_pos (by simp [h0])]
    simp [joinP, madeP, h0]
  · rw [if_neg (by simpa using h0)]
    simp [joinP, madeP, h0]
theorem below_made (l : List Int) (p : List UInt8) (h : p ≠ []) : belowF (joinP l p) (madeP l) = true := by
  rw [below_spec]
  by_cases h0 : bodyP l = []
  · have e : madeP l = [47] := by simp [madeP, h0]
    rw [e]
    refine ⟨?_, .inl ⟨rfl, by simp [joinP]⟩⟩
    simp [joinP, h0, h]
  · have e : madeP l = bodyP l := by simp [madeP, h0]
    rw [e]
    refine ⟨?_, .inr ?_⟩
    · intro h1
      have := congrArg List.length h1
      simp [joinP] at this
    · exact ⟨p, by simp [joinP]⟩
theorem below_self (s : List UInt8) : belowF s s = false := by simp [belowF]
theorem join_parts (l : List Int) (p : List UInt8) (h : partF p = true) : (cutL 47 ((joinP l p).drop 1)).all partF = true := by
  induction l with
  | nil =>
    have e : (joinP [] p).drop 1 = p := rfl
    rw [e, cutL_none_ (part_slash h)]
    simp [h]
  | cons a r ih =>
    have e : (joinP (a :: r) p).drop 1 = nameP (pid a) ++ 47 :: (joinP r p).drop 1 := by
      have e2 : joinP r p = 47 :: (joinP r p).drop 1 := by
        cases r with
        | nil => rfl
        | cons b t => simp [joinP, bodyP]
      have e3 : joinP (a :: r) p = 47 :: (nameP (pid a) ++ joinP r p) := by simp [joinP, bodyP]
      rw [e3]
      conv => lhs; rw [e2]
      simp
    rw [e, cutL_sep 47 _ _ (part_slash (name_part _))]
    rw [List.all_cons, ih, name_part]
    rfl
theorem join_want (l : List Int) (p : List UInt8) (h : partF p = true) : checkF (joinP l p) = if (joinP l p).length ≤ 60 then 0 else 10 := by
  have hl := part_len h
  have hne : joinP l p ≠ [47] := by
    intro h1
    have := congrArg List.length h1
    simp [joinP] at this
    omega
  have hp : [47].isPrefixOf (joinP l p) = true := by
    cases l with
    | nil => rfl
    | cons b t => simp [joinP, bodyP]
  unfold checkF
  rw [if_neg hne, join_parts l p h]
  by_cases h6 : (joinP l p).length ≤ 60
  · rw [if_pos h6, if_neg (by rw [hp]; simp; omega)]
    rfl
  · rw [if_neg h6, if_pos (.inl (by omega))]
theorem made_check (l : List Int) (h : l.length ≤ 8) : checkF (madeP l) = 0 := by
  rcases List.eq_nil_or_concat l with rfl | ⟨r, x, rfl⟩
  · rfl
  · have := madeP_le (r ++ [x])
    rw [List.concat_eq_append, made_join] at *
    rw [join_want _ _ (name_part _), if_pos]
    simp only [List.length_append, List.length_cons, List.length_nil] at h this
    omega
theorem name_inj {i j : Nat} (hi : i < 5) (hj : j < 5) {s t : List UInt8} (h : nameP i ++ s <+: nameP j ++ t) : i = j := by
  have key : (nameP i).head? = (nameP j).head? := by
    obtain ⟨u, hu⟩ := h
    have h1 := congrArg List.head? hu
    have hn : ∀ k, nameP k ≠ [] := fun k => by unfold nameP; split <;> simp
    have hd : ∀ k t, (nameP k ++ t).head? = (nameP k).head? := fun k t => by
      cases hk : nameP k with
      | nil => exact absurd hk (hn k)
      | cons a r => rfl
    rw [List.append_assoc, hd, hd] at h1
    exact h1
  have hk : ∀ i < 5, ∀ j < 5, (nameP i).head? = (nameP j).head? → i = j := by decide
  exact hk i hi j hj key
/-- the parts of b are the first of a -/
def agreeP (a b : List Int) : Nat → Bool
  | 0 => true
  | k + 1 => agreeP a b k && decide (pid (a[k]?.getD 0) = pid (b[k]?.getD 0))
theorem agree_cons (x y : Int) (a b : List Int) (k : Nat) : agreeP (x :: a) (y :: b) (k + 1) = (decide (pid x = pid y) && agreeP a b k) := by
  induction k with
  | zero => simp [agreeP]
  | succ k ih =>
    rw [agreeP, ih, agreeP]
    simp [Bool.and_assoc]
theorem body_prefix (a b : List Int) : (bodyP b ++ [47]) <+: bodyP a ↔ b.length < a.length ∧ agreeP a b b.length = true := by
  induction b generalizing a with
  | nil =>
    cases a with
    | nil => simp [bodyP]
    | cons x r => simp [bodyP, agreeP]
  | cons y s ih =>
    cases a with
    | nil => simp [bodyP]
    | cons x r =>
      have e1 : bodyP (y :: s) ++ [47] = 47 :: (nameP (pid y) ++ (bodyP s ++ [47])) := by simp [bodyP]
      have e2 : bodyP (x :: r) = 47 :: (nameP (pid x) ++ bodyP r) := by simp [bodyP]
      rw [e1, e2, List.prefix_cons_inj, List.length_cons, agree_cons]
      by_cases h : pid x = pid y
      · rw [h, List.prefix_append_right_inj, ih]
        simp
      · constructor
        · intro h1
          exact absurd (name_inj (pid_lt _) (pid_lt _) h1).symm h
        · simp [h]
theorem below_agree (a b : List Int) : belowF (madeP a) (madeP b) = (decide (b.length < a.length) && agreeP a b b.length) := by
  by_cases hb : b = []
  · subst hb
    have e : madeP [] = [47] := rfl
    rw [e, below_root (madeP_ne a)]
    have := madeP_root a
    cases a with
    | nil => simp [agreeP, e]
    | cons x r => simp [agreeP, this]
  · have h2 : bodyP b ≠ [] := fun e => hb ((bodyP_eq b).1 e)
    have e : madeP b = bodyP b := by simp [madeP, h2]
    have h3 := (body_len b).resolve_left h2
    rw [Bool.eq_iff_iff, below_spec, e]
    simp only [Bool.and_eq_true, decide_eq_true_eq]
    rw [← body_prefix]
    have h4 : bodyP b ≠ [47] := fun h => by rw [h] at h3; simp at h3
    by_cases ha : bodyP a = []
    · have ea : madeP a = [47] := by simp [madeP, ha]
      rw [ea, ha]
      constructor
      · rintro ⟨_, ⟨h, _⟩ | h⟩
        · exact absurd h h4
        · have := h.length_le
          simp only [List.length_append, List.length_cons, List.length_nil] at this
          omega
      · intro h
        simp at h
    · have ea : madeP a = bodyP a := by simp [madeP, ha]
      rw [ea]
      constructor
      · rintro ⟨_, ⟨h, _⟩ | h⟩
        · exact absurd h h4
        · exact h
      · intro h
        refine ⟨?_, .inr h⟩
        intro h5
        have := h.length_le
        rw [h5] at this
        simp only [List.length_append, List.length_cons, List.length_nil] at this
        omega
theorem made_one (x y : Int) : (madeP [x] = madeP [y]) ↔ pid x = pid y := by
  have e : ∀ z, madeP [z] = 47 :: nameP (pid z) := fun z => by simp [madeP, bodyP]
  rw [e, e]
  constructor
  · intro h
    injection h with _ h
    exact name_inj (s := []) (t := []) (pid_lt _) (pid_lt _) (by simp [h])
  · intro h; rw [h]

end Go.Proofs.YtecpfnobnpddaaaDoor
