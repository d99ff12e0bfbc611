/- Plain laws of the package pith: what a writer lays a reader takes back, and what a reader took a writer lays. No condition. -/
import Derived.Test.YtanlobdidjednaaGreatDoorPithM
set_option linter.unusedVariables false
namespace Go.Proofs.YtanlobdidjednaaGreatDoor

/-! ### numbers -/
theorem be_cons6 (a b c d e f : UInt8) : be [a, b, c, d, e, f] = ((((((a.toNat : Int) * 256 + b.toNat) * 256 + c.toNat) * 256 + d.toNat) * 256 + e.toNat) * 256 + f.toNat) := by
  simp [be]
theorem nb_toNat (y : Int) (j : Nat) : ((nb y j).toNat : Int) = y / 2 ^ (40 - 8 * j) % 256 := by
  have h0 : 0 ≤ y / 2 ^ (40 - 8 * j) % 256 := Int.emod_nonneg _ (by decide)
  have h1 : y / 2 ^ (40 - 8 * j) % 256 < 256 := Int.emod_lt_of_pos _ (by decide)
  unfold nb
  rw [UInt8.toNat_ofNat']
  omega
theorem clampM_id (x : Int) (h : 0 ≤ x) (h2 : x ≤ 281474976710655) : clampM x = x := by
  unfold clampM
  rw [if_neg (by omega), if_pos h2]
theorem be_num6 (x : Int) (h : 0 ≤ x) (h2 : x ≤ 281474976710655) : be (num6 x) = x := by
  have e : num6 x = [nb (clampM x) 0, nb (clampM x) 1, nb (clampM x) 2, nb (clampM x) 3, nb (clampM x) 4, nb (clampM x) 5] := rfl
  rw [e, be_cons6, clampM_id x h h2]
  simp only [nb_toNat]
  simp only [Nat.reduceMul, Nat.reduceSub, Int.reducePow, Int.pow_zero, Int.ediv_one]
  omega
theorem num6_be (l : List UInt8) (h : l.length = 6) : num6 (be l) = l := by
  match l, h with
  | [a, b, c, d, e, f], _ =>
    have ha := a.toNat_lt
    have hb := b.toNat_lt
    have hc := c.toNat_lt
    have hd := d.toNat_lt
    have he := e.toNat_lt
    have hf := f.toNat_lt
    have h1 := be_nonneg [a, b, c, d, e, f]
    have h2 := be_lt [a, b, c, d, e, f]
    have e1 : num6 (be [a, b, c, d, e, f]) = [nb (be [a, b, c, d, e, f]) 0, nb (be [a, b, c, d, e, f]) 1, nb (be [a, b, c, d, e, f]) 2, nb (be [a, b, c, d, e, f]) 3, nb (be [a, b, c, d, e, f]) 4, nb (be [a, b, c, d, e, f]) 5] := by
      have := clampM_id (be [a, b, c, d, e, f]) h1 (by simp only [List.length_cons, List.length_nil] at h2; omega)
      show List.map (nb (clampM _)) _ = _
      rw [this]; rfl
    rw [e1, be_cons6]
    have key : ∀ (u : UInt8) (y : Int) (j : Nat), y / 2 ^ (40 - 8 * j) % 256 = u.toNat → nb y j = u := by
      intro u y j hu
      apply UInt8.toNat_inj.1
      have := nb_toNat y j
      omega
    rw [key a _ 0, key b _ 1, key c _ 2, key d _ 3, key e _ 4, key f _ 5]
    all_goals
      simp only [Nat.reduceMul, Nat.reduceSub, Int.reducePow, Int.pow_zero, Int.ediv_one]
      omega

/-! ### forward -/
theorem tk_app (a b : List UInt8) (n : Nat) (h : a.length = n) : tk (a ++ b, false) n = (a, (b, false)) := by
  subst h
  unfold tk
  rw [if_neg (by simp)]
  simp
theorem rn_app (x most : Int) (b : List UInt8) (h : 0 ≤ x) (h2 : x ≤ most) (h3 : most ≤ 281474976710655) : rn (num6 x ++ b, false) most = (x, (b, false)) := by
  unfold rn
  rw [tk_app _ _ 6 rfl]
  simp only
  rw [be_num6 x h (by omega), if_neg (by omega)]
theorem rt_app (s b : List UInt8) (most : Int) (h : (s.length : Int) ≤ most) (h3 : most ≤ 60000) : rt (txt s ++ b, false) most = (s, (b, false)) := by
  have ec : cut16 s = s := List.take_of_length_le (by omega)
  unfold rt txt
  rw [ec, List.append_assoc, tk_app (len2 s.length) _ 2 rfl]
  have e2 : be (len2 s.length) = s.length := by
    unfold len2
    rw [be_two, UInt8.toNat_ofNat', UInt8.toNat_ofNat']
    omega
  simp only
  rw [if_neg (by simp [len2]), e2, if_neg (by omega)]
  exact tk_app _ _ _ (by simp)
theorem rf_app (x : Bool) (b : List UInt8) : rf (fb x :: b, false) = (x, (b, false)) := by
  unfold rf
  have e := tk_app [fb x] b 1 rfl
  rw [List.cons_append, List.nil_append] at e
  rw [e]
  cases x <;> rfl

/-! ### backward -/
/-- bytes were taken, if it did not fail -/
def Took (x : RS) (l : List UInt8) (x' : RS) : Prop := x'.2 = false → x.2 = false ∧ x.1 = l ++ x'.1
theorem Took.nil (x : RS) : Took x [] x := fun h => ⟨h, rfl⟩
theorem Took.trans {x y z : RS} {a b : List UInt8} (h : Took x a y) (h' : Took y b z) : Took x (a ++ b) z := by
  intro hz
  obtain ⟨h1, h2⟩ := h' hz
  obtain ⟨h3, h4⟩ := h h1
  exact ⟨h3, by rw [h4, h2, List.append_assoc]⟩
theorem tk_took (x : RS) (n : Nat) (h : (tk x n).2.2 = false) : Took x (tk x n).1 (tk x n).2 ∧ (tk x n).1.length = n := by
  unfold tk at h ⊢
  split at h
  · simp [fl] at h
  · rename_i hn
    rw [if_neg hn]
    simp only [not_or, Bool.not_eq_true] at hn
    exact ⟨fun _ => ⟨hn.1, (List.take_append_drop _ _).symm⟩, by simp; omega⟩
theorem rn_took (x : RS) (most : Int) : Took x (num6 (rn x most).1) (rn x most).2 := by
  intro h
  unfold rn at h ⊢
  split at h
  · simp [fl] at h
  · rename_i hn
    rw [if_neg hn]
    obtain ⟨h1, h2⟩ := tk_took x 6 h
    show _ ∧ _ = num6 (be (tk x 6).1) ++ _
    rw [num6_be _ h2]
    exact h1 h
theorem rt_took (x : RS) (most : Int) : Took x (txt (rt x most).1) (rt x most).2 := by
  intro h
  unfold rt at h ⊢
  split at h
  · rename_i hn
    have := (tk_took x 2 h).2
    rw [hn] at this
    simp at this
  · rename_i hn
    rw [if_neg hn]
    by_cases hm : most < be (tk x 2).1
    · rw [if_pos hm] at h
      simp [tk, fl] at h
    · rw [if_neg hm] at h ⊢
      obtain ⟨h1, h2⟩ := tk_took _ _ h
      obtain ⟨h3, h4⟩ := h1 h
      obtain ⟨h5, h6⟩ := tk_took _ _ h3
      obtain ⟨h7, h8⟩ := h5 h3
      refine ⟨h7, ?_⟩
      rw [h8, h4, ← List.append_assoc]
      congr 1
      generalize (tk (tk x 2).2 (be (tk x 2).1).toNat).1 = s at *
      generalize (tk x 2).1 = l at *
      match l, h6 with
      | [a, b], _ =>
        have ha := a.toNat_lt
        have hb := b.toNat_lt
        rw [be_two] at h2
        have ec : cut16 s = s := List.take_of_length_le (by omega)
        unfold txt
        rw [ec]
        congr 1
        unfold len2
        have e1 : UInt8.ofNat (s.length / 256) = a := by
          apply UInt8.toNat_inj.1
          rw [UInt8.toNat_ofNat']
          omega
        have e2 : UInt8.ofNat s.length = b := by
          apply UInt8.toNat_inj.1
          rw [UInt8.toNat_ofNat']
          omega
        rw [e1, e2]
theorem rf_took (x : RS) : Took x [fb (rf x).1] (rf x).2 := by
  intro h
  unfold rf at h ⊢
  generalize hc : (tk x 1).1 = l at *
  match l with
  | [] =>
    have := (tk_took x 1 h).2
    rw [hc] at this
    simp at this
  | c :: r =>
    simp only at h ⊢
    by_cases h1 : 1 < c.toNat
    · rw [if_pos h1] at h; simp [fl] at h
    · rw [if_neg h1] at h ⊢
      obtain ⟨h2, h3⟩ := tk_took x 1 h
      obtain ⟨h4, h5⟩ := h2 h
      refine ⟨h4, ?_⟩
      rw [hc] at h5 h3
      have hr : r = [] := by simpa using h3
      subst hr
      rw [h5]
      show _ = [fb (c == 1)] ++ _
      congr 2
      have h6 : c = 0 ∨ c = 1 := by
        have : c.toNat = 0 ∨ c.toNat = 1 := by omega
        rcases this with h | h
        · left; apply UInt8.toNat_inj.1; rw [h]; rfl
        · right; apply UInt8.toNat_inj.1; rw [h]; rfl
      rcases h6 with rfl | rfl <;> rfl

end Go.Proofs.YtanlobdidjednaaGreatDoor
