/- Plain laws of the package op: what a writer lays a reader takes back, and what a reader took a writer lays. No condition. -/
import Derived.Test.YtcnehacblodiaaaDoorBytes
import Derived.Test.YtcnehacblodiaaaDoorRead
set_option linter.unusedVariables false
namespace Go.Proofs.YtcnehacblodiaaaDoor

/-! ### numbers -/
theorem be_cons6 (a b c d e f : UInt8) : be [a, b, c, d, e, f] = ((((((a.toNat : Int) * 256 + b.toNat) * 256 + c.toNat) * 256 + d.toNat) * 256 + e.toNat) * 256 + f.toNat) := by
  simp [be]
theorem nb_toNat (y : Int) (j : Nat) : ((nb y j).toNat : Int) = y / 2 ^ (40 - 8 * j) % 256 := by
  have h0 : 0 ≤ y / 2 ^ (40 - 8 * j) % 256 := Int.emod_nonneg _ (by decide)
  have h1 : y / 2 ^ (40 - 8 * j) % 256 < 256 := Int.emod_lt_of_pos _ (by decide)
  unfold nb
  rw [UInt8.toNat_ofNat']
  omega
theorem clampM_id (x : Int) (h : 0 ≤ x) (h2 : x ≤ 281474976710655) : clampM x = x := by
  unfold clampM
  rw [if_neg (by omega), if_pos h2]
theorem be_num6 (x : Int) (h : 0 ≤ x) (h2 : x ≤ 281474976710655) : be (num6 x) = x := by
  have e : num6 x = [nb (clampM x) 0, nb (clampM x) 1, nb (clampM x) 2, nb (clampM x) 3, nb (clampM x) 4, nb (clampM x) 5] := rfl
  rw [e, be_cons6, clampM_id x h h2]
  simp only [nb_toNat]
  simp only [Nat.reduceMul, Nat.reduceSub, Int.reducePow, Int.pow_zero, Int.ediv_one]
  omega
theorem num6_be (l : List UInt8) (h : l.length = 6) : num6 (be l) = l := by
  match l, h with
  | [a, b, c, d, e, f], _ =>
    have ha := a.toNat_lt
    have hb := b.toNat_lt
    have hc := c.toNat_lt
    have hd := d.toNat_lt
    have he := e.toNat_lt
    have hf := f.toNat_lt
    have h1 := be_nonneg [a, b, c, d, e, f]
    have h2 := be_lt [a, b, c, d, e, f]
    have e1 : num6 (be [a, b, c, d, e, f]) = [nb (be [a, b, c, d, e, f]) 0, nb (be [a, b, c, d, e, f]) 1, nb (be [a, b, c, d, e, f]) 2, nb (be [a, b, c, d, e, f]) 3, nb (be [a, b, c, d, e, f]) 4, nb (be [a, b, c, d, e, f]) 5] := by
      have := clampM_id (be [a, b, c, d, e, f]) h1 (by simp only [List.length_cons, List.length_nil] at h2; omega)
      show List.map (nb (clampM _)) _ = _
      rw [this]; rfl
    rw [e1, be_cons6]
    have key : ∀ (u : UInt8) (y : Int) (j : Nat), y / 2 ^ (40 - 8 * j) % 256 = u.toNat → nb y j = u := by
      intro u y j hu
      apply UInt8.toNat_inj.1
      have := nb_toNat y j
      omega
    rw [key a _ 0, key b _ 1, key c _ 2, key d _ 3, key e _ 4, key f _ 5]
    all_goals
      simp only [Nat.reduceMul, Nat.reduceSub, Int.reducePow, Int.pow_zero, Int.ediv_one]
      omega

/-! ### forward -/
theorem tk_app (a b : List UInt8) (n : Nat) (h : a.length = n) : tk (a ++ b, false) n = (a, (b, false)) := by
  subst h
  unfold tk
  rw [if_neg (by simp)]
  simp
theorem rn_app (x most : Int) (b : List UInt8) (h : 0 ≤ x) (h2 : x ≤ most) (h3 : most ≤ 281474976710655) : rn (num6 x ++ b, false) most = (x, (b, false)) := by
  unfold rn
  rw [tk_app _ _ 6 rfl]
  simp only
  rw [be_num6 x h (by omega), if_neg (by omega)]
theorem rt_app (s b : List UInt8) (most : Int) (h : (s.length : Int) ≤ most) (h3 : most ≤ 60000) : rt (txt s ++ b, false) most = (s, (b, false)) := by
  have ec : cut16 s = s := List.take_of_length_le (by omega)
  unfold rt txt
  rw [ec, List.append_assoc, tk_app (len2 s.length) _ 2 rfl]
  have e2 : be (len2 s.length) = s.length := by
    unfold len2
    rw [be_two, UInt8.toNat_ofNat', UInt8.toNat_ofNat']
    omega
  simp only
  rw [if_neg (by simp [len2]), e2, if_neg (by omega)]
  exact tk_app _ _ _ (by simp)
theorem rf_app (x : Bool) (b : List UInt8) : rf (fb x :: b, false) = (x, (b, false)) := by
  unfold rf
  have e := tk_app [fb x] b 1 rfl
  rw [List.cons_append, List.nil_append] at e
  rw [e]
  cases x <;> rfl

/-! ### backward -/
/-- bytes were taken, if it did not fail -/
def Took (x : RS) (l : List UInt8) (x' : RS) : Prop := x'.2 = false → x.2 = false ∧ x.1 = l ++ x'.1
theorem Took.nil (x : RS) : Took x [] x := fun h => ⟨h, rfl⟩
theorem Took.trans {x y z : RS} {a b : List UInt8} (h : Took x a y) (h' : Took y b z) : Took x (a ++ b) z := by
  intro hz
  obtain ⟨h1, h2⟩ := h' hz
  obtain ⟨h3, h4⟩ := h h1
  exact ⟨h3, by rw [h4, h2, List.append_assoc]⟩
theorem tk_took (x : RS) (n : Nat) (h : (tk x n).2.2 = false) : Took x (tk x n).1 (tk x n).2 ∧ (tk x n).1.length = n := by
  unfold tk at h ⊢
  split at h
  · simp [fl] at h
  · rename_i hn
    rw [if_neg hn]
    simp only [not_or, Bool.not_eq_true] at hn
    exact ⟨fun _ => ⟨hn.1, (List.take_append_drop _ _).symm⟩, by simp; omega⟩
theorem rn_took (x : RS) (most : Int) : Took x (num6 (rn x most).1) (rn x most).2 := by
  intro h
  unfold rn at h ⊢
  split at h
  · simp [fl] at h
  · rename_i hn
    rw [if_neg hn]
    obtain ⟨h1, h2⟩ := tk_took x 6 h
    show _ ∧ _ = num6 (be (tk x 6).1) ++ _
    rw [num6_be _ h2]
    exact h1 h
theorem rt_took (x : RS) (most : Int) : Took x (txt (rt x most).1) (rt x most).2 := by
  intro h
  unfold rt at h ⊢
  split at h
  · rename_i hn
    have := (tk_took x 2 h).2
    rw [hn] at this
    simp at this
  · rename_i hn
    rw [if_neg hn]
    by_cases hm : most < be (tk x 2).1
    · rw [if_pos hm] at h
      simp [tk, fl] at h
    · rw [if_neg hm] at h ⊢
      obtain ⟨h1, h2⟩ := tk_took _ _ h
      obtain ⟨h3, h4⟩ := h1 h
      obtain ⟨h5, h6⟩ := tk_took _ _ h3
      obtain ⟨h7, h8⟩ := h5 h3
      refine ⟨h7, ?_⟩
      rw [h8, h4, ← List.append_assoc]
      congr 1
      generalize (tk (tk x 2).2 (be (tk x 2).1).toNat).1 = s at *
      generalize (tk x 2).1 = l at *
      match l, h6 with
      | [a, b], _ =>
        have ha := a.toNat_lt
        have hb := b.toNat_lt
        rw [be_two] at h2
        have ec : cut16 s = s := List.take_of_length_le (by omega)
        unfold txt
        rw [ec]
        congr 1
        unfold len2
        have e1 : UInt8.ofNat (s.length / 256) = a := by
          apply UInt8.toNat_inj.1
          rw [UInt8.toNat_ofNat']
          omega
        have e2 : UInt8.ofNat s.length = b := by
          apply UInt8.toNat_inj.1
          rw [UInt8.toNat_ofNat']
          omega
        rw [e1, e2]
theorem rf_took (x : RS) : Took x [fb (rf x).1] (rf x).2 := by
  intro h
  unfold rf at h ⊢
  generalize hc : (tk x 1).1 = l at *
  match l with
  | [] =>
    have := (tk_took x 1 h).2
    rw [hc] at this
    simp at this
  | c :: r =>
    simp only at h ⊢
    by_cases h1 : 1 < c.toNat
    · rw [if_pos h1] at h; simp [fl] at h
    · rw [if_neg h1] at h ⊢
      obtain ⟨h2, h3⟩ := tk_took x 1 h
      obtain ⟨h4, h5⟩ := h2 h
      refine ⟨h4, ?_⟩
      rw [hc] at h5 h3
      have hr : r = [] := by simpa using h3
      subst hr
      rw [h5]
      show _ = [fb (c == 1)] ++ _
      congr 2
      have h6 : c = 0 ∨ c = 1 := by
        have : c.toNat = 0 ∨ c.toNat = 1 := by omega
        rcases this with h | h
        · left; apply UInt8.toNat_inj.1; rw [h]; rfl
        · right; apply UInt8.toNat_inj.1; rw [h]; rfl
      rcases h6 with rfl | rfl <;> rfl

/-! ### operations and commands -/
theorem rOp_app (o : OpT) (b : List UInt8) (h : opR o = true) : rOp (opB o ++ b, false) = (o, (b, false)) := by
  obtain ⟨h1, h2, h3, h4, h5, h6⟩ := opR_of h
  obtain ⟨does, path, data, version, serial, own⟩ := o
  simp only at h1 h2 h3 h4 h5 h6
  have e : opB ⟨does, path, data, version, serial, own⟩ ++ b = num6 does ++ (num6 (version + 1) ++ (txt path ++ (txt data ++ (fb serial :: (fb own :: b))))) := by
    simp [opB, nums, txts, flags]
  rw [e]
  unfold rOp rO2 rO3 rO4 rO5 rO6
  rw [rn_app does 4 _ (by omega) (by omega) (by omega)]
  simp only
  rw [rn_app (version + 1) _ _ (by omega) (by omega) (by omega)]
  simp only
  rw [rt_app path _ 60 (by omega) (by omega)]
  simp only
  rw [rt_app data _ 61 (by omega) (by omega)]
  simp only
  rw [rf_app]
  simp only
  rw [rf_app]
  simp
theorem rOp_took (x : RS) : Took x (opB (rOp x).1) (rOp x).2 := by
  have h1 := rn_took x 4
  have h2 := rn_took (rn x 4).2 281474976710655
  have h3 := rt_took (rn (rn x 4).2 281474976710655).2 60
  have h4 := rt_took (rt (rn (rn x 4).2 281474976710655).2 60).2 61
  have h5 := rf_took (rt (rt (rn (rn x 4).2 281474976710655).2 60).2 61).2
  have h6 := rf_took (rf (rt (rt (rn (rn x 4).2 281474976710655).2 60).2 61).2).2
  have h := h1.trans (h2.trans (h3.trans (h4.trans (h5.trans h6))))
  have e : opB (rOp x).1 = num6 (rn x 4).1 ++ (num6 ((rn (rn x 4).2 281474976710655).1 - 1 + 1) ++ (txt (rt (rn (rn x 4).2 281474976710655).2 60).1 ++ (txt (rt (rt (rn (rn x 4).2 281474976710655).2 60).2 61).1 ++ ([fb (rf (rt (rt (rn (rn x 4).2 281474976710655).2 60).2 61).2).1] ++ [fb (rf (rf (rt (rt (rn (rn x 4).2 281474976710655).2 60).2 61).2).2).1])))) := by
    simp [opB, nums, txts, flags, rOp, rO2, rO3, rO4, rO5, rO6]
  rw [e, Int.sub_add_cancel]
  exact h
theorem rOps_took (x : RS) (n : Nat) : Took x ((rOps n x).1.flatMap opB) (rOps n x).2 := by
  induction n with
  | zero => exact Took.nil x
  | succ n ih =>
    have h := ih.trans (rOp_took (rOps n x).2)
    simp only [rOps, List.flatMap_append, List.flatMap_cons, List.flatMap_nil, List.append_nil]
    exact h
theorem rOps_app (os : List OpT) (b : List UInt8) (h : ∀ o ∈ os, opR o = true) : ∀ k ≤ os.length, rOps k (os.flatMap opB ++ b, false) = (os.take k, ((os.drop k).flatMap opB ++ b, false)) := by
  intro k
  induction k with
  | zero => intro _; simp [rOps]
  | succ k ih =>
    intro hk
    rw [rOps, ih (by omega)]
    have hd : os.drop k = os[k] :: os.drop (k + 1) := List.drop_eq_getElem_cons (by omega)
    simp only
    rw [hd, List.flatMap_cons, List.append_assoc, rOp_app _ _ (h _ (List.getElem_mem _))]
    simp only
    rw [List.take_succ_eq_append_getElem (by omega)]
theorem rCmd_app (c : CmdT) (h : cmdR c = true) : rCmd (cmdB c, false) = (c, ([], false)) := by
  obtain ⟨h1, h2, h3, h4, h5, h6⟩ := cmdR_of h
  obtain ⟨kind, session, req, noted, ops, path, kids, once⟩ := c
  simp only at h1 h2 h3 h4 h5 h6
  simp only [numR, decide_eq_true_eq] at h3
  have e : cmdB ⟨kind, session, req, noted, ops, path, kids, once⟩ = num6 kind ++ (num6 session ++ (num6 req ++ (num6 noted ++ (num6 ops.length ++ (ops.flatMap opB ++ (txt path ++ (fb kids :: (fb once :: [])))))))) := by
    simp [cmdB, nums, txts, flags]
  rw [e]
  unfold rCmd rC2 rC3 rC4 rC5 rC6 rC7 rC8 rC9
  rw [rn_app kind 5 _ (by omega) (by omega) (by omega)]
  simp only
  rw [rn_app session _ _ (by omega) (by omega) (by omega)]
  simp only
  rw [rn_app req _ _ (by omega) (by omega) (by omega)]
  simp only
  rw [rn_app noted _ _ (by omega) (by omega) (by omega)]
  simp only
  rw [rn_app ops.length 4 _ (by omega) (by omega) (by omega)]
  simp only [Int.toNat_natCast]
  rw [rOps_app ops _ h5 ops.length (Nat.le_refl _)]
  simp only [List.drop_length, List.take_length, List.flatMap_nil, List.nil_append]
  rw [rt_app path _ 60 (by omega) (by omega)]
  simp only
  rw [rf_app]
  simp only
  rw [rf_app]
theorem rCmd_took (x : RS) : Took x (cmdB (rCmd x).1) (rCmd x).2 := by
  unfold rCmd rC2 rC3 rC4 rC5 rC6 rC7 rC8 rC9
  simp only
  have h1 := rn_took x 5
  generalize rn x 5 = a1 at *
  have h2 := rn_took a1.2 281474976710655
  generalize rn a1.2 281474976710655 = a2 at *
  have h3 := rn_took a2.2 281474976710655
  generalize rn a2.2 281474976710655 = a3 at *
  have h4 := rn_took a3.2 281474976710655
  generalize rn a3.2 281474976710655 = a4 at *
  have h5 := rn_took a4.2 4
  have hn := rn_lo a4.2 4
  generalize rn a4.2 4 = a5 at *
  have h6 := rOps_took a5.2 a5.1.toNat
  have hl := rOps_length a5.1.toNat a5.2
  generalize rOps a5.1.toNat a5.2 = a6 at *
  have h7 := rt_took a6.2 60
  generalize rt a6.2 60 = a7 at *
  have h8 := rf_took a7.2
  generalize rf a7.2 = a8 at *
  have h9 := rf_took a8.2
  generalize rf a8.2 = a9 at *
  have h := h1.trans (h2.trans (h3.trans (h4.trans (h5.trans (h6.trans (h7.trans (h8.trans h9)))))))
  have e : ((a6.1.length : Nat) : Int) = a5.1 := by omega
  have e2 : cmdB ⟨a1.1, a2.1, a3.1, a4.1, a6.1, a7.1, a8.1, a9.1⟩ = num6 a1.1 ++ (num6 a2.1 ++ (num6 a3.1 ++ (num6 a4.1 ++ (num6 a5.1 ++ (a6.1.flatMap opB ++ (txt a7.1 ++ ([fb a8.1] ++ [fb a9.1]))))))) := by
    simp [cmdB, nums, txts, flags, e]
  rw [e2]
  exact h

/-! ### the two laws -/
theorem readF_of {c : CmdT} {s : List UInt8} (h : bytesF c = (s, 0)) : readF s = (c, 0) := by
  unfold bytesF at h
  split at h
  · simp at h
  · rename_i hr
    split at h
    · simp at h
    · rename_i hl
      simp only [Prod.mk.injEq, and_true] at h
      subst h
      have hr' : cmdR c = true := by simpa using hr
      unfold readF
      rw [rCmd_app c hr']
      rw [if_neg (by simp [rdone, hr']; omega)]
theorem readF_bytes {s : List UInt8} (h : (readF s).2 = 0) : bytesF (readF s).1 = (s, 0) ∧ cmdR (readF s).1 = true := by
  unfold readF at h ⊢
  split at h
  · simp at h
  · rename_i hn
    rw [if_neg hn]
    simp only [not_or, ne_eq, Decidable.not_not, Bool.not_eq_false] at hn
    obtain ⟨h1, h2, h3⟩ := hn
    have h4 : (rCmd (s, false)).2 = ([], false) := by
      unfold rdone at h1
      split at h1
      · simp at h1
      · rename_i hq
        simp only [not_or, Bool.not_eq_true, ne_eq, Decidable.not_not] at hq
        exact Prod.ext hq.2 hq.1
    have h5 := (rCmd_took (s, false) (by rw [h4])).2
    rw [h4] at h5
    simp only [List.append_nil] at h5
    refine ⟨?_, h2⟩
    unfold bytesF
    show (if cmdR (rCmd (s, false)).1 = false then _ else _) = _
    rw [if_neg (by simp [h2]), ← h5, if_neg h3]
theorem readF_none {s : List UInt8} (h : (readF s).2 ≠ 0) : readF s = (noCmd, 2) := by
  unfold readF at h ⊢
  split at h
  · rename_i hn; rw [if_pos hn]
  · simp at h

end Go.Proofs.YtcnehacblodiaaaDoor
