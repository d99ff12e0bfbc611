/- Results: what is written is read again; what is read was written so. No condition. -/
import Derived.Test.YtinpnnfeggjbeaaAns
import Derived.Test.YtinpnnfeggjbeaaCodec
set_option linter.unusedVariables false
namespace Go.Proofs.Ytinpnnfeggjbeaa
open Go.RowKit

def outR (o : OutT) : Prop := o.path.length ≤ 60 ∧ 0 ≤ o.version ∧ o.version ≤ 281474976710655
def resR (r : ResT) : Prop := 0 ≤ r.e ∧ r.e ≤ 1024 ∧ 0 ≤ r.at_ ∧ r.at_ ≤ 4 ∧ 0 ≤ r.when ∧ r.when ≤ 281474976710655 ∧ r.outs.length ≤ 4 ∧ ∀ o ∈ r.outs, outR o

theorem rOut_app (o : OutT) (b : List UInt8) (h : outR o) : rOut (outB o ++ b, false) = (o, (b, false)) := by
  obtain ⟨h1, h2, h3⟩ := h
  obtain ⟨path, version⟩ := o
  simp only at h1 h2 h3
  have e : outB ⟨path, version⟩ ++ b = txt path ++ (num6 version ++ b) := by
    simp [outB, nums, txts]
  rw [e]
  unfold rOut
  rw [rt_app path _ 60 (by omega) (by omega)]
  simp only
  rw [rn_app version _ _ (by omega) (by omega) (by omega)]
theorem rOut_took (x : RS) : Took x (outB (rOut x).1) (rOut x).2 := by
  have h1 := rt_took x 60
  have h2 := rn_took (rt x 60).2 281474976710655
  have h := h1.trans h2
  have e : outB (rOut x).1 = txt (rt x 60).1 ++ num6 (rn (rt x 60).2 281474976710655).1 := by
    simp [outB, nums, txts, rOut]
  rw [e]
  exact h
theorem rOuts_took (x : RS) (n : Nat) : Took x ((rOuts n x).1.flatMap outB) (rOuts n x).2 := by
  induction n with
  | zero => exact Took.nil x
  | succ n ih =>
    have h := ih.trans (rOut_took (rOuts n x).2)
    simp only [rOuts, List.flatMap_append, List.flatMap_cons, List.flatMap_nil, List.append_nil]
    exact h
theorem rOuts_app (os : List OutT) (b : List UInt8) (h : ∀ o ∈ os, outR o) : ∀ k ≤ os.length, rOuts k (os.flatMap outB ++ b, false) = (os.take k, ((os.drop k).flatMap outB ++ b, false)) := by
  intro k
  induction k with
  | zero => intro _; simp [rOuts]
  | succ k ih =>
    intro hk
    rw [rOuts, ih (by omega)]
    have hd : os.drop k = os[k] :: os.drop (k + 1) := List.drop_eq_getElem_cons (by omega)
    simp only
    rw [hd, List.flatMap_cons, List.append_assoc, rOut_app _ _ (h _ (List.getElem_mem _))]
    simp only
    rw [List.take_succ_eq_append_getElem (by omega)]
theorem rRes_app (r : ResT) (h : resR r) : rRes (resB r, false) = (r, ([], false)) := by
  obtain ⟨h1, h2, h3, h4, h5, h6, h7, h8⟩ := h
  obtain ⟨x, at_, outs, when⟩ := r
  simp only at h1 h2 h3 h4 h5 h6 h7 h8
  have e : resB ⟨x, at_, outs, when⟩ = num6 x ++ (num6 at_ ++ (num6 when ++ (num6 outs.length ++ (outs.flatMap outB ++ [])))) := by
    simp [resB, nums]
  rw [e]
  unfold rRes rR1 rR2 rR3 rR4
  rw [rn_app x 1024 _ (by omega) (by omega) (by omega)]
  simp only
  rw [rn_app at_ _ _ (by omega) (by omega) (by omega)]
  simp only
  rw [rn_app when _ _ (by omega) (by omega) (by omega)]
  simp only
  rw [rn_app outs.length 4 _ (by omega) (by omega) (by omega)]
  simp only [Int.toNat_natCast]
  rw [rOuts_app outs _ h8 outs.length (Nat.le_refl _)]
  simp
theorem rRes_took (x : RS) : Took x (resB (rRes x).1) (rRes x).2 := by
  unfold rRes rR1 rR2 rR3 rR4
  simp only
  have h1 := rn_took x 1024
  generalize rn x 1024 = a1 at *
  have h2 := rn_took a1.2 4
  generalize rn a1.2 4 = a2 at *
  have h3 := rn_took a2.2 281474976710655
  generalize rn a2.2 281474976710655 = a3 at *
  have h4 := rn_took a3.2 4
  have hn := rn_lo a3.2 4
  generalize rn a3.2 4 = a5 at *
  have h6 := rOuts_took a5.2 a5.1.toNat
  have hl := rOuts_length a5.1.toNat a5.2
  generalize rOuts a5.1.toNat a5.2 = a6 at *
  have h := h1.trans (h2.trans (h3.trans (h4.trans h6)))
  have e : ((a6.1.length : Nat) : Int) = a5.1 := by omega
  have e2 : resB ⟨a1.1, a2.1, a6.1, a3.1⟩ = num6 a1.1 ++ (num6 a2.1 ++ (num6 a3.1 ++ (num6 a5.1 ++ a6.1.flatMap outB))) := by
    simp [resB, nums, e]
  rw [e2]
  exact h
theorem ansF_of {r : ResT} (h : resR r) : ansF (resB r) = (r, 0) := by
  unfold ansF
  rw [rRes_app r h, if_neg (by simp [rdone])]
theorem ansF_bytes {s : List UInt8} (h : (ansF s).2 = 0) : resB (ansF s).1 = s := by
  unfold ansF at h ⊢
  split at h
  · simp at h
  · rename_i hn
    rw [if_neg hn]
    simp only [ne_eq, Decidable.not_not] at hn
    have h4 : (rRes (s, false)).2 = ([], false) := by
      unfold rdone at hn
      split at hn
      · simp at hn
      · rename_i hq
        simp only [not_or, Bool.not_eq_true, ne_eq, Decidable.not_not] at hq
        exact Prod.ext hq.2 hq.1
    have h5 := (rRes_took (s, false) (by rw [h4])).2
    rw [h4] at h5
    simp only [List.append_nil] at h5
    exact h5.symm
theorem ansF_none {s : List UInt8} (h : (ansF s).2 ≠ 0) : ansF s = (noRes, 2) := by
  unfold ansF at h ⊢
  split at h
  · rename_i hn; rw [if_pos hn]
  · simp at h
theorem ansF_length (s : List UInt8) : (ansF s).1.outs.length ≤ 4 := by
  unfold ansF
  split
  · simp [noRes]
  · unfold rRes rR1 rR2 rR3 rR4
    simp only
    rw [rOuts_length]
    have := rn_hi (rn (rn (rn (s, false) 1024).2 4).2 281474976710655).2 4 (by decide)
    omega

end Go.Proofs.Ytinpnnfeggjbeaa
