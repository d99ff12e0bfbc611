/- The law TreeVersions: plain. -/
import Derived.Test.YtecpfnobnpddaaaDoorTSer
set_option linter.unusedVariables false
set_option linter.unusedSimpArgs false
namespace Go.Proofs.YtecpfnobnpddaaaDoor

def vN (d : List UInt8) (h st : Int) : NodeT := ⟨d, h, 0, 0, 1, st, 0⟩
def vT (d : List UInt8) (h st : Int) : TreeT := [([47], ⟨[], 0, 1, 0, 0, 0, 0⟩), (hA, vN d h st)]
def vE : TreeT := [([47], ⟨[], 0, 2, 0, 0, 0, 0⟩)]
theorem check_ha : checkF hA = 0 := by decide
theorem vT_start : createF [([47], zN)] hA [] 0 1 false = (hA, 0, vT [] 0 1) := ex_one
theorem vT_get (d : List UInt8) (h st : Int) : mget (vT d h st) hA = some (vN d h st) := by
  have : ¬ [47] = hA := by decide
  simp [vT, mget, this]
theorem vT_at (d : List UInt8) (h st v : Int) : atF (vT d h st) hA v = if 0 ≤ v ∧ v ≠ h then (zN, 14) else (vN d h st, 0) := by
  have hg : getF (vT d h st) hA = (vN d h st, 0) := by
    unfold getF
    rw [if_pos check_ha, vT_get]
  unfold atF
  rw [hg]
  by_cases hv : 0 ≤ v ∧ v ≠ h
  · rw [if_pos hv, if_pos ⟨rfl, hv.1, fun e => hv.2 e.symm⟩]
  · rw [if_neg hv, if_neg (fun hc => hv ⟨hc.2.1, fun e => hc.2.2 e.symm⟩)]
theorem vT_put (d e : List UInt8) (h h' st st' : Int) : mput (vT d h st) hA (vN e h' st') = vT e h' st' := by
  have h1 : ¬ [47] = hA := by decide
  unfold mput
  rw [vT_get]
  simp [vT, h1]
theorem vT_set (d e : List UInt8) (h st v wh : Int) (he : e.length ≤ 60) : setF (vT d h st) hA e v wh = if 0 ≤ v ∧ v ≠ h then (0, 14, vT d h st) else (h + 1, 0, vT e (h + 1) wh) := by
  unfold setF
  rw [vT_at]
  by_cases hv : 0 ≤ v ∧ v ≠ h
  · rw [if_pos hv, if_pos (by simp), if_pos hv]
  · rw [if_neg hv, if_neg (by simp), if_neg (by omega), if_neg hv]
    show (h + 1, 0, mput _ hA (vN e (h + 1) wh)) = _
    rw [vT_put]
theorem vT_del (d : List UInt8) (h st v : Int) : deleteF (vT d h st) hA v = if 0 ≤ v ∧ v ≠ h then (14, vT d h st) else (0, vE) := by
  unfold deleteF
  rw [vT_at]
  by_cases hv : 0 ≤ v ∧ v ≠ h
  · rw [if_pos hv, if_pos (by simp), if_pos hv]
  · have hk : kidL (vT d h st) hA = [] := by
      have h1 : ¬ [47] = hA := by decide
      have h2 : ¬ ([] : List UInt8) = hA := by decide
      simp [kidL, vT, up_root, up_ha, h1, h2]
    have hm : mget (vT d h st) [47] = some ⟨[], 0, 1, 0, 0, 0, 0⟩ := by simp [vT, mget]
    have h1 : ¬ [47] = hA := by decide
    rw [if_neg hv, if_neg (by simp), if_neg (by decide), if_neg (by rw [hk]; simp), if_neg hv, up_ha, hm]
    simp only [Option.getD_some]
    unfold vT
    rw [mput_head (by simp [hA]), mdel_head h1]
    simp [mdel, vE, lessN]
theorem vE_at (v : Int) : atF vE hA v = (zN, 11) := by
  have h1 : mget vE hA = none := by
    rw [mget_none]
    simp [vE, hA]
  have hg : getF vE hA = (zN, 11) := by
    unfold getF
    rw [if_pos check_ha, h1]
  unfold atF
  rw [hg, if_neg (by simp)]
end Go.Proofs.YtecpfnobnpddaaaDoor
