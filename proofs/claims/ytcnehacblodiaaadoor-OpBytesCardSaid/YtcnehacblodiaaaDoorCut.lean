/- Plain laws of the package op: a command's bytes, cut off, are no command's. No condition. -/
import Derived.Test.YtcnehacblodiaaaDoorCodec
set_option linter.unusedVariables false
namespace Go.Proofs.YtcnehacblodiaaaDoor

theorem rCmd_tail (c : CmdT) (b : List UInt8) (h : cmdR c = true) : rCmd (cmdB c ++ b, false) = (c, (b, false)) := by
  obtain ⟨h1, h2, h3, h4, h5, h6⟩ := cmdR_of h
  obtain ⟨kind, session, req, noted, ops, path, kids, once⟩ := c
  simp only at h1 h2 h3 h4 h5 h6
  simp only [numR, decide_eq_true_eq] at h3
  have e : cmdB ⟨kind, session, req, noted, ops, path, kids, once⟩ ++ b = num6 kind ++ (num6 session ++ (num6 req ++ (num6 noted ++ (num6 ops.length ++ (ops.flatMap opB ++ (txt path ++ (fb kids :: (fb once :: b)))))))) := by
    simp [cmdB, nums, txts, flags]
  rw [e]
  unfold rCmd rC2 rC3 rC4 rC5 rC6 rC7 rC8 rC9
  rw [rn_app kind 5 _ (by omega) (by omega) (by omega)]
  simp only
  rw [rn_app session _ _ (by omega) (by omega) (by omega)]
  simp only
  rw [rn_app req _ _ (by omega) (by omega) (by omega)]
  simp only
  rw [rn_app noted _ _ (by omega) (by omega) (by omega)]
  simp only
  rw [rn_app ops.length 4 _ (by omega) (by omega) (by omega)]
  simp only [Int.toNat_natCast]
  rw [rOps_app ops _ h5 ops.length (Nat.le_refl _)]
  simp only [List.drop_length, List.take_length, List.flatMap_nil, List.nil_append]
  rw [rt_app path _ 60 (by omega) (by omega)]
  simp only
  rw [rf_app]
  simp only
  rw [rf_app]

theorem bytesF_ok {c : CmdT} {s : List UInt8} (h : bytesF c = (s, 0)) : cmdR c = true ∧ cmdB c = s ∧ s.length ≤ 488 := by
  unfold bytesF at h
  split at h
  · simp at h
  · rename_i hr
    split at h
    · simp at h
    · rename_i hl
      simp only [Prod.mk.injEq, and_true] at h
      subst h
      exact ⟨by simpa using hr, rfl, by omega⟩

/-- cut off it is none -/
theorem readF_cut {c : CmdT} {s : List UInt8} (h : bytesF c = (s, 0)) (k : Nat) (hk : k < s.length) : readF (s.take k) = (noCmd, 2) := by
  refine readF_none fun h0 => ?_
  obtain ⟨h1, h2⟩ := readF_bytes h0
  obtain ⟨h3, h4, _⟩ := bytesF_ok h1
  obtain ⟨h5, h6, _⟩ := bytesF_ok h
  have h7 := rCmd_tail (readF (s.take k)).1 (s.drop k) h3
  rw [h4, List.take_append_drop, ← h6, rCmd_app c h5, h6] at h7
  have h8 := congrArg (fun x => x.2.1.length) h7
  simp at h8
  omega

end Go.Proofs.YtcnehacblodiaaaDoor
