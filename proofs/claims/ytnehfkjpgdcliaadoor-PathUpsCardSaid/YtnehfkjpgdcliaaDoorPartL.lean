/- The statements' own helper: which texts may be parts. No condition. -/
import Derived.Test.YtnehfkjpgdcliaaDoorMade
set_option linter.unusedVariables false
set_option linter.unusedSimpArgs false
namespace Go.Proofs.YtnehfkjpgdcliaaDoor
open Go.RowKit

set_option maxRecDepth 100000 in
set_option maxHeartbeats 1000000 in
theorem partL_path (w : World) (s : List UInt8) (hs : s.length ≤ 140737488355328) :
    Calls Tryd.prog 9 #[.string (S s)] w fun e w' => e = .returned (.bool (partF s)) ∧ w = w' := by
  go_enter Tryd.func9, Tryd.ntmps9
  go_wp2_with fail
  go_loop [3] (fun i => ∃ k : Nat, k ≤ s.length ∧ i = .int .i64 k ∧ (s.take k).all okc = true) (fun i => s.length - (intOf i).toNat)
  case atStart => exact ⟨0, by omega, rfl, rfl⟩
  case round =>
    obtain ⟨k, hk, rfl, hall⟩ := hrel
    have HA := hide hall
    clear hall
    by_cases hlt : k < s.length
    · have hok : okc s[k] = ((decide (97 ≤ s[k].toNat) && decide (s[k].toNat ≤ 122)) || (decide (48 ≤ s[k].toNat) && decide (s[k].toNat ≤ 57)) || decide (s[k].toNat = 45)) := rfl
      have HOK := hide hok
      have hb2 := s[k].toNat_lt
      have HM := hide (List.getElem_mem hlt)
      clear hok
      go_wp2_with fail
      all_goals first
        | (go_ret
           have hno : okc s[k] = false := by
             rw [HOK.out]
             simp only [Bool.not_eq_true', beq_eq_false_iff_ne, decide_eq_false_iff_not, ne_eq, Bool.not_eq_false', Bool.not_eq_eq_eq_not, Bool.not_true, Bool.not_false, beq_iff_eq, decide_eq_true_eq] at *
             simp
             omega
           refine ⟨congrArg (fun b => Ending.returned (.bool b)) ?_, rfl⟩
           have : s.all okc = false := by
             rw [List.all_eq_false]
             exact ⟨_, HM.out, by simp [hno]⟩
           simp [partF, this])
        | (have hyes : okc s[k] = true := by
             rw [HOK.out]
             try simp only [Bool.not_eq_true', beq_eq_false_iff_ne, decide_eq_false_iff_not, ne_eq, Bool.not_eq_false', Bool.not_eq_eq_eq_not, Bool.not_true, Bool.not_false, beq_iff_eq, decide_eq_true_eq] at *
             simp
             omega
           refine ⟨⟨k + 1, by omega, by go_num, ?_⟩, by simp [intOf]; omega⟩
           rw [List.take_succ_eq_append_getElem hlt, List.all_append, HA.out]
           simp [hyes])
    · obtain rfl : k = s.length := by omega
      go_wp2_with fail
      all_goals
        go_ret
        refine ⟨congrArg (fun b => Ending.returned (.bool b)) ?_, rfl⟩
        have := HA.out
        rw [List.take_length] at this
        rw [Bool.eq_iff_iff]
        simp [partF, this]
        try omega

end Go.Proofs.YtnehfkjpgdcliaaDoor
