/- The law SessReads, walked. No condition. -/
import Derived.Test.YtcnehacblodiaaaSessRd
import Derived.Test.YtcnehacblodiaaaSessLaw
set_option linter.unusedVariables false
namespace Go.Proofs.Ytcnehacblodiaaa
open Go.RowKit

set_option maxRecDepth 100000 in
set_option maxHeartbeats 2000000 in
theorem reads_walk (W : World) (s : List UInt8) (hs : s.length ≤ 9223372036854775807) :
    Calls Try.prog 5 #[.string (S s)] W fun e w' => e = .returned (.bool true) ∧ Keeps (fun k => W.heap.size ≤ k) W w' := by
  go_enter Try.func5, Try.ntmps5
  go_wp2_with fail
  refine (head_sess W).mono ?_
  rintro e w0 ⟨rfl, hk0⟩
  have S0 := (Sat.start W).keep hk0
  clear hk0
  by_cases hl : s.length ≤ 2000
  · go_wp2_with fail
    refine (s_read S0 s hs).mono ?_
    rintro e w1 ⟨r, rfl, S1⟩
    have HF : Hid ((readT (s, false)).2.2 = true → (readT (s, false)).1 = []) := readT_fail _
    have HL : Hid (∀ m, readT (s, false) = (m, ([], false)) → layB m = s) := readT_lay s
    obtain ⟨HA, hml⟩ := readT_asc (s, false)
    go_wp2_with fail
    refine (s_tread S1).mono ?_
    rintro e w2 ⟨t, mb, rfl, S2⟩
    generalize readT (s, false) = R at *
    obtain ⟨m, yl, yf⟩ := R
    simp only at HF HL HA hml S2
    have HAO := hide HA.ok
    clear HA
    go_wp2_with fail
    refine (s_rok S2.p2).mono ?_
    rintro e w3 ⟨rfl, S3⟩
    have S4 := S3.b2
    clear S2 S3 S1 S0
    cases yf
    · go_wp2_with fail
      refine (s_rdone S4.p2).mono ?_
      rintro e w4 ⟨rfl, S5⟩
      have S6 := S5.b2
      clear S4 S5
      by_cases hy : yl = []
      · subst hy
        have hlay := HL.out m rfl
        have HLAY := hide hlay
        clear hlay
        have e0 : rdone ([], false) = 0 := rfl
        go_wp2_with fail
        refine (s_lay S6.bytesNil HAO.out hml (by simp)).mono ?_
        rintro e w5 ⟨v', rfl, S7⟩
        rw [HLAY.out, List.nil_append] at S7
        obtain ⟨A, n, cap, rfl, hsrc⟩ := S7.bytesForm
        have hconv := run_ofBytes (P := Try.prog) (dst := 9) Try.underlying49 Try.underlying5 Try.underlying9 hsrc cap
        clear hsrc
        go_wp2_with fail
        go_ret
        exact ⟨rfl, S7.keepsOf (by simp)⟩
      · have e0 : rdone (yl, false) = 2 := by simp [rdone, hy]
        clear hy
        go_wp2_with fail
        go_ret
        exact ⟨rfl, S6.keepsOf (by simp)⟩
    · obtain rfl := HF.out rfl
      go_wp2_with fail
      refine (s_all S4 HAO.out (by simp)).mono ?_
      rintro e w4 ⟨A, cap, rfl, S5⟩
      go_wp2_with fail
      go_ret
      exact ⟨rfl, S5.keepsOf (by simp)⟩
  · go_wp2_with fail
    go_ret
    exact ⟨rfl, S0.keeps⟩

end Go.Proofs.Ytcnehacblodiaaa
