/- The law WatchReads, walked. No condition. -/
import Derived.Test.YtecpfnobnpddaaaDoorBookRd
import Derived.Test.YtecpfnobnpddaaaDoorWHead
set_option linter.unusedVariables false
set_option linter.unusedSimpArgs false
namespace Go.Proofs.YtecpfnobnpddaaaDoor
open Go.RowKit

set_option maxRecDepth 100000 in
set_option maxHeartbeats 8000000 in
theorem wreads_walk (W : World) (hG : GL W) (s : List UInt8) (hs : s.length ≤ 9223372036854775807) :
    Calls Tryd.prog 4 #[.string (S s)] W fun e w' => e = .returned (.bool true) ∧ Keeps (fun _ => False) W w' := by
  have HGL : Hid (GL W) := hG
  go_enter Tryd.func4, Tryd.ntmps4
  go_wp2_with fail
  refine (head_watch (Sat.start W) hG (by simp)).mono ?_
  rintro e w0 ⟨rfl, S0⟩
  clear hG
  by_cases h2000 : 2000 < s.length
  · have HK := hide S0.keep_all
    clear S0
    go_wp2_with fail
    go_ret
    exact ⟨rfl, HK.out⟩
  · go_wp2_with fail
    refine (s_read S0 s hs).mono ?_
    rintro e w1 ⟨r, rfl, S1⟩
    have HL : Hid (∀ B, readB (s, false) = (B, ([], false)) → layW B = s) := readB_lay s
    obtain ⟨hl1, hl2, hl3⟩ := readB_len (s, false)
    have HF : Hid ((readB (s, false)).2.2 = true → (readB (s, false)).1 = ⟨[], [], []⟩) := readB_fail (s, false)
    clear S0
    go_wp2_with fail
    refine (read_book S1 HGL.out (by simp)).mono ?_
    rintro e w2 ⟨t, rfl, S2⟩
    clear S1
    generalize readB (s, false) = R at *
    obtain ⟨B, yl, yf⟩ := R
    simp only at HL HF hl1 hl2 hl3 S2
    go_wp2_with fail
    refine (s_rok S2.p1).mono ?_
    rintro e w3 ⟨rfl, S3⟩
    clear S2
    cases yf
    · go_wp2_with fail
      refine (s_rdone S3).mono ?_
      rintro e w4 ⟨rfl, S4⟩
      clear S3
      by_cases hy : yl = []
      · subst hy
        have HLAY := hide (HL.out B rfl)
        have e0 : rdone ([], false) = 0 := rfl
        clear HL HF
        go_wp2_with fail
        refine (lay_book S4.drop.bytesNil (by omega) (by omega) (by omega) (by simp)).mono ?_
        rintro e w5 ⟨v', rfl, S5⟩
        rw [HLAY.out, List.nil_append] at S5
        obtain ⟨A2, n2, cap, rfl, hsrc⟩ := S5.bytesForm
        have hconv := run_ofBytes (P := Tryd.prog) (dst := 9) Tryd.underlying42 Tryd.underlying5 Tryd.underlying9 hsrc cap
        have HK := hide S5.drop.drop.keep_all
        clear hsrc S4 S5
        go_wp2_with fail
        go_ret
        exact ⟨rfl, HK.out⟩
      · have e0 : rdone (yl, false) = 2 := by simp [rdone, hy]
        have HK := hide S4.drop.drop.keep_all
        clear hy HL HF S4
        rw [e0]
        clear e0
        go_wp2_with fail
        go_ret
        exact ⟨rfl, HK.out⟩
    · obtain rfl := HF.out rfl
      clear HL HF hl1 hl2 hl3 h2000
      go_wp2_with fail
      refine (watches_book S3.p1 (by simp)).mono ?_
      rintro e w4 ⟨v, rfl, S4⟩
      obtain ⟨A6, c6, rfl, -⟩ := S4.row.form
      have HK := hide (S4.drop.drop.drop.keep_all)
      clear S3 S4
      go_wp2_with fail
      go_ret
      exact ⟨by simp, HK.out⟩
end Go.Proofs.YtecpfnobnpddaaaDoor
