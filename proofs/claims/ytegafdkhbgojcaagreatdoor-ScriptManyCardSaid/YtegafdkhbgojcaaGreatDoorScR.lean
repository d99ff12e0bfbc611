/- The statement ScriptReads: the call. No condition. -/
import Derived.Test.YtegafdkhbgojcaaGreatDoorScC
import Derived.Test.YtegafdkhbgojcaaGreatDoorScB
import Derived.Test.YtegafdkhbgojcaaGreatDoorEH21
set_option linter.unusedVariables false
set_option linter.unusedSimpArgs false
namespace Go.Proofs.YtegafdkhbgojcaaGreatDoor
open Go.RowKit

theorem keeps_new {w w' : World} (h : Keeps (fun k => w.heap.size ≤ k) w w') : Keeps (fun _ => False) w w' := h.mono fun k hk hle => by omega
set_option maxRecDepth 100000 in
theorem reads_walk (w : World) (s : List UInt8) (hs : s.length ≤ 9223372036854775807) :
    Calls Tryz.prog 3 #[.string (S s)] w fun e w' => e = .returned (.bool true) ∧ Keeps (fun k => w.heap.size ≤ k) w w' := by
  go_enter Tryz.func3, Tryz.ntmps3
  go_wp2_with fail
  refine (Ek.h21_calls _).mono ?_
  rintro e w1 ⟨rfl, hk1⟩
  have HK1 := hide hk1
  clear hk1
  by_cases h3 : 3000 < s.length
  · have h3' : (3000 : Int) < s.length := by omega
    go_wp2_with fail
    go_ret
    exact ⟨rfl, HK1.out.mono fun _ _ h => h.elim⟩
  have h3' : ¬ (3000 : Int) < s.length := by omega
  go_wp2_with fail
  refine (parse_steps w1 s hs).mono ?_
  rintro e w2 (⟨rfl, hno, hk2⟩ | ⟨A, c, qs, rfl, hy, hsrc, hok, hk2⟩)
  · have HK2 := hide (HK1.out.trans' (keeps_new hk2))
    clear hk2 hno
    go_wp2_with fail
    go_ret
    exact ⟨rfl, HK2.out.mono fun _ _ h => h.elim⟩
  · have HK2 := hide (HK1.out.trans' (keeps_new hk2))
    obtain ⟨e1, e2⟩ := hy.bytes
    have e2' : qs.length ≤ 500 := by rw [List.length_map] at e2; exact e2
    have hb : bytesS (qs.map (·.1)) = (s, 0) := by
      unfold bytesS
      rw [if_neg (by omega), if_pos (List.all_eq_true.2 hy.2.1), e1]
    have HB := hide hb
    clear hk2 hb e1 e2 hy
    go_wp2_with fail
    refine (bytes_steps w2 A c qs hsrc hok (by omega)).mono ?_
    rw [HB.out]
    rintro e w3 ⟨rfl, hk3⟩
    have HK3 := hide (HK2.out.trans' hk3)
    clear hk3 hsrc hok
    go_wp2_with fail
    go_ret
    exact ⟨by simp, HK3.out.mono fun _ _ h => h.elim⟩
end Go.Proofs.YtegafdkhbgojcaaGreatDoor
