/- The law PathJoins, walked. No condition. -/
import Derived.Test.YtneinncikmdgmaaDoorJoinP
set_option linter.unusedVariables false
set_option linter.unusedSimpArgs false
namespace Go.Proofs.YtneinncikmdgmaaDoor
open Go.RowKit

set_option maxRecDepth 100000 in
set_option maxHeartbeats 4000000 in
theorem joins_walk (W : World) (hG : GL W) (A : Option Addr) (a : List Int) (ca : Nat) (p q : List UInt8) (ha : Src W 1 A a.length (Is a))
    (la : a.length ≤ 9223372036854775807) (hp : p.length ≤ 9223372036854775807) (hq : q.length ≤ 9223372036854775807) :
    Calls Tryd.prog 12 #[.slice A a.length ca, .string (S p), .string (S q)] W fun e w' => e = .returned (.bool true) ∧ Keeps (fun k => W.heap.size ≤ k) W w' := by
  have HF : Hid (∀ {w w' : World}, Keeps (fun _ => False) w w' → Keeps (fun k => w.heap.size ≤ k) w w') := fun h => h.mono (fun _ _ h => h.elim)
  go_enter Tryd.func12, Tryd.ntmps12
  go_wp2_with fail
  refine (head_path W).mono ?_
  rintro e w0 ⟨rfl, hk0⟩
  have HK := hide hk0
  have HG := hide (hG.keep hk0 (fun h => h))
  clear hk0
  by_cases hl : a.length ≤ 8
  · by_cases h6 : p.length ≤ 60
    · by_cases h7 : q.length ≤ 60
      · have ml := madeP_le a
        have HJ := hide (fun p => join_made a p)
        have HI := hide (join_inj a p q)
        have HU := hide (up_made a p)
        have HB := hide (below_made a p)
        have HC := hide (join_want a p)
        have l1 : (joinP a p).length ≤ 400 := by rw [← join_made]; unfold joinF; split <;> simp <;> omega
        have l2 : (joinP a q).length ≤ 400 := by rw [← join_made]; unfold joinF; split <;> simp <;> omega
        go_wp2_with fail
        refine (made_path _ A a ca (ha.keep HK.out (fun _ _ h => h)) (by omega)).mono ?_
        rintro e w1 ⟨rfl, hk⟩
        replace HK := hide (HK.out.trans' hk)
        replace HG := hide (HG.out.keep hk (fun h => h))
        clear hk
        generalize madeP a = s at *
        go_wp2_with fail
        refine (join_path _ s p (by omega) (by omega)).mono ?_
        rw [HJ.out]
        generalize joinP a p = x at *
        rintro e w2 ⟨rfl, rfl⟩
        go_wp2_with fail
        refine (join_path _ s q (by omega) (by omega)).mono ?_
        rw [HJ.out]
        generalize joinP a q = y at *
        rintro e w2 ⟨rfl, rfl⟩
        have E : (x == y) = (p == q) := by rw [Bool.eq_iff_iff]; simpa using HI.out
        clear HI HJ
        cases hpp : partF p
        · have HP : Hid (∀ w, Calls Tryd.prog 39 #[.string (S p)] w fun e w' => e = .returned (.bool false) ∧ w = w') := fun w => hpp ▸ partL_path w p (by omega)
          clear HU HB HC hpp
          generalize hb : (p == q) = b at *
          go_wp2_with fail
          refine (HP.out _).mono ?_
          rintro e w2 ⟨rfl, rfl⟩
          go_wp2_with fail
          go_ret
          exact ⟨rfl, HF.out HK.out⟩
        · have HP : Hid (∀ w, Calls Tryd.prog 39 #[.string (S p)] w fun e w' => e = .returned (.bool true) ∧ w = w') := fun w => hpp ▸ partL_path w p (by omega)
          have HUP : Hid (∀ w, Calls Tryd.prog 33 #[.string (S x)] w fun e w' => e = .returned (.tuple #[.string (S s), .string (S p)]) ∧ Keeps (fun _ => False) w w') := fun w => by
            have := up_path w x (by omega)
            rw [HU.out hpp] at this
            exact this
          have HBB := hide (HB.out (by have := part_len hpp; intro h; simp [h] at this))
          have HCC := hide (HC.out hpp)
          clear HU HB HC hpp
          generalize hb : (p == q) = b at *
          have e1 : (s == s) = true := by simp
          have e2 : (p == p) = true := by simp
          go_wp2_with fail
          refine (HP.out _).mono ?_
          rintro e w2 ⟨rfl, rfl⟩
          go_wp2_with fail
          refine (HUP.out _).mono ?_
          rintro e w2 ⟨rfl, hk⟩
          replace HK := hide (HK.out.trans' hk)
          replace HG := hide (HG.out.keep hk (fun h => h))
          clear hk
          go_wp2_with fail
          refine (below_eq _ x s (by omega) (by omega) HBB.out).mono ?_
          rintro e w2 ⟨rfl, rfl⟩
          by_cases h60 : x.length ≤ 60
          · have EC : Hid (checkF x = 0) := by show _ = _; rw [HCC.out, if_pos h60]
            clear HCC
            go_wp2_with fail
            refine (show Calls _ _ _ _ fun e w' => e = .returned (.int .i64 0) ∧ Keeps (fun _ => False) _ w' from EC.out ▸ check_path _ x (by omega) HG.out).mono ?_
            rintro e w1 ⟨rfl, hk⟩
            replace HK := hide (HK.out.trans' hk)
            clear hk
            go_wp2_with fail
            go_ret
            exact ⟨by simp; omega, HF.out HK.out⟩
          · have EC : Hid (checkF x = 10) := by show _ = _; rw [HCC.out, if_neg h60]
            clear HCC
            go_wp2_with fail
            refine (show Calls _ _ _ _ fun e w' => e = .returned (.int .i64 10) ∧ Keeps (fun _ => False) _ w' from EC.out ▸ check_path _ x (by omega) HG.out).mono ?_
            rintro e w1 ⟨rfl, hk⟩
            replace HK := hide (HK.out.trans' hk)
            clear hk
            go_wp2_with fail
            go_ret
            exact ⟨by simp; omega, HF.out HK.out⟩
      · go_wp2_with fail
        go_ret
        exact ⟨rfl, HF.out HK.out⟩
    · go_wp2_with fail
      go_ret
      exact ⟨rfl, HF.out HK.out⟩
  · go_wp2_with fail
    go_ret
    exact ⟨rfl, HF.out HK.out⟩

end Go.Proofs.YtneinncikmdgmaaDoor
