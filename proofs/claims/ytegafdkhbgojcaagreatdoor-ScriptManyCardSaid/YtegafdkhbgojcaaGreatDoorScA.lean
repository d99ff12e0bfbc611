/- Whether a step of a script may be: the contract. No condition. -/
import Derived.Test.YtegafdkhbgojcaaGreatDoorScP
set_option linter.unusedVariables false
namespace Go.Proofs.YtegafdkhbgojcaaGreatDoor
open Go.RowKit

/-- a step as a value: its fates lie at A -/
abbrev stL (s : StepT) (A : Option Addr) (cap : Nat) : List Value := [.int .i64 s.kind, .int .i64 s.who, .int .i64 s.n, .int .i64 s.m, .string (S s.text), .slice A s.fates.length cap]
abbrev stV (s : StepT) (A : Option Addr) (cap : Nat) : Value := .agg #[.int .i64 s.kind, .int .i64 s.who, .int .i64 s.n, .int .i64 s.m, .string (S s.text), .slice A s.fates.length cap]
theorem is_at {fs : List Int} {k : Nat} {u : Value} (h : (Is fs)[k]? = some u) : ∃ f, fs[k]? = some f ∧ u = .int .i64 f := by
  simp only [Is, List.getElem?_map, Option.map_eq_some_iff] at h
  obtain ⟨f, h1, h2⟩ := h
  exact ⟨f, h1, h2.symm⟩
theorem bad_fate (w : World) (f : Int) :
    Calls Tryz.prog 95 #[.int .i64 f] w fun e w' => e = .returned (.bool (badF f)) ∧ Keeps (fun _ => False) w w' := by
  go_enter Tryz.func95, Tryz.ntmps95
  go_wp2_with fail
  all_goals
    go_ret
    refine ⟨congrArg (fun b => Ending.returned (.bool b)) ?_, Keeps.refl _ _⟩
    rw [Bool.eq_iff_iff]
    simp [badF]
    try omega
set_option maxRecDepth 100000 in
theorem index_fate (w : World) (A : Option Addr) (c : Nat) (fs : List Int) (h : Src w 1 A fs.length (Is fs)) (hl : fs.length ≤ 9223372036854775807) :
    Calls Tryz.prog 140 #[.slice A fs.length c, .func (.func 95) #[] #[]] w fun e w' => ∃ r : Int, e = .returned (.int .i64 r) ∧ decide (0 ≤ r) = fs.any badF ∧ Keeps (fun _ => False) w w' := by
  go_enter Tryz.func140, Tryz.ntmps140
  go_wp2_with fail
  go_loopw [8] (fun i wr => ∃ k : Nat, k ≤ fs.length ∧ i = .int .i64 k ∧ (∀ f ∈ fs.take k, badF f = false) ∧ Keeps (fun _ => False) w wr) (fun i _ => fs.length - (intOf i).toNat)
  case atStart => exact ⟨0, by omega, rfl, by simp, Keeps.refl _ _⟩
  case round =>
    obtain ⟨k, hk, rfl, hall, hK⟩ := hrel
    have HA := hide hall
    clear hall
    by_cases hlt : k < fs.length
    · obtain ⟨ad, u, rfl, hx, c0⟩ := Src.at_ (h.keep hK (fun _ _ h => h)) (k := k) (by omega)
      obtain ⟨f, hx2, rfl⟩ := is_at hx
      have HX := hide hx2
      clear hx hx2
      go_wp2_with fail
      refine (bad_fate _ f).mono ?_
      cases hr : badF f
      · have HR := hide hr
        clear hr
        rintro e w1 ⟨rfl, hk1⟩
        go_wp2_with fail
        go_roundw
        case rel =>
          refine ⟨k + 1, by omega, by go_num, ?_, hK.trans' hk1⟩
          obtain ⟨hk', rfl⟩ := List.getElem?_eq_some_iff.1 HX.out
          rw [List.take_succ_eq_append_getElem hk']
          intro b hb
          rcases List.mem_append.1 hb with hb | hb
          · exact HA.out b hb
          · simp at hb; subst hb; exact HR.out
        case measure => simp [intOf]; omega
      · have HR := hide hr
        clear hr
        rintro e w1 ⟨rfl, hk1⟩
        go_wp2_with fail
        go_ret
        refine ⟨k, rfl, ?_, hK.trans' hk1⟩
        have e1 : fs.any badF = true := by
          rw [List.any_eq_true]
          exact ⟨f, List.mem_of_getElem? HX.out, HR.out⟩
        rw [e1]
        simp
    · obtain rfl : k = fs.length := by omega
      go_wp2_with fail
      go_ret
      refine ⟨-1, rfl, ?_, hK⟩
      have e1 : fs.any badF = false := by
        rw [List.any_eq_false]
        intro b hb
        have := HA.out b (by rw [List.take_length]; exact hb)
        simp [this]
      rw [e1]
      rfl
theorem has_bad (w : World) (A : Option Addr) (c : Nat) (fs : List Int) (h : Src w 1 A fs.length (Is fs)) (hl : fs.length ≤ 9223372036854775807) :
    Calls Tryz.prog 94 #[.slice A fs.length c, .func (.func 95) #[] #[]] w fun e w' => e = .returned (.bool (fs.any badF)) ∧ Keeps (fun _ => False) w w' := by
  have hi := index_fate w A c fs h hl
  clear h
  go_enter Tryz.func94, Tryz.ntmps94
  go_wp2_with fail
  refine hi.mono ?_
  rintro e w1 ⟨r, rfl, hr, hk⟩
  have HR := hide hr
  clear hr
  go_wp2_with fail
  go_ret
  exact ⟨by rw [← HR.out]; rfl, hk⟩
/-- the numbers of a step, told by the least and the greatest -/
theorem three (a b c : Int) (mn mx : Int) (hmn : (if c < (if b < a then b else a) then c else if b < a then b else a) = mn) (hmx : (if (if a < b then b else a) < c then c else if a < b then b else a) = mx) :
    decide (0 ≤ a ∧ 0 ≤ b ∧ 0 ≤ c ∧ a ≤ 1048576 ∧ b ≤ 1048576 ∧ c ≤ 1048576) = (decide (0 ≤ mn) && decide (mx ≤ 1048576)) := by
  rw [Bool.eq_iff_iff]
  simp only [decide_eq_true_eq, Bool.and_eq_true, ← hmn, ← hmx]
  by_cases q1 : b < a
  · have q2 : ¬ a < b := by omega
    simp only [q1, q2, if_true, if_false]
    by_cases q3 : c < b <;> by_cases q4 : a < c <;> simp only [q3, q4, if_true, if_false] <;> omega
  · simp only [q1, if_false]
    by_cases q2 : a < b <;> simp only [q2, if_true, if_false]
    · by_cases q3 : c < a <;> by_cases q4 : b < c <;> simp only [q3, q4, if_true, if_false] <;> omega
    · by_cases q3 : c < a <;> by_cases q4 : a < c <;> simp only [q3, q4, if_true, if_false] <;> omega
set_option maxRecDepth 100000 in
set_option maxHeartbeats 1000000 in
theorem right_step (w : World) (s : StepT) (A : Option Addr) (cap : Nat) (h : Src w 1 A s.fates.length (Is s.fates)) (hf : s.fates.length ≤ 9223372036854775807) (ht : s.text.length ≤ 9223372036854775807) :
    Calls Tryz.prog 61 #[stV s A cap] w fun e w' => e = .returned (.bool (stepR s)) ∧ Keeps (fun _ => False) w w' := by
  obtain ⟨kind, who, n, m, text, fates⟩ := s
  simp only at h hf ht ⊢
  have hw := fun w' (hk : Keeps (fun _ => False) w w') => has_bad w' A cap fates (h.keep hk (fun _ _ h => h)) hf
  have HW := hide hw
  clear h hw
  obtain ⟨mn, hmn⟩ : ∃ z : Int, (if m < (if n < who then n else who) then m else if n < who then n else who) = z := ⟨_, rfl⟩
  obtain ⟨mx, hmx⟩ : ∃ z : Int, (if (if who < n then n else who) < m then m else if who < n then n else who) = z := ⟨_, rfl⟩
  have HN := hide (three who n m mn mx hmn hmx)
  cases hwr : fates.any badF
  all_goals
    have HWR := hide hwr
    rw [hwr] at HW
    clear hwr
    go_enter Tryz.func61, Tryz.ntmps61
    go_wp2_with (go_at_call 94; refine (HW.out _ ((Keeps.refl _ w).alloc _)).mono ?_; rintro e w1 ⟨rfl, hk1⟩)
    all_goals
      go_ret
      refine ⟨congrArg (fun b => Ending.returned (.bool b)) ?_, ?_⟩
      · rw [Bool.eq_iff_iff]
        simp [stepR, HN.out, HWR.out]
        try omega
      · first | exact (Keeps.refl _ w).alloc _ | exact ((Keeps.refl _ w).alloc _).trans' hk1
end Go.Proofs.YtegafdkhbgojcaaGreatDoor
