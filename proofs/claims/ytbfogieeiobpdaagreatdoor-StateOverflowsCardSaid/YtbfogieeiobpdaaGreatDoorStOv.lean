/- The law StateOverflows, walked. No condition. -/
import Derived.Test.YtbfogieeiobpdaaGreatDoorStW
set_option linter.unusedVariables false
set_option linter.unusedSimpArgs false
namespace Go.Proofs.YtbfogieeiobpdaaGreatDoor
open Go.RowKit

def cWat : CmdT := ⟨4, 1, 1, 0, [], [47], false, false⟩
def opMine : OpT := ⟨1, [47, 109, 105, 110, 101], [], -1, false, true⟩
def ov0 : StT := (applyC (applyC (openS 2) cWat).2 (madeF 1 2 [opMine])).2
def ovS : Nat → StT
  | 0 => ov0
  | k + 1 => (applyC (ovS k) (cmSet k)).2
def ovK : Nat → StT
  | 0 => (applyK (applyK (openK 2) cWat).2 (madeF 1 2 [opMine])).2
  | k + 1 => (applyK (ovK k) (cmSet k)).2
theorem ov_K (k : Nat) : ovS k = ovK k := by
  induction k with
  | zero => unfold ovS ovK ov0; rw [apply_K, apply_K, open_K]
  | succ k ih => unfold ovS ovK; rw [apply_K, ih]
theorem ov_a : RunS (applyC (openS 2) cWat).2 1 3 := (openS_run 2 (by omega)).step (c := cWat) (by decide) (by omega) (by omega)
theorem ov_b : RunS ov0 3 4 := ov_a.step (c := madeF 1 2 [opMine]) (by decide) (by omega) (by omega)
theorem ov_run (k : Nat) (hk : k ≤ 40) : RunS (ovS k) (3 + 2 * k) (4 + k) := by
  induction k with
  | zero => exact ov_b
  | succ k ih =>
    have := (ih (by omega)).step (cmSet_R k (by omega)) (by omega) (by omega)
    exact this
theorem ov_has : (List.range 15).all (fun i => decide (decide ((1 : Int) ∈ keys (ovK (i + 1)).tab) = decide (i < 5))) = true := by kernel_rfl
theorem ov_get : (List.range 16).all (fun n => decide (decide ((getF (ovK n).tree [47, 109, 105, 110, 101]).2 = 0) = decide (n < 6)) && decide ((2 : Int) ∈ keys (ovK n).tab)) = true := by kernel_rfl

set_option maxRecDepth 100000 in
set_option maxHeartbeats 8000000 in
theorem over_walk (W : World) (hG : GL W) (n : Int) :
    Calls Tryz.prog 4 #[.int .i64 n] W fun e w' => e = .returned (.bool true) ∧ Keeps (fun _ => False) W w' := by
  have HGL : Hid (GL W) := hide hG
  obtain ⟨k0, k1⟩ : 0 ≤ bits .and .i64 n 15 ∧ bits .and .i64 n 15 ≤ 15 := and_le n 15 (by decide)
  obtain ⟨N, hN⟩ := Int.eq_ofNat_of_zero_le k0
  have hN15 : N ≤ 15 := by omega
  clear k0 k1
  go_enter Tryz.func4, Tryz.ntmps4
  go_wp2_with fail
  refine (head_state (Sat.start W) hG (by simp)).mono ?_
  rintro e w0 ⟨rfl, S0⟩
  clear hG
  go_upto_region 4 with fail
  clear hN
  go_wp2_with fail
  refine (opened_state S0 HGL.out (by simp) 2 (by omega)).mono ?_
  rintro e w1 ⟨b, rfl, S1⟩
  clear S0
  have HT1 : Hid (∀ (w' : World) (L' : List Asn), Sat W w' L' → Calls Tryz.prog 24 #[.agg #[.int .i64 4, .int .i64 1, .int .i64 1, .int .i64 0, .slice none 0 0, .string ⟨#[47]⟩, .bool false, .bool false]] w' fun e w2 => e = .returned (.string (S (bytesF cWat).1)) ∧ Sat W w2 L') := hide fun w' L' S' => s_textc S' cWat none 0 (Src.nil _ _ _) ⟨by decide, by decide, by intro o h; cases h⟩
  have HS1 : Hid (∀ (w' : World) (L' : List Asn), Sat W w' (stateA b (openS 2) :: L') → oldA W ∈ L' → Calls Tryz.prog 23 #[ptr b, .string (S (bytesF cWat).1)] w' fun e w2 => ∃ (x1 x2 x4 : Int) (x3 : List OutT) (A : Option Addr) (cap : Nat), e = .returned (.agg #[.int .i64 x1, .int .i64 x2, .slice A x3.length cap, .int .i64 x4]) ∧ Sat W w2 (rowA 134 2 (.slice A x3.length cap) x3.length (x3.flatMap outC) :: stateA b (applyC (openS 2) cWat).2 :: L')) := hide fun w' L' S' h => s_say3 S' HGL.out h (openS_run 2 (by omega)) (by omega) (by omega) (by decide) (by decide)
  generalize (bytesF cWat).1 = TX1 at *
  go_wp2_with fail
  refine (HT1.out _ _ S1).mono ?_
  rintro e w1a ⟨rfl, S1a⟩
  clear S1 HT1
  go_wp2_with fail
  refine (HS1.out _ _ S1a (by simp)).mono ?_
  rintro e w2 ⟨x1, x2, x4, x3, A, cap, rfl, S1b⟩
  have S2 := S1b.drop
  clear S1a S1b HS1
  have HT2 : Hid (∀ (w' : World) (L' : List Asn) (ob : Nat), Sat W w' (cellsA ob 61 #[.int .i64 1, .string (S [47, 109, 105, 110, 101]), .string (S []), .int .i64 (-1), .bool false, .bool true] :: L') → Calls Tryz.prog 24 #[.agg #[.int .i64 3, .int .i64 1, .int .i64 2, .int .i64 0, .slice (some ⟨ob, 0, none⟩) 1 1, .string ⟨#[]⟩, .bool false, .bool false]] w' fun e w2 => e = .returned (.string (S (bytesF (madeF 1 2 [opMine])).1)) ∧ Sat W w2 (cellsA ob 61 #[.int .i64 1, .string (S [47, 109, 105, 110, 101]), .string (S []), .int .i64 (-1), .bool false, .bool true] :: L')) := hide fun w' L' ob S' => s_text1 opMine S' rfl 1 2 (by decide) (by decide)
  have HS2 : Hid (∀ (w' : World) (L' : List Asn), Sat W w' (stateA b (applyC (openS 2) cWat).2 :: L') → oldA W ∈ L' → Calls Tryz.prog 23 #[ptr b, .string (S (bytesF (madeF 1 2 [opMine])).1)] w' fun e w2 => ∃ (x1 x2 x4 : Int) (x3 : List OutT) (A : Option Addr) (cap : Nat), e = .returned (.agg #[.int .i64 x1, .int .i64 x2, .slice A x3.length cap, .int .i64 x4]) ∧ Sat W w2 (rowA 134 2 (.slice A x3.length cap) x3.length (x3.flatMap outC) :: stateA b ov0 :: L')) := hide fun w' L' S' h => s_say3 S' HGL.out h ov_a (by omega) (by omega) (by decide) (by first | decide | simp [cmSet, madeF])
  generalize (bytesF (madeF 1 2 [opMine])).1 = TX2 at *
  generalize (applyC (openS 2) cWat).2 = sa at *
  have S2z := S2.box #[.int .i64 1, .string (S [47, 109, 105, 110, 101]), .string (S []), .int .i64 (-1), .bool false, .bool true] 61 rfl
  go_wp2_with fail
  refine (s_made1 S2z 1 2 _ _).mono ?_
  rintro e w2a ⟨rfl, S2a⟩
  generalize w2.heap.size = ob2 at *
  clear S2 S2z
  go_wp2_with fail
  refine (HT2.out _ _ ob2 S2a).mono ?_
  rintro e w2b ⟨rfl, S2b⟩
  have S2c := S2b.drop
  clear S2a S2b HT2
  go_wp2_with fail
  refine (HS2.out _ _ S2c (by simp)).mono ?_
  rintro e w3 ⟨x1, x2, x4, x3, A, cap, rfl, S2d⟩
  have S3 := S2d.drop
  clear S2d
  clear S2c HS2
  have S4 : Sat W w3 (stateA b ov0 :: [oldA W]) := S3
  clear S3
  go_wp2_with fail
  go_loopw [4] (fun i wr => ∃ k : Nat, k ≤ N ∧ i = .int .i64 (k : Int) ∧ Sat W wr (stateA b (ovS k) :: [oldA W])) (fun i _ => N - (RowKit.intOf i).toNat)
  case atStart => exact ⟨0, by omega, rfl, S4⟩
  case round =>
    obtain ⟨k, hk, rfl, S5⟩ := hrel
    clear S4
    by_cases hlt : k < N
    · have hk0 : (k : Int) < (N : Int) := by omega
      have hrun := ov_run k (by omega)
      have hcr := cmSet_R k (by omega)
      have hhas := List.all_eq_true.1 ov_has k (List.mem_range.2 (by omega))
      rw [← ov_K] at hhas
      simp only [decide_eq_true_eq] at hhas
      have HH := hide hhas
      have HNX : Hid (ovS (k + 1) = (applyC (ovS k) (cmSet k)).2) := hide rfl
      clear hhas
      have HT3 : Hid (∀ (w' : World) (L' : List Asn) (ob : Nat), Sat W w' (cellsA ob 61 #[.int .i64 2, .string (S [47]), .string (S []), .int .i64 (-1), .bool false, .bool false] :: L') → Calls Tryz.prog 24 #[.agg #[.int .i64 3, .int .i64 2, .int .i64 (1 + (k : Int)), .int .i64 0, .slice (some ⟨ob, 0, none⟩) 1 1, .string ⟨#[]⟩, .bool false, .bool false]] w' fun e w2 => e = .returned (.string (S (bytesF (cmSet k)).1)) ∧ Sat W w2 (cellsA ob 61 #[.int .i64 2, .string (S [47]), .string (S []), .int .i64 (-1), .bool false, .bool false] :: L')) := hide fun w' L' ob S' => s_text1 opSet S' rfl 2 (1 + (k : Int)) (by decide) (by decide)
      have HS3 : Hid (∀ (w' : World) (L' : List Asn), Sat W w' (stateA b (ovS k) :: L') → oldA W ∈ L' → Calls Tryz.prog 23 #[ptr b, .string (S (bytesF (cmSet k)).1)] w' fun e w2 => ∃ (x1 x2 x4 : Int) (x3 : List OutT) (A : Option Addr) (cap : Nat), e = .returned (.agg #[.int .i64 x1, .int .i64 x2, .slice A x3.length cap, .int .i64 x4]) ∧ Sat W w2 (rowA 134 2 (.slice A x3.length cap) x3.length (x3.flatMap outC) :: stateA b (applyC (ovS k) (cmSet k)).2 :: L')) := hide fun w' L' S' h => s_say3 S' HGL.out h hrun (by omega) (by omega) hcr (by first | decide | simp [cmSet, madeF])
      generalize (bytesF (cmSet k)).1 = TX3 at *
      rw [← HNX.out] at HS3
      generalize hs2 : ovS (k + 1) = s2 at *
      have HS2E := hide hs2
      clear hs2
      generalize ovS k = s1 at *
      clear hrun hcr HNX
      have S5z := S5.box #[.int .i64 2, .string (S [47]), .string (S []), .int .i64 (-1), .bool false, .bool false] 61 rfl
      go_wp2_with fail
      refine (s_made1 S5z 2 (1 + (k : Int)) _ _).mono ?_
      rintro e wra ⟨rfl, S5a⟩
      generalize wr.heap.size = ob3 at *
      clear S5 S5z
      go_wp2_with fail
      refine (HT3.out _ _ ob3 S5a).mono ?_
      rintro e wrb ⟨rfl, S5b⟩
      have S5c := S5b.drop
      clear S5a S5b HT3
      go_wp2_with fail
      refine (HS3.out _ _ S5c (by simp)).mono ?_
      rintro e w6 ⟨x1, x2, x4, x3, A, cap, rfl, S5d⟩
      have S6 := S5d.drop
      clear S5d
      clear S5c HS3
      have S7 : Sat W w6 (stateA b s2 :: [oldA W]) := S6
      clear S6
      go_wp2_with fail
      refine (s_hasst S7 1).mono ?_
      rintro e w7 ⟨rfl, S8⟩
      rw [HH.out]
      clear S7
      by_cases h5 : k < 5
      · have h5i : (k : Int) < 5 := by omega
        rw [decide_eq_true h5]
        clear HH
        go_wp2_with fail
        go_roundw
        case rel => exact ⟨k + 1, by omega, by go_num, by rw [HS2E.out]; exact S8⟩
        case measure => simp [RowKit.intOf]; omega
      · have h5i : ¬ (k : Int) < 5 := by omega
        rw [decide_eq_false h5]
        clear HH
        go_wp2_with fail
        go_roundw
        case rel => exact ⟨k + 1, by omega, by go_num, by rw [HS2E.out]; exact S8⟩
        case measure => simp [RowKit.intOf]; omega
    · obtain rfl : k = N := by omega
      have hget := List.all_eq_true.1 ov_get k (List.mem_range.2 (by omega))
      rw [← ov_K] at hget
      simp only [Bool.and_eq_true, decide_eq_true_eq] at hget
      obtain ⟨hg1, hg2⟩ := hget
      have HG2 : Hid (decide ((2 : Int) ∈ keys (ovS k).tab) = true) := hide (by simpa using hg2)
      have HHAS : Hid (∀ (w' : World) (L' : List Asn), Sat W w' (stateA b (ovS k) :: L') → Calls Tryz.prog 26 #[ptr b, .int .i64 2] w' fun e w2 => e = .returned (.bool true) ∧ Sat W w2 (stateA b (ovS k) :: L')) := hide fun w' L' S' => by
        have := s_hasst S' 2
        rwa [HG2.out] at this
      generalize ovS k = s1 at *
      obtain ⟨t, ts, bk, S6⟩ := S5.stateOpen
      have q0 := S6.cell 0 _ rfl
      have hgt := get_tree S6.p1 (HGL.out.at S6 (by simp)) [47, 109, 105, 110, 101] (by decide)
      generalize getF s1.tree [47, 109, 105, 110, 101] = G at *
      obtain ⟨⟨n1, n2, n3, n4, n5, n6, n7⟩, ge⟩ := G
      simp only at hg1
      have HG1 := hide hg1
      clear hg1 hg2 HG2 S5
      go_wp2_with fail
      refine hgt.mono ?_
      rintro e w7 ⟨rfl, S7⟩
      have S8 := (S7.box #[.string (S n1), .int .i64 n2, .int .i64 n3, .int .i64 n4, .int .i64 n5, .int .i64 n6, .int .i64 n7] 64 rfl).drop
      clear S6 q0 hgt
      go_upto_region 14 with fail
      generalize w7.alloc (.cells #[.string (S n1), .int .i64 n2, .int .i64 n3, .int .i64 n4, .int .i64 n5, .int .i64 n6, .int .i64 n7] 64) = w8 at *
      have S9 : Sat W w8 (stateA b s1 :: [oldA W]) := Sat.stateShut ((S8.bring 1))
      clear S7 S8
      by_cases h6 : k < 6
      · have h6i : (k : Int) < 6 := by omega
        have hge : ge = 0 := by have := HG1.out; simp only [h6, decide_true, decide_eq_true_eq] at this; exact this
        subst hge
        clear HG1
        go_wp2_with fail
        refine (HHAS.out _ _ S9).mono ?_
        rintro e w9 ⟨rfl, S10⟩
        have HK := hide S10.drop.keep_all
        clear S9 S10 HHAS
        go_wp2_with fail
        go_ret
        exact ⟨rfl, HK.out⟩
      · have h6i : ¬ (k : Int) < 6 := by omega
        have hge : ¬ ge = 0 := by have := HG1.out; simp only [h6, decide_false, decide_eq_false_iff_not] at this; exact this
        have hge2 : (ge == 0) = false := by simpa using hge
        clear HG1
        go_wp2_with fail
        refine (HHAS.out _ _ S9).mono ?_
        rintro e w9 ⟨rfl, S10⟩
        have HK := hide S10.drop.keep_all
        clear S9 S10 HHAS
        go_wp2_with fail
        go_ret
        exact ⟨by first | rfl | simp, HK.out⟩
end Go.Proofs.YtbfogieeiobpdaaGreatDoor
