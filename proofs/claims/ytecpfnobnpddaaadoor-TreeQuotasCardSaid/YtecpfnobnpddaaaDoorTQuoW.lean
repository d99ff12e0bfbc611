/- The law TreeQuotas, walked. No condition. -/
import Derived.Test.YtecpfnobnpddaaaDoorTHead
set_option linter.unusedVariables false
set_option linter.unusedSimpArgs false
namespace Go.Proofs.YtecpfnobnpddaaaDoor
open Go.RowKit

theorem qT_ok (k : Nat) (hk : k ≤ 59) : NodesOk (qT k) := by
  intro p hp
  simp only [qT, List.mem_cons, List.mem_map, List.mem_range] at hp
  rcases hp with rfl | ⟨i, hi, rfl⟩
  · simp only [rN]; omega
  · simp [qN]
theorem qT_get (k : Nat) : getF (qT k) [47] = (rN k, 0) := by
  have h : checkF [47] = 0 := by decide
  unfold getF
  rw [if_pos h, qT_root]
set_option maxRecDepth 100000 in
set_option maxHeartbeats 4000000 in
theorem tquo_walk (W : World) (hG : GL W) (n : Int) :
    Calls Tryd.prog 3 #[.int .i64 n] W fun e w' => e = .returned (.bool true) ∧ Keeps (fun _ => False) W w' := by
  have HGL : Hid (∀ {w : World} {L : List Asn}, Sat W w L → oldA W ∈ L → GL w) := fun S0 hm => hG.at S0 hm
  have hn : 0 ≤ bits .and .i64 n 15 ∧ bits .and .i64 n 15 ≤ 15 := and_le n 15 (by decide)
  obtain ⟨hn1, hn2⟩ := hn
  go_enter Tryd.func3, Tryd.ntmps3
  go_wp2_with fail
  refine (head_tree (Sat.start W) hG (by simp)).mono ?_
  rintro e w0 ⟨rfl, S0⟩
  go_wp2_with fail
  obtain ⟨N, hN⟩ : ∃ N : Nat, 50 + bits .and .i64 n 15 = (N : Int) := ⟨(50 + bits .and .i64 n 15).toNat, by omega⟩
  have hN1 : 50 ≤ N := by omega
  have hN2 : N ≤ 65 := by omega
  rw [hN]
  clear hN hn1 hn2
  refine (new_tree S0).mono ?_
  rintro e w1 ⟨t, rfl, S1⟩
  have S1 : Sat W w1 (treeA t (qT 0) :: [oldA W]) := S1
  clear S0 hG
  go_wp2_with fail
  go_loopw [4] (fun i wr => ∃ k : Nat, k ≤ N ∧ i = .int .i64 (k + 1) ∧ Sat W wr (treeA t (qT (min k 59)) :: [oldA W])) (fun i _ => N + 2 - (RowKit.intOf i).toNat)
  case atStart => exact ⟨0, by omega, rfl, S1⟩
  case round =>
    obtain ⟨k, hk, rfl, S2⟩ := hrel
    clear S1
    by_cases hlt : k < N
    · have hk1 : (k : Int) + 1 ≤ N := by omega
      by_cases h59 : k < 59
      · have hm : min k 59 = k := by omega
        rw [hm] at S2
        have hcr := hide (qT_new k h59)
        have hle : (k : Int) + 1 ≤ 59 := by omega
        have hgt : decide ((59 : Int) < (k : Int) + 1) = false := by simpa using hle
        have hsub : (k : Int) + 1 - 1 = k := by omega
        go_wp2_with fail
        refine (create_eq S2 (HGL.out S2 (by simp)) (qT_ok k (by omega)) [47, 110] [] 0 ((k : Int) + 1) true hcr.out (by decide) (by decide) (by rw [qT_len]; omega)).mono ?_
        rintro e w3 ⟨rfl, S3⟩
        clear S2
        go_wp2_with fail
        refine (serial_path w3 [47, 110] (k : Int) (by omega) (by omega) (by decide)).mono ?_
        rw [serial_num k (by omega)]
        rintro e w4 ⟨rfl, hk4⟩
        have S4 := S3.keep hk4
        clear S3
        have hbeq : (numN k == numN k) = true := by simp
        go_wp2_with fail
        go_roundw
        case rel => exact ⟨k + 1, by omega, by go_num, by rw [show min (k + 1) 59 = k + 1 by omega]; exact S4⟩
        case measure => simp [RowKit.intOf]; omega
      · have hm : min k 59 = 59 := by omega
        rw [hm] at S2
        have hcr := hide (qT_full ((k : Int) + 1))
        have hle : decide ((k : Int) + 1 ≤ 59) = false := by simp; omega
        have hgt : (59 : Int) < (k : Int) + 1 := by omega
        go_wp2_with fail
        refine (create_eq S2 (HGL.out S2 (by simp)) (qT_ok 59 (by omega)) [47, 110] [] 0 ((k : Int) + 1) true hcr.out (by decide) (by decide) (by rw [qT_len]; omega)).mono ?_
        rintro e w3 ⟨rfl, S3⟩
        clear S2
        go_wp2_with fail
        go_roundw
        case rel => exact ⟨k + 1, by omega, by go_num, by rw [show min (k + 1) 59 = 59 by omega]; exact S3⟩
        case measure => simp [RowKit.intOf]; omega
    · obtain rfl : k = N := by omega
      have hle : decide ((k : Int) + 1 ≤ (k : Int)) = false := by simp; omega
      obtain ⟨M, hM⟩ : ∃ M : Nat, min k 59 = M := ⟨_, rfl⟩
      rw [hM] at S2
      have hM1 : min (k : Int) 59 = (M : Int) := by omega
      have hM2 : min ((k : Int) + 1) 60 = (M : Int) + 1 := by omega
      go_wp2_with fail
      have hget := get_tree S2 (HGL.out S2 (by simp)) [47] (by decide)
      rw [qT_get] at hget
      refine hget.mono ?_
      rintro e w3 ⟨rfl, S3⟩
      clear hget S2
      go_upto_region 12 with fail
      have S4 := S3.box (nodC (rN M)) 30 rfl
      generalize w3.alloc (.cells (nodC (rN M)) 30) = w4 at *
      generalize w3.heap.size = xb at *
      clear S3
      go_wp2_with fail
      refine (len_tree S4.p1).mono ?_
      rw [qT_len]
      rintro e w5 ⟨rfl, S5⟩
      obtain ⟨a0, a1, a2, a3, a4, a5, a6⟩ := S5.p1.nod
      simp only [rN] at a2 a6
      have HK := hide (S5.drop.drop.keep_all)
      clear S4 S5
      go_wp2_with fail
      go_ret
      exact ⟨rfl, HK.out⟩

end Go.Proofs.YtecpfnobnpddaaaDoor
