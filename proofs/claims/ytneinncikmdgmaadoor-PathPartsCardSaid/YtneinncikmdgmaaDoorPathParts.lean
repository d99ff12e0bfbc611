/- The law PathParts, walked. No condition. -/
import Derived.Test.YtneinncikmdgmaaDoorPartL
set_option linter.unusedVariables false
set_option linter.unusedSimpArgs false
namespace Go.Proofs.YtneinncikmdgmaaDoor
open Go.RowKit

def longP (m : Nat) : List UInt8 := List.replicate m 98
theorem cutL_none {c : UInt8} {l : List UInt8} (h : c ∉ l) : cutL c l = [l] := by
  induction l with
  | nil => rfl
  | cons b l ih =>
    simp only [List.mem_cons, not_or] at h
    unfold cutL
    rw [if_neg (fun e => h.1 e.symm), ih h.2]
theorem okc_47 : okc 47 = false := by decide
theorem part_one (c : UInt8) : partF [c] = okc c := by simp [partF]
theorem check_one (c : UInt8) : checkF [47, c] = if okc c then 0 else 10 := by
  have h1 : ([47, c] : List UInt8) ≠ [47] := by simp
  unfold checkF
  rw [if_neg h1, if_neg (by simp)]
  by_cases h : c = 47
  · subst h
    decide
  · simp only [List.drop_succ_cons, List.drop_zero]
    rw [cutL_none (by simpa using fun e => h e.symm)]
    simp [part_one]
theorem part_long (m : Nat) : partF (longP m) = (decide (1 ≤ m) && decide (m ≤ 20)) := by
  have : (longP m).all okc = true := by
    rw [List.all_eq_true]
    intro x hx
    unfold longP at hx
    rw [List.mem_replicate] at hx
    rw [hx.2]
    decide
  unfold partF
  rw [this]
  simp [longP]
theorem check_long (m : Nat) (hm : m ≤ 31) : checkF (47 :: 120 :: 47 :: longP m) = if (decide (1 ≤ m) && decide (m ≤ 20)) then 0 else 10 := by
  have h1 : (47 :: 120 :: 47 :: longP m : List UInt8) ≠ [47] := by simp
  unfold checkF
  rw [if_neg h1, if_neg (by simp [longP]; omega)]
  have e : cutL 47 (List.drop 1 (47 :: 120 :: 47 :: longP m)) = [[120], longP m] := by
    have h : (47 : UInt8) ∉ longP m := by
      unfold longP
      rw [List.mem_replicate]
      rintro ⟨_, h⟩
      exact absurd h (by decide)
    simp only [List.drop_succ_cons, List.drop_zero]
    unfold cutL
    rw [if_neg (by decide)]
    unfold cutL
    rw [if_pos rfl, cutL_none h]
  rw [e]
  simp only [List.all_cons, List.all_nil, part_long, Bool.and_true]
  have : partF [120] = true := by decide
  rw [this]
  simp

set_option maxRecDepth 100000 in
set_option maxHeartbeats 4000000 in
theorem parts_walk (W : World) (hG : GL W) (c : UInt8) (n0 : Int) :
    Calls Tryd.prog 10 #[.int .u8 c.toNat, .int .i64 n0] W fun e w' => e = .returned (.bool true) ∧ Keeps (fun k => W.heap.size ≤ k) W w' := by
  have HF : Hid (∀ {w w' : World}, Keeps (fun _ => False) w w' → Keeps (fun k => w.heap.size ≤ k) w w') := fun h => h.mono (fun _ _ h => h.elim)
  obtain ⟨n1, n2⟩ : 0 ≤ bits .and .i64 n0 31 ∧ bits .and .i64 n0 31 ≤ 31 := and_le n0 31 (by decide)
  go_enter Tryd.func10, Tryd.ntmps10
  go_wp2_with fail
  refine (head_path W).mono ?_
  rintro e w0 ⟨rfl, hk0⟩
  obtain ⟨m, hnm⟩ := Int.eq_ofNat_of_zero_le n1
  rw [hnm] at n2
  have hm : m ≤ 31 := by omega
  have HK := hide (hk0.alloc (.cells #[.int .u8 c.toNat] 5))
  have HG := hide (hG.keep HK.out (fun h => h))
  have hsrc : Src (w0.alloc (.cells #[.int .u8 c.toNat] 5)) 1 (some ⟨w0.heap.size, 0, none⟩) 1 (Bs [c]) := Src.block (heap_alloc_new w0 _) 1 1 rfl
  have hconv := run_ofBytes (P := Tryd.prog) (dst := 9) Tryd.underlying61 Tryd.underlying5 Tryd.underlying9 hsrc 1
  have hb := c.toNat_lt
  clear hk0 hsrc n1 n2
  go_upto_region 4 with fail
  go_cut [6] (fun s6 wx => s6 = .bool (okc c) ∧ wx = w0.alloc (.cells #[.int .u8 c.toNat] 5))
  case first =>
    clear hconv
    go_wp2_with fail
    all_goals go_meet
    all_goals
      refine ⟨congrArg Value.bool ?_, rfl⟩
      have hok : okc c = ((decide (97 ≤ c.toNat) && decide (c.toNat ≤ 122)) || (decide (48 ≤ c.toNat) && decide (c.toNat ≤ 57)) || decide (c.toNat = 45)) := rfl
      rw [hok, Bool.eq_iff_iff]
      simp
      omega
  case rest =>
    obtain ⟨rfl, rfl⟩ := hcut
    have HP1 := hide (part_one c)
    have HP2 := hide (check_one c)
    generalize w0.alloc (.cells #[.int .u8 c.toNat] 5) = w1 at *
    clear hconv hb
    have HP3 := hide (part_long m)
    have HP4 := hide (check_long m hm)
    go_wp2_with fail
    go_loop [7, 8] (fun s i => ∃ k : Nat, k ≤ m ∧ i = .int .i64 k ∧ s = .string (S (longP k))) (fun _ i => m - (intOf i).toNat)
    case atStart => exact ⟨0, by omega, rfl, rfl⟩
    case round =>
      obtain ⟨k, hk, rfl, rfl⟩ := hrel
      by_cases hlt : k < m
      · have hll : (longP k).length = k := by simp [longP]
        have hll2 : (longP k).length ≤ 31 := by omega
        have HLL := hide hll
        clear hll
        go_wp2_with fail
        go_round
        case rel =>
          refine ⟨k + 1, by omega, by go_num, congrArg Value.string ?_⟩
          have e : longP (k + 1) = longP k ++ [98] := by simp [longP, List.replicate_succ']
          rw [e, ← S_append]
          rfl
        case measure => simp [intOf]; omega
      · obtain rfl : k = m := by omega
        have hll2 : (longP k).length ≤ 31 := by simp [longP, hm]
        have e1 : (⟨#[47]⟩ : ByteArray) ++ S [c] = S [47, c] := S_append [47] [c]
        have e2 : (⟨#[47, 120, 47]⟩ : ByteArray) ++ S (longP k) = S (47 :: 120 :: 47 :: longP k) := S_append [47, 120, 47] (longP k)
        have b1 : ((k : Int) ≥ 1) ↔ 1 ≤ k := by omega
        have b2 : ((k : Int) ≤ 20) ↔ k ≤ 20 := by omega
        generalize longP k = l at *
        have E1 := hide e1
        have E2 := hide e2
        clear e1 e2 b1 b2
        cases hok : okc c
        all_goals
          rw [hok] at HP1 HP2
          clear hok
          by_cases hr : 1 ≤ k ∧ k ≤ 20
          all_goals
            first
              | (have e : (decide (1 ≤ k) && decide (k ≤ 20)) = true := by simp; exact hr
                 rw [e] at HP3 HP4
                 clear e
                 obtain ⟨r1, r2⟩ := hr)
              | (have e : (decide (1 ≤ k) && decide (k ≤ 20)) = false := by simp; omega
                 rw [e] at HP3 HP4
                 clear e)
            go_wp2_with fail
            refine (part_path w1 [c] (by simp)).mono ?_
            rw [HP1.out]
            rintro e w2 ⟨rfl, hk2⟩
            have HG2 := hide (HG.out.keep hk2 (fun h => h))
            have HK2 := hide (HK.out.trans' hk2)
            clear hk2
            go_wp2_with fail
            rw [E1.out]
            refine (check_path w2 [47, c] (by simp) HG2.out).mono ?_
            rw [HP2.out]
            rintro e w3 ⟨rfl, hk3⟩
            have HG3 := hide (HG2.out.keep hk3 (fun h => h))
            have HK3 := hide (HK2.out.trans' hk3)
            clear hk3
            go_wp2_with fail
            refine (part_path w3 l (by omega)).mono ?_
            rw [HP3.out]
            rintro e w4 ⟨rfl, hk4⟩
            have HG4 := hide (HG3.out.keep hk4 (fun h => h))
            have HK4 := hide (HK3.out.trans' hk4)
            clear hk4
            go_wp2_with fail
            all_goals
              first
                | (exfalso; omega)
                | (rw [E2.out]
                   refine (check_path w4 (47 :: 120 :: 47 :: l) (by simp; omega) HG4.out).mono ?_
                   rw [HP4.out]
                   rintro e w5 ⟨rfl, hk5⟩
                   have HK5 := hide (HK4.out.trans' hk5)
                   clear hk5
                   go_wp2_with fail
                   all_goals
                     first
                       | (exfalso; omega)
                       | (go_ret
                          exact ⟨rfl, HF.out HK5.out⟩)
                       | (go_ret
                          refine ⟨congrArg (fun b => Ending.returned (.bool b)) ?_, HF.out HK5.out⟩
                          simp
                          omega))

end Go.Proofs.YtneinncikmdgmaaDoor
