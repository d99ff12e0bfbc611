/- The law StateNotes, walked. No condition. -/
import Derived.Test.YtbfogieeiobpdaaGreatDoorStW
set_option linter.unusedVariables false
set_option linter.unusedSimpArgs false
namespace Go.Proofs.YtbfogieeiobpdaaGreatDoor
open Go.RowKit

def ntW : CmdT := ⟨4, 1, 1, 0, [], [47], false, false⟩
def ntC (m : Nat) : CmdT := ⟨5, 1, 2, (m : Int), [], [], false, false⟩
def ntS : Nat → StT
  | 0 => (applyC (openS 2) ntW).2
  | k + 1 => (applyC (ntS k) (cmSet k)).2
def ntK : Nat → StT
  | 0 => (applyK (openK 2) ntW).2
  | k + 1 => (applyK (ntK k) (cmSet k)).2
theorem nt_K (k : Nat) : ntS k = ntK k := by
  induction k with
  | zero => unfold ntS ntK; rw [apply_K, open_K]
  | succ k ih => unfold ntS ntK; rw [apply_K, ih]
def ntE (k m : Nat) : StT := (applyC (ntS k) (ntC m)).2
def ntEK (k m : Nat) : StT := (applyK (ntK k) (ntC m)).2
theorem ntE_K (k m : Nat) : ntE k m = ntEK k m := by unfold ntE ntEK; rw [apply_K, nt_K]
theorem nt_a : RunS (ntS 0) 1 3 := (openS_run 2 (by omega)).step (c := ntW) (by decide) (by omega) (by omega)
theorem nt_run (k : Nat) (hk : k ≤ 40) : RunS (ntS k) (1 + 2 * k) (3 + k) := by
  induction k with
  | zero => exact nt_a
  | succ k ih =>
    have := (ih (by omega)).step (cmSet_R k (by omega)) (by omega) (by omega)
    exact this
theorem ntC_R (m : Nat) (h : m ≤ 100) : cmdR (ntC m) = true := by
  simp [cmdR, ntC, numR, wrongF]
  omega
theorem run_es {s : StT} {k m : Nat} (h : RunS s k m) : s.book.es.length ≤ 40 * k := by
  obtain ⟨M, n, hi, hn⟩ := h.it
  have := hi.book.es
  omega
theorem nt_len : (List.range 4).all (fun k => decide (((ntK k).book.es.filter fun x => decide (x.session = 1)).length = k)) = true := by kernel_rfl
theorem nt_left : (List.range 4).all (fun k => (List.range 8).all fun m => decide (((ntEK k m).book.es.filter fun x => decide (x.session = 1)).length = k - m) && (List.range 4).all fun i => match ((ntEK k m).book.es.filter fun x => decide (x.session = 1))[i]? with
  | none => true
  | some e => decide (e.no = (m : Int) + 1 + (i : Int)) && decide (e.what = 3)) = true := by kernel_rfl
theorem nt_at {k m i : Nat} (hk : k < 4) (hm : m < 8) : ((ntE k m).book.es.filter fun x => decide (x.session = 1)).length = k - m ∧ ∀ e, ((ntE k m).book.es.filter fun x => decide (x.session = 1))[i]? = some e → e.no = (m : Int) + 1 + (i : Int) ∧ e.what = 3 := by
  have h1 := List.all_eq_true.1 (List.all_eq_true.1 nt_left k (List.mem_range.2 hk)) m (List.mem_range.2 hm)
  rw [← ntE_K] at h1
  simp only [Bool.and_eq_true, decide_eq_true_eq] at h1
  obtain ⟨h2, h3⟩ := h1
  refine ⟨h2, fun e he => ?_⟩
  have hi : i < 4 := by
    have := (List.getElem?_eq_some_iff.1 he).1
    omega
  have h4 := List.all_eq_true.1 h3 i (List.mem_range.2 hi)
  rw [he] at h4
  simp only [Bool.and_eq_true, decide_eq_true_eq] at h4
  exact h4

set_option maxRecDepth 100000 in
set_option maxHeartbeats 8000000 in
theorem notes_walk (W : World) (hG : GL W) (n noted : Int) :
    Calls Tryz.prog 5 #[.int .i64 n, .int .i64 noted] W fun e w' => e = .returned (.bool true) ∧ Keeps (fun _ => False) W w' := by
  have HGL : Hid (GL W) := hide hG
  obtain ⟨k0, k1⟩ : 0 ≤ bits .and .i64 n 3 ∧ bits .and .i64 n 3 ≤ 3 := and_le n 3 (by decide)
  obtain ⟨N, hN⟩ := Int.eq_ofNat_of_zero_le k0
  have hN3 : N ≤ 3 := by omega
  obtain ⟨j0, j1⟩ : 0 ≤ bits .and .i64 noted 7 ∧ bits .and .i64 noted 7 ≤ 7 := and_le noted 7 (by decide)
  obtain ⟨M, hM⟩ := Int.eq_ofNat_of_zero_le j0
  have hM7 : M ≤ 7 := by omega
  clear k0 k1 j0 j1
  go_enter Tryz.func5, Tryz.ntmps5
  go_wp2_with fail
  refine (head_state (Sat.start W) hG (by simp)).mono ?_
  rintro e w0 ⟨rfl, S0⟩
  clear hG
  go_upto_region 5 with fail
  clear hN hM
  go_wp2_with fail
  refine (opened_state S0 HGL.out (by simp) 2 (by omega)).mono ?_
  rintro e w1 ⟨b, rfl, S1⟩
  clear S0
  have HT1 : Hid (∀ (w' : World) (L' : List Asn), Sat W w' L' → Calls Tryz.prog 24 #[.agg #[.int .i64 4, .int .i64 1, .int .i64 1, .int .i64 0, .slice none 0 0, .string ⟨#[47]⟩, .bool false, .bool false]] w' fun e w2 => e = .returned (.string (S (bytesF ntW).1)) ∧ Sat W w2 L') := hide fun w' L' S' => s_textc S' ntW none 0 (Src.nil _ _ _) ⟨by decide, by decide, by intro o h; cases h⟩
  have HS1 : Hid (∀ (w' : World) (L' : List Asn), Sat W w' (stateA b (openS 2) :: L') → oldA W ∈ L' → Calls Tryz.prog 23 #[ptr b, .string (S (bytesF ntW).1)] w' fun e w2 => ∃ (x1 x2 x4 : Int) (x3 : List OutT) (A : Option Addr) (cap : Nat), e = .returned (.agg #[.int .i64 x1, .int .i64 x2, .slice A x3.length cap, .int .i64 x4]) ∧ Sat W w2 (rowA 134 2 (.slice A x3.length cap) x3.length (x3.flatMap outC) :: stateA b (ntS 0) :: L')) := hide fun w' L' S' h => s_say3 S' HGL.out h (openS_run 2 (by omega)) (by omega) (by omega) (by decide) (by decide)
  generalize (bytesF ntW).1 = TX1 at *
  go_wp2_with fail
  refine (HT1.out _ _ S1).mono ?_
  rintro e w1a ⟨rfl, S1a⟩
  clear S1 HT1
  go_wp2_with fail
  refine (HS1.out _ _ S1a (by simp)).mono ?_
  rintro e w2 ⟨x1, x2, x4, x3, A, cap, rfl, S1b⟩
  have S2 := S1b.drop
  clear S1a S1b HS1
  go_wp2_with fail
  go_loopw [6] (fun i wr => ∃ k : Nat, k ≤ N ∧ i = .int .i64 (k : Int) ∧ Sat W wr (stateA b (ntS k) :: [oldA W])) (fun i _ => N - (RowKit.intOf i).toNat)
  case atStart => exact ⟨0, by omega, rfl, S2⟩
  case round =>
    obtain ⟨k, hk, rfl, S5⟩ := hrel
    clear S2
    by_cases hlt : k < N
    · have hk0 : (k : Int) < (N : Int) := by omega
      have hrun := nt_run k (by omega)
      have hcr := cmSet_R k (by omega)
      have HT3 : Hid (∀ (w' : World) (L' : List Asn) (ob : Nat), Sat W w' (cellsA ob 61 #[.int .i64 2, .string (S [47]), .string (S []), .int .i64 (-1), .bool false, .bool false] :: L') → Calls Tryz.prog 24 #[.agg #[.int .i64 3, .int .i64 2, .int .i64 (1 + (k : Int)), .int .i64 0, .slice (some ⟨ob, 0, none⟩) 1 1, .string ⟨#[]⟩, .bool false, .bool false]] w' fun e w2 => e = .returned (.string (S (bytesF (cmSet k)).1)) ∧ Sat W w2 (cellsA ob 61 #[.int .i64 2, .string (S [47]), .string (S []), .int .i64 (-1), .bool false, .bool false] :: L')) := hide fun w' L' ob S' => s_text1 opSet S' rfl 2 (1 + (k : Int)) (by decide) (by decide)
      have HS3 : Hid (∀ (w' : World) (L' : List Asn), Sat W w' (stateA b (ntS k) :: L') → oldA W ∈ L' → Calls Tryz.prog 23 #[ptr b, .string (S (bytesF (cmSet k)).1)] w' fun e w2 => ∃ (x1 x2 x4 : Int) (x3 : List OutT) (A : Option Addr) (cap : Nat), e = .returned (.agg #[.int .i64 x1, .int .i64 x2, .slice A x3.length cap, .int .i64 x4]) ∧ Sat W w2 (rowA 134 2 (.slice A x3.length cap) x3.length (x3.flatMap outC) :: stateA b (ntS (k + 1)) :: L')) := hide fun w' L' S' h => s_say3 S' HGL.out h hrun (by omega) (by omega) hcr (by first | decide | simp [cmSet, madeF])
      generalize (bytesF (cmSet k)).1 = TX3 at *
      generalize hs2 : ntS (k + 1) = s2 at *
      have HS2E := hide hs2
      clear hs2
      generalize ntS k = s1 at *
      clear hrun hcr
      have S5z := S5.box #[.int .i64 2, .string (S [47]), .string (S []), .int .i64 (-1), .bool false, .bool false] 61 rfl
      go_wp2_with fail
      refine (s_made1 S5z 2 (1 + (k : Int)) _ _).mono ?_
      rintro e wra ⟨rfl, S5a⟩
      generalize wr.heap.size = ob3 at *
      clear S5 S5z
      go_wp2_with fail
      refine (HT3.out _ _ ob3 S5a).mono ?_
      rintro e wrb ⟨rfl, S5b⟩
      have S5c := S5b.drop
      clear S5a S5b HT3
      go_wp2_with fail
      refine (HS3.out _ _ S5c (by simp)).mono ?_
      rintro e w6 ⟨x1, x2, x4, x3, A, cap, rfl, S5d⟩
      have S6 := S5d.drop
      clear S5d
      clear S5c HS3
      go_wp2_with fail
      go_roundw
      case rel => exact ⟨k + 1, by omega, by go_num, by rw [HS2E.out]; exact S6⟩
      case measure => simp [RowKit.intOf]; omega
    · obtain rfl : k = N := by omega
      have hrun := nt_run k (by omega)
      have hes := run_es hrun
      have hlen := List.all_eq_true.1 nt_len k (List.mem_range.2 (by omega))
      rw [← nt_K] at hlen
      simp only [decide_eq_true_eq] at hlen
      have hev := s_evst S5 (by omega) 1
      rw [hlen] at hev
      have HLE := hide (run_es (hrun.step (ntC_R M (by omega)) (by omega) (by omega)))
      have HAT : Hid (((ntE k M).book.es.filter fun x => decide (x.session = 1)).length = k - M ∧ ∀ (i : Nat) e, ((ntE k M).book.es.filter fun x => decide (x.session = 1))[i]? = some e → e.no = (M : Int) + 1 + (i : Int) ∧ e.what = 3) := hide ⟨(nt_at (i := 0) (by omega) (by omega)).1, fun i => (nt_at (by omega) (by omega)).2⟩
      have HT4 : Hid (∀ (w' : World) (L' : List Asn), Sat W w' L' → Calls Tryz.prog 24 #[.agg #[.int .i64 5, .int .i64 1, .int .i64 2, .int .i64 (M : Int), .slice none 0 0, .string ⟨#[]⟩, .bool false, .bool false]] w' fun e w2 => e = .returned (.string (S (bytesF (ntC M)).1)) ∧ Sat W w2 L') := hide fun w' L' S' => s_textc S' (ntC M) none 0 (Src.nil _ _ _) ⟨by simp [ntC], by simp [ntC], by intro o h; cases h⟩
      have HS4 : Hid (∀ (w' : World) (L' : List Asn), Sat W w' (stateA b (ntS k) :: L') → oldA W ∈ L' → Calls Tryz.prog 23 #[ptr b, .string (S (bytesF (ntC M)).1)] w' fun e w2 => ∃ (x1 x2 x4 : Int) (x3 : List OutT) (A : Option Addr) (cap : Nat), e = .returned (.agg #[.int .i64 x1, .int .i64 x2, .slice A x3.length cap, .int .i64 x4]) ∧ Sat W w2 (rowA 134 2 (.slice A x3.length cap) x3.length (x3.flatMap outC) :: stateA b (ntE k M) :: L')) := hide fun w' L' S' h => s_say3 S' HGL.out h hrun (by omega) (by omega) (ntC_R M (by omega)) (by simp [ntC])
      generalize (bytesF (ntC M)).1 = TX4 at *
      have HLE2 : Hid ((ntE k M).book.es.length ≤ 1000000) := hide (by have : (ntE k M).book.es.length ≤ _ := HLE.out; have h0 : (ntC M).ops.length = 0 := rfl; omega)
      generalize ((ntS k).book.es.filter fun x => decide (x.session = 1)) = l1 at *
      generalize ntS k = s1 at *
      generalize ntE k M = s2 at *
      go_wp2_with fail
      refine hev.mono ?_
      rintro e w6 ⟨v, rfl, S6⟩
      obtain ⟨A1, c1, rfl, -⟩ := S6.row.form
      have S7 := S6.drop
      clear S5 S6 hev hrun hes hlen HLE
      go_wp2_with fail
      refine (HT4.out _ _ S7).mono ?_
      rintro e w6a ⟨rfl, S7a⟩
      clear S7 HT4
      go_wp2_with fail
      refine (HS4.out _ _ S7a (by simp)).mono ?_
      rintro e w8 ⟨x1, x2, x4, x3, A, cap, rfl, S7b⟩
      have S8 := S7b.drop
      clear S7a S7b HS4
      have hev := s_evst S8 HLE2.out 1
      obtain ⟨hl2, HEA⟩ := HAT.out
      have HEA := hide HEA
      generalize (s2.book.es.filter fun x => decide (x.session = 1)) = l2 at *
      go_wp2_with fail
      refine hev.mono ?_
      rintro e w9 ⟨v, rfl, S9⟩
      obtain ⟨A2, c2, rfl, -⟩ := S9.row.form
      have hws : IntKind.i64.wrap ((k : Int) - (M : Int)) = (k : Int) - (M : Int) := IntWalk.i64_in _ ⟨by omega, by omega⟩
      have hmx : max (0 : Int) ((k : Int) - (M : Int)) = (l2.length : Int) := by omega
      clear S8 hev HAT HLE2
      go_wp2_with fail
      clear hws hmx
      go_loopw [55] (fun i wr => ∃ j : Nat, j ≤ l2.length ∧ i = .int .i64 (j : Int) ∧ Sat W wr (rowA 74 5 (.slice A2 l2.length c2) l2.length (l2.flatMap evC) :: stateA b s2 :: [oldA W])) (fun i _ => l2.length - (RowKit.intOf i).toNat)
      case atStart => exact ⟨0, by omega, rfl, S9⟩
      case round =>
        obtain ⟨j, hj, rfl, S10⟩ := hrel
        clear S9
        by_cases hlt2 : j < l2.length
        · have hj0 : (0 : Int) ≤ (j : Int) := by omega
          have hj1 : (j : Int) < (l2.length : Int) := by omega
          obtain ⟨ad, x, rfl, hx, d0, d1, d2, d3, d4⟩ := ev_at S10.srcT hlt2
          obtain ⟨e1, e2⟩ := HEA.out j x hx
          obtain ⟨u1, u2, u3, u4, u5⟩ := x
          simp only at e1 e2 d0 d1 d2 d3 d4
          subst e1 e2
          clear hx
          go_upto_region 20 with fail
          have S11 := S10.box #[.int .i64 u1, .int .i64 ((M : Int) + 1 + (j : Int)), .string (S u3), .int .i64 3, .int .i64 u5] 74 rfl
          generalize wr.alloc (.cells #[.int .i64 u1, .int .i64 ((M : Int) + 1 + (j : Int)), .string (S u3), .int .i64 3, .int .i64 u5] 74) = w11 at *
          generalize wr.heap.size = xb at *
          have z1 := S11.cell 1 _ rfl
          have z3 := S11.cell 3 _ rfl
          have hw1 : IntKind.i64.wrap ((M : Int) + 1) = (M : Int) + 1 := IntWalk.i64_in _ ⟨by omega, by omega⟩
          have hw2 : IntKind.i64.wrap ((M : Int) + 1 + (j : Int)) = (M : Int) + 1 + (j : Int) := IntWalk.i64_in _ ⟨by omega, by omega⟩
          have S12 := S11.drop
          clear S10 S11 d0 d1 d2 d3 d4
          go_wp2_with fail
          go_roundw
          case rel => exact ⟨j + 1, by omega, by go_num, S12⟩
          case measure => simp [RowKit.intOf]; omega
        · obtain rfl : j = l2.length := by omega
          have HK := hide S10.drop.drop.keep_all
          clear S10
          go_wp2_with fail
          go_ret
          exact ⟨rfl, HK.out⟩
end Go.Proofs.YtbfogieeiobpdaaGreatDoor
