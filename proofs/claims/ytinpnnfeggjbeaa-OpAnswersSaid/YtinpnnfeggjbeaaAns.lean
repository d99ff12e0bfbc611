/- Contracts of the package op, results: the result that bytes are. No condition. -/
import Derived.Test.YtinpnnfeggjbeaaRes
set_option linter.unusedVariables false
namespace Go.Proofs.Ytinpnnfeggjbeaa
open Go.RowKit

theorem slOut : Sl Try.prog 56 62 2 24 (.agg #[.string ⟨#[]⟩, .int .i64 0]) := .mk' Try.underlying56 (by kernel_rfl) rfl (by decide)
def rOut (x : RS) : OutT × RS := (⟨(rt x 60).1, (rn (rt x 60).2 281474976710655).1⟩, (rn (rt x 60).2 281474976710655).2)
def rOuts : Nat → RS → List OutT × RS
  | 0, x => ([], x)
  | n + 1, x => ((rOuts n x).1 ++ [(rOut (rOuts n x).2).1], (rOut (rOuts n x).2).2)
theorem rOuts_length (n : Nat) (x : RS) : (rOuts n x).1.length = n := by
  induction n with
  | zero => rfl
  | succ n ih => simp [rOuts, ih]
def rR4 (a b c : Int) (n : Int) (x : RS) : ResT × RS := (⟨a, b, (rOuts n.toNat x).1, c⟩, (rOuts n.toNat x).2)
def rR3 (a b c : Int) (x : RS) : ResT × RS := rR4 a b c (rn x 4).1 (rn x 4).2
def rR2 (a b : Int) (x : RS) : ResT × RS := rR3 a b (rn x 281474976710655).1 (rn x 281474976710655).2
def rR1 (a : Int) (x : RS) : ResT × RS := rR2 a (rn x 4).1 (rn x 4).2
def rRes (x : RS) : ResT × RS := rR1 (rn x 1024).1 (rn x 1024).2
def noRes : ResT := ⟨0, 0, [], 0⟩
def ansF (s : List UInt8) : ResT × Int := if rdone (rRes (s, false)).2 ≠ 0 then (noRes, 2) else ((rRes (s, false)).1, 0)

set_option maxRecDepth 100000 in
set_option maxHeartbeats 2000000 in
theorem answer_res (w : World) (s : List UInt8) (hs : s.length ≤ 9223372036854775807) :
    Calls Try.prog 34 #[.string (S s)] w fun e w' => ∃ A cap, e = .returned (.tuple #[resV (ansF s).1 A cap, .int .i64 (ansF s).2]) ∧ OutSrc w' A (ansF s).1.outs ∧ Keeps (fun _ => False) w w' := by
  go_enter Try.func34, Try.ntmps34
  go_wp2_with fail
  refine (s_read ((Sat.start w).box _ _ rfl) s hs).mono ?_
  rintro e w1 ⟨r, rfl, S1⟩
  have EC : Hid (rRes (s, false) = rR1 (rn (s, false) 1024).1 (rn (s, false) 1024).2) := rfl
  go_wp2_with fail
  refine (s_rnum 1024 S1).mono ?_
  rintro e w2 ⟨rfl, S2⟩
  generalize rn (s, false) 1024 = a1 at *
  go_wp2_with fail
  refine (s_rnum 4 S2).mono ?_
  rintro e w3 ⟨rfl, S3⟩
  replace EC : Hid (rRes (s, false) = rR2 a1.1 (rn a1.2 4).1 (rn a1.2 4).2) := EC.out
  generalize rn a1.2 4 = a2 at *
  go_wp2_with fail
  refine (s_rnum _ S3).mono ?_
  rintro e w4 ⟨rfl, S4⟩
  replace EC : Hid (rRes (s, false) = rR3 a1.1 a2.1 (rn a2.2 281474976710655).1 (rn a2.2 281474976710655).2) := EC.out
  generalize rn a2.2 281474976710655 = a3 at *
  go_wp2_with fail
  refine (s_rnum _ (S4.box _ _ rfl).p1).mono ?_
  rintro e w5 ⟨rfl, S5⟩
  replace EC : Hid (rRes (s, false) = rR4 a1.1 a2.1 a3.1 (rn a3.2 4).1 (rn a3.2 4).2) := EC.out
  have n4l := rn_lo a3.2 4
  have n4h := rn_hi a3.2 4 (by decide)
  generalize rn a3.2 4 = a4 at *
  obtain ⟨n4, x4⟩ := a4
  obtain ⟨n, rfl⟩ := Int.eq_ofNat_of_zero_le n4l
  simp only at S5 n4h
  replace EC : Hid (rRes (s, false) = (⟨a1.1, a2.1, (rOuts n x4).1, a3.1⟩, (rOuts n x4).2)) := EC.out
  have hn4 : n ≤ 4 := by omega
  clear S1 S2 S3 S4 n4l n4h
  generalize a1.1 = E1 at *
  generalize a2.1 = E2 at *
  generalize a3.1 = E3 at *
  generalize w4.heap.size = rb at *
  go_wp2_with fail
  go_loopw [17] (fun i wr => ∃ k : Nat, k ≤ n ∧ i = .int .i64 k ∧ ∃ A c, Sat w wr [rdA r (rOuts k x4).2, cellsA rb 58 #[.int .i64 E1, .int .i64 E2, .slice A k c, .int .i64 E3], rowA 62 2 (.slice A k c) k ((rOuts k x4).1.flatMap outC), cellsA w.heap.size 58 #[.int .i64 0, .int .i64 0, .slice none 0 0, .int .i64 0], oldA w]) (fun i _ => n - (intOf i).toNat)
  case atStart => exact ⟨0, by omega, rfl, none, 0, (S5.nilRow _ _).b2⟩
  case round =>
    clear S5
    obtain ⟨k, hk, rfl, A, c, S6⟩ := hrel
    by_cases hlt : k < n
    · have EO : Hid (rOuts (k + 1) x4 = ((rOuts k x4).1 ++ [(rOut (rOuts k x4).2).1], (rOut (rOuts k x4).2).2)) := rfl
      generalize rOuts k x4 = X at *
      obtain ⟨os, x⟩ := X
      simp only at S6 EO
      have q2 : wr.cell? ⟨rb, 2, none⟩ = some (.slice A k c) := S6.cell_of (t := 58) (cs := #[.int .i64 E1, .int .i64 E2, .slice A k c, .int .i64 E3]) (by simp) 2 _ rfl
      go_upto_region 5 with fail
      go_region_law (first
        | (refine step_app slOut rfl (.tmp 20) (.tmp 26) rfl (g := w) (S := by first | exact (S8.box _ _ rfl).p3 | exact (S8.box _ _ rfl).drew.p3) rfl (Src.block (heap_alloc_new _ _) 2 1 rfl) rfl (by simp [Value.oneCell']) (by unfold maxLen; omega) (by omega) ?_; intro A9 c9 w9 S9; have q5 : w9.cell? ⟨rb, 2, none⟩ = some (.slice A k c) := S9.cell_of (t := 58) (cs := #[.int .i64 E1, .int .i64 E2, .slice A k c, .int .i64 E3]) (by simp) 2 _ rfl; have f5 : w9.frozen? ⟨rb, 2, none⟩ = false := S9.fz_of (t := 58) (cs := #[.int .i64 E1, .int .i64 E2, .slice A k c, .int .i64 E3]) (by simp) 2)
        | (go_simp; go_at_call 47; refine (s_rtext 60 (by first | exact S6 | exact S6.drew)).mono ?_; rintro e v1 ⟨rfl, S7⟩; have q3 : v1.cell? ⟨rb, 2, none⟩ = some (.slice A k c) := S7.cell_of (t := 58) (cs := #[.int .i64 E1, .int .i64 E2, .slice A k c, .int .i64 E3]) (by simp) 2 _ rfl)
        | (go_simp; go_at_call 46; refine (s_rnum _ (by first | exact S7 | exact S7.drew)).mono ?_; rintro e v2 ⟨rfl, S8⟩; have q4 : v2.cell? ⟨rb, 2, none⟩ = some (.slice A k c) := S8.cell_of (t := 58) (cs := #[.int .i64 E1, .int .i64 E2, .slice A k c, .int .i64 E3]) (by simp) 2 _ rfl; have l4 : rb < v2.heap.size := World.block_lt_of_cell? v2 _ q4))
      all_goals
        go_wp2_with fail
        go_roundw
        case rel =>
          refine ⟨k + 1, by omega, by go_num, A9, c9, ?_⟩
          rw [EO.out]
          have e1 : (os ++ [(rOut x).1]).flatMap outC = os.flatMap outC ++ #[.string (S (rt x 60).1), .int .i64 (rn (rt x 60).2 281474976710655).1].toList := by rw [List.flatMap_append]; rfl
          have S10 := (S9.p1.drop.p2.setc 2 (.slice A9 (k + 1) c9)).p2
          rw [← e1] at S10
          exact S10
        case measure => simp [intOf]; omega
    · obtain rfl : k = n := by omega
      have HOL := rOuts_length k x4
      have HE : Hid (ansF s = if rdone (rRes (s, false)).2 ≠ 0 then (noRes, 2) else ((rRes (s, false)).1, 0)) := rfl
      rw [EC.out] at HE
      clear EC
      generalize rOuts k x4 = X at *
      obtain ⟨os, x⟩ := X
      simp only at S6 HE HOL
      subst HOL
      go_wp2_with fail
      refine (s_rdone S6).mono ?_
      by_cases hd : rdone x = 0
      · rw [hd]
        rintro e w7 ⟨rfl, S7⟩
        obtain ⟨A', c', e', _, _, hsrc, hAd⟩ := Row.form S7.p2.row
        injection e' with e1 e2 e3
        subst e1 e3
        have q0 : w7.cell? ⟨rb, 0, none⟩ = some (.int .i64 E1) := S7.p1.cell 0 _ rfl
        have q1 : w7.cell? ⟨rb, 1, none⟩ = some (.int .i64 E2) := S7.p1.cell 1 _ rfl
        have q2 : w7.cell? ⟨rb, 2, none⟩ = some (.slice A os.length c) := S7.p1.cell 2 _ rfl
        have q3 : w7.cell? ⟨rb, 3, none⟩ = some (.int .i64 E3) := S7.p1.cell 3 _ rfl
        go_wp2_with ((show Go.wpList _ _ _ (Oper.mk none (Op.store _ _ _) _ _ _ _ :: _) _ _); refine wpList_sstore rfl _ (.tmp 2) (.tmp 34) rfl S7.p3 _ rfl rfl (by kernel_rfl) rfl (by simp [Value.oneCell']) ?_; intro S8)
        refine bodyPost_ret (results_row_tmp Try.results34 _ _ w.heap.size _ _ _ _ rfl S8.cells_get Try.underlying58 rfl (by kernel_rfl)) rfl ?_
        have E : ansF s = (⟨E1, E2, os, E3⟩, 0) := by rw [HE.out, if_neg (by simp [hd])]
        rw [E]
        obtain ⟨A', c', e', _, _, hsrc, _⟩ := Row.form S8.p3.row
        injection e' with e1 e2 e3
        subst e1
        exact ⟨A, c, rfl, hsrc, S8.p4.keep_all⟩
      · have hd2 : (rdone x != 0) = true := by simpa using hd
        rintro e w7 ⟨rfl, S7⟩
        go_wp2_with ((show Go.wpList _ _ _ (Oper.mk none (Op.store _ _ _) _ _ _ _ :: _) _ _); refine wpList_sstore rfl _ (.tmp 2) (.tmp 33) rfl S7.p3 _ rfl rfl (by kernel_rfl) rfl (by simp [Value.oneCell']) ?_; intro S8)
        refine bodyPost_ret (results_row_tmp Try.results34 _ _ w.heap.size _ _ _ _ rfl S8.cells_get Try.underlying58 rfl (by kernel_rfl)) rfl ?_
        have E : ansF s = (noRes, 2) := by rw [HE.out, if_pos hd]
        rw [E]
        exact ⟨none, 0, rfl, Src.nil _ _ _, S8.p4.keep_all⟩

end Go.Proofs.Ytinpnnfeggjbeaa
