/- JudgeOthers, walked. No condition. -/
import Derived.Test.YthgiamofndhehaaGreatDoorJuF
set_option linter.unusedVariables false
set_option linter.unusedSimpArgs false
namespace Go.Proofs.YthgiamofndhehaaGreatDoor
open Go.RowKit

set_option maxRecDepth 100000 in
set_option maxHeartbeats 16000000 in
theorem jothers_walk (W : World) (hG : GL W) (hT : TabE W) (c : CmdT) (A : Option Addr) (cap : Nat) (e0 ah : Int) (hs : OpSrc W A c.ops) (hok : CmdOk c) :
    Calls Tryz.prog 5 #[cmdV c A cap, .int .i64 e0, .int .i64 ah] W fun e W' => e = .returned (.bool true) ∧ Keeps (fun _ => False) W W' := by
  have HG0 := hide hG
  have HT0 := hide hT
  have HFW := hide fun (w' : World) (L' : List Asn) (S' : Sat W w' L') (h : oldA W ∈ L') => (few_cmd w' c A cap (by obtain ⟨L2, S2⟩ := S'.mem_ h; exact hs.keep S2.keep_all (fun _ _ h => h)) hok)
  obtain ⟨kd, ss0, rq, nt, ops, pa, ki, oc⟩ := c
  simp only at HFW ⊢
  clear hG hT hs hok
  go_enter Tryz.func5, Tryz.ntmps5
  have S1 := (Sat.start W).box #[.int .i64 kd, .int .i64 ss0, .int .i64 rq, .int .i64 nt, .slice A ops.length cap, .string (S pa), .bool ki, .bool oc] 61 rfl
  go_upto_region 1 with fail
  generalize W.alloc (.cells #[.int .i64 kd, .int .i64 ss0, .int .i64 rq, .int .i64 nt, .slice A ops.length cap, .string (S pa), .bool ki, .bool oc] 61) = w1 at *
  generalize W.heap.size = cb at *
  go_wp2_with fail
  refine (head_judge S1 HG0.out (by simp) HT0.out).mono ?_
  rintro e w2 ⟨rfl, S2⟩
  clear S1
  have x0 := S2.cell 0 _ rfl
  have x1 := S2.cell 1 _ rfl
  have x2 := S2.cell 2 _ rfl
  have x3 := S2.cell 3 _ rfl
  have x4 := S2.cell 4 _ rfl
  have x5 := S2.cell 5 _ rfl
  have x6 := S2.cell 6 _ rfl
  have x7 := S2.cell 7 _ rfl
  go_wp2_with fail
  refine (HFW.out _ _ S2 (by simp)).mono ?_
  rintro e w3 ⟨he, hk3⟩
  have S3 := S2.keep hk3
  clear S2 hk3 HFW
  rcases he with rfl | ⟨rfl, -, -⟩
  · have HS := hide S3.drop.keep_all
    clear S3 x0 x1 x2 x3 x4 x5 x6 x7
    go_wp2_with fail
    go_ret
    exact ⟨rfl, HS.out⟩
  clear x0 x1 x2 x3 x4 x5 x6 x7
  go_wp2_with fail
  refine (new_j S3).mono ?_
  rintro e w4 ⟨b, rfl, S4⟩
  clear S3
  obtain ⟨K0, K15⟩ : 0 ≤ bits .and .i64 e0 15 ∧ bits .and .i64 e0 15 ≤ 15 := and_le e0 15 (by decide)
  have hw1 : IntKind.i64.wrap (1 + bits .and .i64 e0 15) = 1 + bits .and .i64 e0 15 := IntWalk.i64_in _ ⟨by omega, by omega⟩
  have hne : 1 + bits .and .i64 e0 15 ≠ 0 := by omega
  have S5 := S4.box #[.int .i64 (1 + bits .and .i64 e0 15), .int .i64 0, .int .i64 0, .slice none 0 0, .int .i64 0, .string ⟨#[]⟩, .int .i64 0, .int .i64 0, .int .i64 0, .int .i64 0, .int .i64 0, .int .i64 0, .slice none 0 0, .slice none 0 0, .int .i64 0, .int .i64 0] 55 rfl
  go_upto_region 7 with fail
  generalize w4.alloc (.cells #[.int .i64 (1 + bits .and .i64 e0 15), .int .i64 0, .int .i64 0, .slice none 0 0, .int .i64 0, .string ⟨#[]⟩, .int .i64 0, .int .i64 0, .int .i64 0, .int .i64 0, .int .i64 0, .int .i64 0, .slice none 0 0, .slice none 0 0, .int .i64 0, .int .i64 0] 55) = w5 at *
  generalize w4.heap.size = ab at *
  clear S4 hw1 K0 K15
  generalize bits .and .i64 e0 15 = r at *
  have y0 := S5.cell 0 _ rfl
  have y1 := S5.cell 1 _ rfl
  have y2 := S5.cell 2 _ rfl
  have y3 := S5.cell 3 _ rfl
  have y4 := S5.cell 4 _ rfl
  have y5 := S5.cell 5 _ rfl
  have y6 := S5.cell 6 _ rfl
  have y7 := S5.cell 7 _ rfl
  have y8 := S5.cell 8 _ rfl
  have y9 := S5.cell 9 _ rfl
  have y10 := S5.cell 10 _ rfl
  have y11 := S5.cell 11 _ rfl
  have y12 := S5.cell 12 _ rfl
  have y13 := S5.cell 13 _ rfl
  have y14 := S5.cell 14 _ rfl
  have y15 := S5.cell 15 _ rfl
  have x0 := (S5.bring 2).cell 0 _ rfl
  have x1 := (S5.bring 2).cell 1 _ rfl
  have x2 := (S5.bring 2).cell 2 _ rfl
  have x3 := (S5.bring 2).cell 3 _ rfl
  have x4 := (S5.bring 2).cell 4 _ rfl
  have x5 := (S5.bring 2).cell 5 _ rfl
  have x6 := (S5.bring 2).cell 6 _ rfl
  have x7 := (S5.bring 2).cell 7 _ rfl
  go_wp2_with fail
  refine (answer_early S5 (.inr (.inr hne)) (ptr b) ah).mono ?_
  rintro e w6 ⟨rfl, S6⟩
  clear S5 x0 x1 x2 x3 x4 x5 x6 x7 y0 y1 y2 y3 y4 y5 y6 y7 y8 y9 y10 y11 y12 y13 y14 y15
  have x0 := (S6.bring 2).cell 0 _ rfl
  have xf := (S6.bring 2).cells_fz 0
  have S7 := (S6.bring 2).setc 0 (.int .i64 1)
  go_upto_region 10 with fail
  generalize w6.setCell ⟨cb, 0, none⟩ (.int .i64 1) = w7 at *
  clear S6 x0 xf
  have y0 := (S7.bring 1).cell 0 _ rfl
  have yf := (S7.bring 1).cells_fz 0
  have S8 := (S7.bring 1).setc 0 (.int .i64 0)
  go_upto_region 11 with fail
  generalize w7.setCell ⟨ab, 0, none⟩ (.int .i64 0) = w8 at *
  clear S7 y0 yf
  have y0 := S8.cell 0 _ rfl
  have y1 := S8.cell 1 _ rfl
  have y2 := S8.cell 2 _ rfl
  have y3 := S8.cell 3 _ rfl
  have y4 := S8.cell 4 _ rfl
  have y5 := S8.cell 5 _ rfl
  have y6 := S8.cell 6 _ rfl
  have y7 := S8.cell 7 _ rfl
  have y8 := S8.cell 8 _ rfl
  have y9 := S8.cell 9 _ rfl
  have y10 := S8.cell 10 _ rfl
  have y11 := S8.cell 11 _ rfl
  have y12 := S8.cell 12 _ rfl
  have y13 := S8.cell 13 _ rfl
  have y14 := S8.cell 14 _ rfl
  have y15 := S8.cell 15 _ rfl
  have x0 := (S8.bring 1).cell 0 _ rfl
  have x1 := (S8.bring 1).cell 1 _ rfl
  have x2 := (S8.bring 1).cell 2 _ rfl
  have x3 := (S8.bring 1).cell 3 _ rfl
  have x4 := (S8.bring 1).cell 4 _ rfl
  have x5 := (S8.bring 1).cell 5 _ rfl
  have x6 := (S8.bring 1).cell 6 _ rfl
  have x7 := (S8.bring 1).cell 7 _ rfl
  go_wp2_with fail
  refine (answer_early S8 (.inl rfl) (ptr b) ah).mono ?_
  rintro e w9 ⟨rfl, S9⟩
  clear S8 x0 x1 x2 x3 x4 x5 x6 x7 y0 y1 y2 y3 y4 y5 y6 y7 y8 y9 y10 y11 y12 y13 y14 y15
  have x0 := (S9.bring 1).cell 0 _ rfl
  have xf := (S9.bring 1).cells_fz 0
  have S10 := (S9.bring 1).setc 0 (.int .i64 2)
  go_upto_region 14 with fail
  generalize w9.setCell ⟨cb, 0, none⟩ (.int .i64 2) = w10 at *
  clear S9 x0 xf
  have x0 := S10.cell 0 _ rfl
  have x1 := S10.cell 1 _ rfl
  have x2 := S10.cell 2 _ rfl
  have x3 := S10.cell 3 _ rfl
  have x4 := S10.cell 4 _ rfl
  have x5 := S10.cell 5 _ rfl
  have x6 := S10.cell 6 _ rfl
  have x7 := S10.cell 7 _ rfl
  have y0 := (S10.bring 1).cell 0 _ rfl
  have y1 := (S10.bring 1).cell 1 _ rfl
  have y2 := (S10.bring 1).cell 2 _ rfl
  have y3 := (S10.bring 1).cell 3 _ rfl
  have y4 := (S10.bring 1).cell 4 _ rfl
  have y5 := (S10.bring 1).cell 5 _ rfl
  have y6 := (S10.bring 1).cell 6 _ rfl
  have y7 := (S10.bring 1).cell 7 _ rfl
  have y8 := (S10.bring 1).cell 8 _ rfl
  have y9 := (S10.bring 1).cell 9 _ rfl
  have y10 := (S10.bring 1).cell 10 _ rfl
  have y11 := (S10.bring 1).cell 11 _ rfl
  have y12 := (S10.bring 1).cell 12 _ rfl
  have y13 := (S10.bring 1).cell 13 _ rfl
  have y14 := (S10.bring 1).cell 14 _ rfl
  have y15 := (S10.bring 1).cell 15 _ rfl
  go_wp2_with fail
  refine (answer_early S10 (.inr (.inl rfl)) (ptr b) ah).mono ?_
  rintro e w11 ⟨rfl, S11⟩
  clear S10 x0 x1 x2 x3 x4 x5 x6 x7 y0 y1 y2 y3 y4 y5 y6 y7 y8 y9 y10 y11 y12 y13 y14 y15
  go_wp2_with fail
  refine (read_early S11 rfl (ptr b) _ _).mono ?_
  rintro e w12 ⟨rfl, S12⟩
  clear S11
  go_wp2_with fail
  refine (j_wrong (S12.bring 2)).mono ?_
  rintro e w13 ⟨rfl, S13⟩
  clear S12
  go_wp2_with fail
  refine (j_told S13).mono ?_
  rintro e w14 ⟨rfl, S14⟩
  have HS := hide (Sat.keep_all S14.drop.drop.drop)
  clear S13 S14
  go_wp2_with fail
  go_ret
  exact ⟨rfl, HS.out⟩
end Go.Proofs.YthgiamofndhehaaGreatDoor
