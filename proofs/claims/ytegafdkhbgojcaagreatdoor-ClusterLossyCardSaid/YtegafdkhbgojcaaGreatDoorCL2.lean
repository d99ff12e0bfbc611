/- The statement ClusterLossy where each 1-th message is lost: the runs. No condition. -/
import Derived.Test.YtegafdkhbgojcaaGreatDoorCLS
set_option linter.unusedVariables false
set_option maxRecDepth 100000
namespace Go.Proofs.YtegafdkhbgojcaaGreatDoor.Ek
open Go.Proofs.YtegafdkhbgojcaaGreatDoor.Ex
namespace L1
def n : AV := clI 1
noncomputable def e0 : List (Nat × AB) := [(14, .c [.sn, .i .i64 (.ofNat 0), .i .i64 (.ofNat 0), .sl 52215 0 3 1 none, .sl 52222 0 3 1 none, .sn, .i .i64 (.ofNat 1), .i .i64 (.ofNat 0)])]
noncomputable def e1 : List (Nat × AB) := [(14, .c [.sn, .i .i64 (.ofNat 0), .i .i64 (.ofNat 0), .sl 52215 0 3 1 none, .sl 52222 0 3 1 none, .sn, .i .i64 (.ofNat 1), .i .i64 (.ofNat 2)])]
noncomputable def e2 : List (Nat × AB) := [(14, .c [.sn, .i .i64 (.ofNat 0), .i .i64 (.ofNat 0), .sl 52215 0 3 1 none, .sl 52222 0 3 1 none, .sn, .i .i64 (.ofNat 1), .i .i64 (.ofNat 4)])]
noncomputable def e3 : List (Nat × AB) := [(14, .c [.sn, .i .i64 (.ofNat 0), .i .i64 (.ofNat 0), .sl 52215 0 3 1 none, .sl 52222 0 3 1 none, .sn, .i .i64 (.ofNat 1), .i .i64 (.ofNat 6)])]
noncomputable def e4 : List (Nat × AB) := [(14, .c [.sn, .i .i64 (.ofNat 0), .i .i64 (.ofNat 0), .sl 52215 0 3 1 none, .sl 52222 0 3 1 none, .sn, .i .i64 (.ofNat 1), .i .i64 (.ofNat 8)])]
noncomputable def e5 : List (Nat × AB) := [(14, .c [.sn, .i .i64 (.ofNat 0), .i .i64 (.ofNat 0), .sl 52215 0 3 1 none, .sl 52222 0 3 1 none, .sn, .i .i64 (.ofNat 1), .i .i64 (.ofNat 10)])]
noncomputable def e6 : List (Nat × AB) := [(14, .c [.sn, .i .i64 (.ofNat 0), .i .i64 (.ofNat 0), .sl 52215 0 3 1 none, .sl 52222 0 3 1 none, .sn, .i .i64 (.ofNat 1), .i .i64 (.ofNat 12)])]
theorem st : clQ (clA0 e0 n (.x 7)) (clt8 n (.x 7)) 11 = true := by kernel_rfl
theorem q0 : clR 0 1741 (clG0 n) (clA0 e0 n) (clB0 e0 n) (clA1 e0 n (.x 7)) = true := by kernel_rfl
theorem q1 : clR 1 1741 (clG1 n) (clA1 e0 n) (clB1 e0 n) (clA2 e0 n (.x 7)) = true := by kernel_rfl
theorem q2 : clR 2 1741 (clG2 n) (clA2 e0 n) (clB2 e0 n) (clA3 e0 n (.x 7)) = true := by kernel_rfl
theorem q3 : clR 3 1741 (clG3 n) (clA3 e0 n) (clB3 e0 n) (clA4 e0 n (.x 7)) = true := by kernel_rfl
theorem q4 : clR 4 1741 (clG4 n) (clA4 e0 n) (clB4 e0 n) (clA5 e0 n (.x 7)) = true := by kernel_rfl
theorem q5 : clR 5 1741 (clG5 n) (clA5 e0 n) (clB5 e0 n) (clA6 e0 n (.x 7)) = true := by kernel_rfl
theorem q6 : clR 6 1741 (clG6 n) (clA6 e0 n) (clB6 e0 n) (clA7 e0 n (.x 7)) = true := by kernel_rfl
theorem q7 : clR 7 1741 (clG7 n) (clA7 e0 n) (clB7 e0 n) (clA8 e0 n (.x 7)) = true := by kernel_rfl
theorem q8 : clR 8 1741 (clG8 n) (clA8 e0 n) (clB8 e0 n) (clA9 e0 n (.x 7)) = true := by kernel_rfl
theorem q9 : clR 9 1741 (clG9 n) (clA9 e0 n) (clB9 e0 n) (clA10 e0 n (.x 7)) = true := by kernel_rfl
theorem q10 : clR 10 1741 (clG10 n) (clA10 e0 n) (clB10 e0 n) (clA11 e0 n (.x 7)) = true := by kernel_rfl
theorem q11 : clH 11 (clG11 n) (clA11 e0 n) (clB11 e0 n) = true := by kernel_rfl
theorem r11 : clQ (clM11 e1 n 140484) (clB11 e0 n) 3288 = true := by kernel_rfl
theorem s11 : clQ (clA12 e1 n (.x 7)) (clM11 e1 n 140688) 2283 = true := by kernel_rfl
theorem q12 : clH 12 (clG12 n) (clA12 e1 n) (clB12 e1 n) = true := by kernel_rfl
theorem r12 : clQ (clM12 e2 n 146406) (clB12 e1 n) 2146 = true := by kernel_rfl
theorem s12 : clQ (clA13 e2 n (.x 7)) (clM12 e2 n 146634) 3435 = true := by kernel_rfl
theorem q13 : clR 13 1741 (clG13 n) (clA13 e2 n) (clB13 e2 n) (clA14 e2 n (.x 7)) = true := by kernel_rfl
theorem q14 : clR 14 1741 (clG14 n) (clA14 e2 n) (clB14 e2 n) (clA15 e2 n (.x 7)) = true := by kernel_rfl
theorem q15 : clR 15 1741 (clG15 n) (clA15 e2 n) (clB15 e2 n) (clA16 e2 n (.x 7)) = true := by kernel_rfl
theorem q16 : clR 16 1741 (clG16 n) (clA16 e2 n) (clB16 e2 n) (clA17 e2 n (.x 7)) = true := by kernel_rfl
theorem q17 : clH 17 (clG17 n) (clA17 e2 n) (clB17 e2 n) = true := by kernel_rfl
theorem r17 : clQ (clM17 e3 n 166583) (clB17 e2 n) 2717 = true := by kernel_rfl
theorem s17 : clQ (clA18 e3 n (.x 7)) (clM17 e3 n 166811) 2864 = true := by kernel_rfl
theorem q18 : clR 18 1741 (clG18 n) (clA18 e3 n) (clB18 e3 n) (clA19 e3 n (.x 7)) = true := by kernel_rfl
theorem q19 : clR 19 1741 (clG19 n) (clA19 e3 n) (clB19 e3 n) (clA20 e3 n (.x 7)) = true := by kernel_rfl
theorem q20 : clR 20 1741 (clG20 n) (clA20 e3 n) (clB20 e3 n) (clA21 e3 n (.x 7)) = true := by kernel_rfl
theorem q21 : clR 21 1741 (clG21 n) (clA21 e3 n) (clB21 e3 n) (clA22 e3 n (.x 7)) = true := by kernel_rfl
theorem q22 : clR 22 1741 (clG22 n) (clA22 e3 n) (clB22 e3 n) (clA23 e3 n (.x 7)) = true := by kernel_rfl
theorem q23 : clR 23 1741 (clG23 n) (clA23 e3 n) (clB23 e3 n) (clA24 e3 n (.x 7)) = true := by kernel_rfl
theorem q24 : clR 24 1741 (clG24 n) (clA24 e3 n) (clB24 e3 n) (clA25 e3 n (.x 7)) = true := by kernel_rfl
theorem q25 : clR 25 1741 (clG25 n) (clA25 e3 n) (clB25 e3 n) (clA26 e3 n (.x 7)) = true := by kernel_rfl
theorem q26 : clH 26 (clG26 n) (clA26 e3 n) (clB26 e3 n) = true := by kernel_rfl
theorem r26 : clQ (clM26 e4 n 198144) (clB26 e3 n) 3288 = true := by kernel_rfl
theorem s26 : clQ (clA27 e4 n (.x 7)) (clM26 e4 n 198372) 2293 = true := by kernel_rfl
theorem q27 : clH 27 (clG27 n) (clA27 e4 n) (clB27 e4 n) = true := by kernel_rfl
theorem r27 : clQ (clM27 e5 n 205055) (clB27 e4 n) 2717 = true := by kernel_rfl
theorem s27 : clQ (clA28 e5 n (.x 7)) (clM27 e5 n 205283) 2864 = true := by kernel_rfl
theorem q28 : clH 28 (clG28 n) (clA28 e5 n) (clB28 e5 n) = true := by kernel_rfl
theorem r28 : clQ (clM28 e6 n 211966) (clB28 e5 n) 2146 = true := by kernel_rfl
theorem s28 : clQ (clA29 e6 n (.x 7)) (clM28 e6 n 212194) 3435 = true := by kernel_rfl
theorem q29 : clR 29 1741 (clG29 n) (clA29 e6 n) (clB29 e6 n) (clA30 e6 n (.x 7)) = true := by kernel_rfl
theorem q30 : clR 30 1741 (clG30 n) (clA30 e6 n) (clB30 e6 n) (clA31 e6 n (.x 7)) = true := by kernel_rfl
theorem q31 : clH 31 (clG31 n) (clA31 e6 n) (clA31 e6 n (.x 7)) = true := by kernel_rfl
theorem g31 : GoodFrom 31 (clA31 e6 n (.x 7)) := gf_head (g := clG31 n) q31 fun h => absurd h (by decide)
theorem g30 : GoodFrom 30 (clA30 e6 n (.x 7)) := gf_round (g := clG30 n) q30 g31
theorem g29 : GoodFrom 29 (clA29 e6 n (.x 7)) := gf_round (g := clG29 n) q29 g30
theorem g28 : GoodFrom 28 (clA28 e5 n (.x 7)) := gf_head (g := clG28 n) q28 fun _ => gf_run r28 (gf_pad (nx' := 212194) (gf_run s28 g29) rfl)
theorem g27 : GoodFrom 27 (clA27 e4 n (.x 7)) := gf_head (g := clG27 n) q27 fun _ => gf_run r27 (gf_pad (nx' := 205283) (gf_run s27 g28) rfl)
theorem g26 : GoodFrom 26 (clA26 e3 n (.x 7)) := gf_head (g := clG26 n) q26 fun _ => gf_run r26 (gf_pad (nx' := 198372) (gf_run s26 g27) rfl)
theorem g25 : GoodFrom 25 (clA25 e3 n (.x 7)) := gf_round (g := clG25 n) q25 g26
theorem g24 : GoodFrom 24 (clA24 e3 n (.x 7)) := gf_round (g := clG24 n) q24 g25
theorem g23 : GoodFrom 23 (clA23 e3 n (.x 7)) := gf_round (g := clG23 n) q23 g24
theorem g22 : GoodFrom 22 (clA22 e3 n (.x 7)) := gf_round (g := clG22 n) q22 g23
theorem g21 : GoodFrom 21 (clA21 e3 n (.x 7)) := gf_round (g := clG21 n) q21 g22
theorem g20 : GoodFrom 20 (clA20 e3 n (.x 7)) := gf_round (g := clG20 n) q20 g21
theorem g19 : GoodFrom 19 (clA19 e3 n (.x 7)) := gf_round (g := clG19 n) q19 g20
theorem g18 : GoodFrom 18 (clA18 e3 n (.x 7)) := gf_round (g := clG18 n) q18 g19
theorem g17 : GoodFrom 17 (clA17 e2 n (.x 7)) := gf_head (g := clG17 n) q17 fun _ => gf_run r17 (gf_pad (nx' := 166811) (gf_run s17 g18) rfl)
theorem g16 : GoodFrom 16 (clA16 e2 n (.x 7)) := gf_round (g := clG16 n) q16 g17
theorem g15 : GoodFrom 15 (clA15 e2 n (.x 7)) := gf_round (g := clG15 n) q15 g16
theorem g14 : GoodFrom 14 (clA14 e2 n (.x 7)) := gf_round (g := clG14 n) q14 g15
theorem g13 : GoodFrom 13 (clA13 e2 n (.x 7)) := gf_round (g := clG13 n) q13 g14
theorem g12 : GoodFrom 12 (clA12 e1 n (.x 7)) := gf_head (g := clG12 n) q12 fun _ => gf_run r12 (gf_pad (nx' := 146634) (gf_run s12 g13) rfl)
theorem g11 : GoodFrom 11 (clA11 e0 n (.x 7)) := gf_head (g := clG11 n) q11 fun _ => gf_run r11 (gf_pad (nx' := 140688) (gf_run s11 g12) rfl)
theorem g10 : GoodFrom 10 (clA10 e0 n (.x 7)) := gf_round (g := clG10 n) q10 g11
theorem g9 : GoodFrom 9 (clA9 e0 n (.x 7)) := gf_round (g := clG9 n) q9 g10
theorem g8 : GoodFrom 8 (clA8 e0 n (.x 7)) := gf_round (g := clG8 n) q8 g9
theorem g7 : GoodFrom 7 (clA7 e0 n (.x 7)) := gf_round (g := clG7 n) q7 g8
theorem g6 : GoodFrom 6 (clA6 e0 n (.x 7)) := gf_round (g := clG6 n) q6 g7
theorem g5 : GoodFrom 5 (clA5 e0 n (.x 7)) := gf_round (g := clG5 n) q5 g6
theorem g4 : GoodFrom 4 (clA4 e0 n (.x 7)) := gf_round (g := clG4 n) q4 g5
theorem g3 : GoodFrom 3 (clA3 e0 n (.x 7)) := gf_round (g := clG3 n) q3 g4
theorem g2 : GoodFrom 2 (clA2 e0 n (.x 7)) := gf_round (g := clG2 n) q2 g3
theorem g1 : GoodFrom 1 (clA1 e0 n (.x 7)) := gf_round (g := clG1 n) q1 g2
theorem g0 : GoodFrom 0 (clA0 e0 n (.x 7)) := gf_round (g := clG0 n) q0 g1
end L1
theorem cl1all : GoodFrom 0 (clt8 (clI 1) (.x 7)) := gf_run L1.st L1.g0

end Go.Proofs.YtegafdkhbgojcaaGreatDoor.Ek
