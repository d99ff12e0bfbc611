/- A new judge; what is not held against anything, walked. No condition. -/
import Derived.Test.YtanlobdidjednaaGreatDoorJuD
set_option linter.unusedVariables false
set_option linter.unusedSimpArgs false
namespace Go.Proofs.YtanlobdidjednaaGreatDoor
open Go.RowKit

section
variable {g w : World} {L : List Asn} {b : Nat} {m : JTx} {ss : List StT} {told wrong : Int}
set_option maxRecDepth 100000 in
set_option maxHeartbeats 4000000 in
theorem new_j (S0 : Sat g w L) : Calls Tryz.prog 7 #[] w fun e w' => ∃ b, e = .returned (ptr b) ∧ Sat g w' (judgeA b [] [st0] 0 0 :: L) := by
  have hmm := @run_makeMap Tryz.prog
  go_enter Tryz.func7, Tryz.ntmps7
  have S1 : Sat g (w.alloc (.map #[] 0)) (mapA kI tW w.heap.size ([] : JTx) :: L) := S0.mapNew ((Keeps.refl _ _).alloc _) (Nat.le_refl _) (MapOf.made kI tW w)
  go_wp2_with fail
  generalize w.alloc (.map #[] 0) = w1 at *
  generalize w.heap.size = tb at *
  refine (s_newst S1).mono ?_
  rintro e w2 ⟨sb, rfl, S2⟩
  clear S0 S1
  have S3 := (S2.box #[ptr sb] 43 rfl).rowOf 1 1 rfl (by unfold maxLen; omega)
  have S4 := S3.mapNew ((Keeps.refl _ _).alloc _) (Nat.le_refl _) (MapOf.made kI evW (w2.alloc (.cells #[ptr sb] 43)))
  have e1 : (w2.alloc (.cells #[ptr sb] 43)).heap.size = w2.heap.size + 1 := by simp
  rw [e1] at S4
  have S5 := S4.box #[.map (some tb), .slice (some ⟨w2.heap.size, 0, none⟩) 1 1, .map (some (w2.heap.size + 1)), .int .i64 0, .int .i64 0] 62 (b := w2.heap.size + 1 + 1) (by simp)
  have HS := hide S5
  clear S2 S3 S4 S5
  go_wp2_with fail
  go_ret
  refine ⟨_, rfl, ?_⟩
  have S6 := HS.out
  have S7 : Sat g _ (evsA _ (2000 * [st0].length) :: _) := Sat.evsShut (x := []) (by simp) (((S6.bring 1).starNil).p1)
  have S8 : Sat g _ (jS [(sb, st0)] :: _) := Sat.restar (L1 := []) ((S7.bring 3).starNil.p1)
  exact Sat.judgeShut (ps := [(sb, st0)]) rfl (((S8.bring 3).bring 4).bring 4)

/-- what is no answer to a command is held against nothing -/
theorem answer_early {kd ss0 rq nt re rw at_ : Int} {cops cpath ck co r1 r2 r3 n0 n1 n2 n3 n4 n5 n6 kv ev ld : Value} (S0 : Sat g w L) (h : kd = 1 ∨ kd = 2 ∨ re ≠ 0) (jv : Value) (ah : Int) :
    Calls Tryz.prog 11 #[jv, .agg #[.int .i64 kd, .int .i64 ss0, .int .i64 rq, .int .i64 nt, cops, cpath, ck, co], .agg #[.int .i64 re, r1, r2, r3, .int .i64 rw, n0, n1, n2, n3, n4, n5, n6, kv, ev, .int .i64 at_, ld], .int .i64 ah] w fun e w' => e = .returned (.bool true) ∧ Sat g w' L := by
  have S1 := S0.box #[.int .i64 kd, .int .i64 ss0, .int .i64 rq, .int .i64 nt, cops, cpath, ck, co] 35 rfl
  have S2 := S1.box #[.int .i64 re, r1, r2, r3, .int .i64 rw, n0, n1, n2, n3, n4, n5, n6, kv, ev, .int .i64 at_, ld] 49 rfl
  have y0 := S2.cell 0 _ rfl
  have x0 := (S2.bring 1).cell 0 _ rfl
  have HS := hide S2.drop.drop
  clear S0 S1 S2
  by_cases h1 : kd = 1
  · subst h1
    clear h
    go_enter Tryz.func11, Tryz.ntmps11
    go_wp2_with fail
    go_ret
    exact ⟨rfl, HS.out⟩
  · have k1 : (kd == 1) = false := by simpa using h1
    by_cases h2 : kd = 2
    · subst h2
      clear h h1
      go_enter Tryz.func11, Tryz.ntmps11
      go_wp2_with fail
      go_ret
      exact ⟨rfl, HS.out⟩
    · have k2 : (kd == 2) = false := by simpa using h2
      have k3 : (re != 0) = true := by
        rcases h with h | h | h
        · exact absurd h h1
        · exact absurd h h2
        · simpa using h
      clear h h1 h2
      go_enter Tryz.func11, Tryz.ntmps11
      go_wp2_with fail
      go_ret
      exact ⟨rfl, HS.out⟩
set_option maxRecDepth 100000 in
set_option maxHeartbeats 4000000 in
/-- an answer about what is not known yet -/
theorem answer_far {kd ss0 rq nt re rw at_ : Int} {cops cpath ck co r1 r2 r3 n0 n1 n2 n3 n4 n5 n6 kv ev ld : Value} (S0 : Sat g w (judgeA b m ss told 0 :: L)) (hl : ss.length ≤ 1000000) (h1 : kd ≠ 1) (h2 : kd ≠ 2) (h3 : re = 0) (ah : Int) (h4 : ah < rw) (h5 : rw ≤ at_) (h6 : (ss.length : Int) - 1 < rw) :
    Calls Tryz.prog 11 #[ptr b, .agg #[.int .i64 kd, .int .i64 ss0, .int .i64 rq, .int .i64 nt, cops, cpath, ck, co], .agg #[.int .i64 re, r1, r2, r3, .int .i64 rw, n0, n1, n2, n3, n4, n5, n6, kv, ev, .int .i64 at_, ld], .int .i64 ah] w fun e w' => e = .returned (.bool true) ∧ Sat g w' (judgeA b m ss told 0 :: L) := by
  subst h3
  have S1 := S0.box #[.int .i64 kd, .int .i64 ss0, .int .i64 rq, .int .i64 nt, cops, cpath, ck, co] 35 rfl
  have S2 := S1.box #[.int .i64 0, r1, r2, r3, .int .i64 rw, n0, n1, n2, n3, n4, n5, n6, kv, ev, .int .i64 at_, ld] 49 rfl
  have y0 := S2.cell 0 _ rfl
  have y4 := S2.cell 4 _ rfl
  have y14 := S2.cell 14 _ rfl
  have x0 := (S2.bring 1).cell 0 _ rfl
  have k1 : (kd == 1) = false := by simpa using h1
  have k2 : (kd == 2) = false := by simpa using h2
  have HS := hide S2
  have h4' : ¬ rw ≤ ah := by omega
  have h5' : ¬ at_ < rw := by omega
  clear S0 S1 S2 h1 h2 h4 h5
  go_enter Tryz.func11, Tryz.ntmps11
  go_wp2_with fail
  refine (j_bad (HS.out.bring 2) false).mono ?_
  rintro e w1 ⟨rfl, S3⟩
  have y0 := (S3.bring 1).cell 0 _ rfl
  have y4 := (S3.bring 1).cell 4 _ rfl
  clear x0
  go_wp2_with fail
  refine (j_known S3 hl).mono ?_
  rintro e w2 ⟨rfl, S4⟩
  obtain ⟨tb, eb, A, c, ps, h, hl2, S5⟩ := S4.judgeOpen
  have x4 := S5.cell 4 _ rfl
  clear y0 y4 S3 S5
  go_wp2_with fail
  go_ret
  exact ⟨rfl, ((S4.bring 1).drop.bring 1).drop⟩
end
end Go.Proofs.YtanlobdidjednaaGreatDoor
