/- An answer that is bad at once, walked; what is kept is short. No condition. -/
import Derived.Test.YtanlobdidjednaaGreatDoorJuN
set_option linter.unusedVariables false
set_option linter.unusedSimpArgs false
namespace Go.Proofs.YtanlobdidjednaaGreatDoor
open Go.RowKit

set_option maxRecDepth 100000 in
set_option maxHeartbeats 4000000 in
theorem answer_bad {g w : World} {L : List Asn} {b : Nat} {m : JTx} {ss : List StT} {told wrong : Int} {kd ss0 rq nt re rw at_ : Int} {cops cpath ck co r1 r2 r3 n0 n1 n2 n3 n4 n5 n6 kv ev ld : Value} (S0 : Sat g w (judgeA b m ss told wrong :: L)) (h1 : kd ≠ 1) (h2 : kd ≠ 2) (h3 : re = 0) (ah : Int) (h4 : rw ≤ ah ∨ at_ < rw) :
    Calls Tryz.prog 11 #[ptr b, .agg #[.int .i64 kd, .int .i64 ss0, .int .i64 rq, .int .i64 nt, cops, cpath, ck, co], .agg #[.int .i64 re, r1, r2, r3, .int .i64 rw, n0, n1, n2, n3, n4, n5, n6, kv, ev, .int .i64 at_, ld], .int .i64 ah] w fun e w' => e = .returned (.bool false) ∧ Sat g w' (judgeA b m ss told 6 :: L) := by
  subst h3
  have S1 := S0.box #[.int .i64 kd, .int .i64 ss0, .int .i64 rq, .int .i64 nt, cops, cpath, ck, co] 35 rfl
  have S2 := S1.box #[.int .i64 0, r1, r2, r3, .int .i64 rw, n0, n1, n2, n3, n4, n5, n6, kv, ev, .int .i64 at_, ld] 49 rfl
  have y0 := S2.cell 0 _ rfl
  have y4 := S2.cell 4 _ rfl
  have y14 := S2.cell 14 _ rfl
  have x0 := (S2.bring 1).cell 0 _ rfl
  have k1 : (kd == 1) = false := by simpa using h1
  have k2 : (kd == 2) = false := by simpa using h2
  have HS := hide S2
  clear S0 S1 S2 h1 h2
  by_cases h6 : rw ≤ ah
  · clear h4
    go_enter Tryz.func11, Tryz.ntmps11
    go_wp2_with fail
    refine (j_bad (HS.out.bring 2) true).mono ?_
    rintro e w1 ⟨rfl, S3⟩
    obtain ⟨tb, eb, A, c, ps, h, hl2, S5⟩ := S3.judgeOpen
    have x4 := S5.cell 4 _ rfl
    clear y0 y4 y14 x0 S5
    go_wp2_with fail
    go_ret
    exact ⟨rfl, ((S3.bring 1).drop.bring 1).drop⟩
  · have h7 : at_ < rw := by omega
    clear h4
    go_enter Tryz.func11, Tryz.ntmps11
    go_wp2_with fail
    refine (j_bad (HS.out.bring 2) true).mono ?_
    rintro e w1 ⟨rfl, S3⟩
    obtain ⟨tb, eb, A, c, ps, h, hl2, S5⟩ := S3.judgeOpen
    have x4 := S5.cell 4 _ rfl
    clear y0 y4 y14 x0 S5
    go_wp2_with fail
    go_ret
    exact ⟨rfl, ((S3.bring 1).drop.bring 1).drop⟩
theorem FitS.seen_le {s : StT} {kk mm : Nat} (h : FitS s kk mm) (id rq : Int) : (seenF s.tab id rq).1.length ≤ 1000000 := by
  obtain ⟨M, n, hM, -, -⟩ := h.it
  unfold seenF
  cases hm : mget s.tab id with
  | none => simp
  | some v =>
    have h1 := hM.kept _ (mget_mem hm)
    simp only at h1 ⊢
    split
    · simp
    · split
      · simp
      · split
        · simp only; omega
        · simp
theorem wrap_ne (e : Int) : IntKind.i64.wrap (e + 1) ≠ e := by
  simp only [IntKind.wrap, IntKind.signed, IntKind.bits]
  simp
  split <;> omega
end Go.Proofs.YtanlobdidjednaaGreatDoor
