/- The statements' own model of a table of sessions: an act of both, of kind 4. No condition. -/
import Derived.Test.YtcnehacblodiaaaModelDo
set_option linter.unusedVariables false
set_option linter.unusedSimpArgs false
namespace Go.Proofs.Ytcnehacblodiaaa
open Go.RowKit

set_option maxRecDepth 100000 in
set_option maxHeartbeats 4000000 in
theorem s_do4 {g w : World} {L : List Asn} {t mb mp : Nat} {A : Option Addr} {cap : Nat} {l m : Tab} (S : Sat g w (mboxA mp l A cap :: mrowA l A cap :: boxA t mb :: tabA mb m :: L)) (hl : l.length ≤ 16) (ak id req : Int) (ans : List UInt8) (ha : ans.length ≤ 9223372036854775807) (hkd : ∀ j : Int, 0 ≤ j → j ≤ 3 → wrap64 ((IntKind.u64.wrap ak).tmod 5) ≠ j) :
    Calls Try.prog 14 #[ptr mp, ptr t, .agg #[.int .i64 ak, .int .i64 id, .int .i64 req, .string (Go.Proofs.Ytcnehacblodiaaa.S ans)]] w fun e w' => ∃ (A' : Option Addr) (cap' : Nat), e = .returned (.bool (doB (wrap64 ((IntKind.u64.wrap ak).tmod 5)) l m id req ans)) ∧ Sat g w' (mboxA mp (doL (wrap64 ((IntKind.u64.wrap ak).tmod 5)) l id req ans) A' cap' :: mrowA (doL (wrap64 ((IntKind.u64.wrap ak).tmod 5)) l id req ans) A' cap' :: boxA t mb :: tabA mb (doM (wrap64 ((IntKind.u64.wrap ak).tmod 5)) m id req ans) :: L) := by
  have S1 := S.box #[.int .i64 ak, .int .i64 id, .int .i64 req, .string (Go.Proofs.Ytcnehacblodiaaa.S ans)] 38 rfl
  go_enter Try.func14, Try.ntmps14
  go_wp2_with fail
  refine (at_model S1.b4 id hl).mono ?_
  rintro e w1 ⟨rfl, hk1⟩
  have S2 := S1.b4.keep hk1
  generalize w.heap.size = ab at *
  have c0 : w1.cell? ⟨ab, 0, none⟩ = some (.int .i64 ak) := S2.p4.cell 0 _ rfl
  have c1 : w1.cell? ⟨ab, 1, none⟩ = some (.int .i64 id) := S2.p4.cell 1 _ rfl
  have c2 : w1.cell? ⟨ab, 2, none⟩ = some (.int .i64 req) := S2.p4.cell 2 _ rfl
  have c3 : w1.cell? ⟨ab, 3, none⟩ = some (.string (Go.Proofs.Ytcnehacblodiaaa.S ans)) := S2.p4.cell 3 _ rfl
  have m0 : w1.cell? ⟨mp, 0, none⟩ = some (.slice A l.length cap) := S2.cell 0 _ rfl
  obtain ⟨hcap, hcm, hAn⟩ : l.length ≤ cap ∧ cap ≤ 9223372036854775807 ∧ (A = none → l.length = 0 ∧ cap = 0) := by
    obtain ⟨A', cap', e', q1, q2, q3, _⟩ := S2.p1.row.form
    injection e' with e1 e2 e3
    subst e1 e3
    refine ⟨q1, q2, fun h0 => ?_⟩
    subst h0
    rcases S2.p1.row.2 with ⟨h, h'⟩ | ⟨b, c, cur, h, _⟩
    · injection h with _ _ h
      exact ⟨h', h⟩
    · cases h
  have HAN := hide hAn
  clear hk1 S1 S hAn
  have hi1 : -1 ≤ atF l id ∧ atF l id < 16 ∧ (atF l id < 0 → id ∉ keys l) ∧ (0 ≤ atF l id → id ∈ keys l) := by
    by_cases hid : id ∈ keys l
    · obtain ⟨k, s, h1, _, _, h4⟩ := atF_some hid
      rw [h1]; exact ⟨by omega, by omega, fun h => by omega, fun _ => hid⟩
    · rw [atF_none hid]; exact ⟨by omega, by omega, fun _ => hid, fun h => by omega⟩
  obtain ⟨hi1, hi2, hi3, hi4⟩ := hi1
  have HI3 := hide hi3
  have HI4 := hide hi4
  clear hi3 hi4
  obtain ⟨I, hI⟩ : ∃ I, I = atF l id := ⟨_, rfl⟩
  rw [← hI] at hi1 hi2 HI3 HI4
  rw [← hI]
  have HI := hide hI
  clear hI
  go_upto_block 0 with fail
  obtain ⟨kd, hkde⟩ : ∃ kd, wrap64 ((IntKind.u64.wrap ak).tmod 5) = kd := ⟨_, rfl⟩
  rw [hkde] at hkd ⊢
  have HKE := hide hkde
  clear hkde
  have n0 := hkd 0 (by decide) (by decide)
  have n1 := hkd 1 (by decide) (by decide)
  have n2 := hkd 2 (by decide) (by decide)
  have n3 := hkd 3 (by decide) (by decide)
  have b0 : (kd == 0) = false := by simpa using n0
  have b1 : (kd == 1) = false := by simpa using n1
  have b2 : (kd == 2) = false := by simpa using n2
  have b3 : (kd == 3) = false := by simpa using n3
  have HB : Hid (doB kd l m id req ans = decide (seenF m id req = seenF l id req)) := by show _ = _; simp [doB, n0, n1, n2, n3]
  have HL : Hid (doL kd l id req ans = l) := by show _ = _; simp [doL, n0, n1, n2, n3]
  have HM : Hid (doM kd m id req ans = m) := by show _ = _; simp [doM, n0, n1, n2, n3]
  clear hkd n0 n1 n2 n3
  go_wp2_with fail
  refine (s_seen S2.p3.p3 id req).mono ?_
  rintro e w3 ⟨rfl, S3⟩
  have S4 := S3.p3.p3
  have c1 : w3.cell? ⟨ab, 1, none⟩ = some (.int .i64 id) := S4.p4.cell 1 _ rfl
  have c2 : w3.cell? ⟨ab, 2, none⟩ = some (.int .i64 req) := S4.p4.cell 2 _ rfl
  generalize seenF m id req = X at *
  obtain ⟨x1, x2, x3⟩ := X
  clear S2 S3
  go_wp2_with fail
  refine (seen_model S4 id req hl).mono ?_
  rintro e w5 ⟨rfl, hk⟩
  have S5 := S4.keep hk
  generalize seenF l id req = Y at *
  obtain ⟨y1, y2, y3⟩ := Y
  clear hk
  go_wp2_with fail
  all_goals
    go_ret
    refine ⟨A, cap, ?_, by rw [HKE.out, HL.out, HM.out]; exact S5.p4.drop⟩
    rw [HKE.out, HB.out]
    refine congrArg (fun b => Ending.returned (.bool b)) ?_
    rw [Bool.eq_iff_iff]
    simp_all

end Go.Proofs.Ytcnehacblodiaaa
