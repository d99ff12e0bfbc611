/- The statements' own model of a table of sessions: an act of both, of kind 2. No condition. -/
import Derived.Test.YtcnehacblodiaaaModelDo
import Derived.Test.YtcnehacblodiaaaFull2
set_option linter.unusedVariables false
set_option linter.unusedSimpArgs false
namespace Go.Proofs.Ytcnehacblodiaaa
open Go.RowKit

theorem add_blk (b n : Nat) : (⟨b, 0, none⟩ : Addr).add n = ⟨b, n, none⟩ := by unfold Addr.add; split <;> simp_all
theorem flat_set (l : Tab) (k : Nat) (id : Int) (s : Ses) (req : Int) (a : List UInt8) (h : l[k]? = some (id, s)) :
    ((l.flatMap entC).set (k * 3 + 1) (.int .i64 req)).set (k * 3 + 2) (.string (S a)) = (l.set k (id, (req, a))).flatMap entC := by
  induction l generalizing k with
  | nil => simp at h
  | cons p r ih =>
    cases k with
    | zero =>
      simp only [List.getElem?_cons_zero, Option.some.injEq] at h
      subst h
      simp [entC]
    | succ k =>
      simp only [List.getElem?_cons_succ] at h
      have := ih k h
      have e1 : (k + 1) * 3 + 1 = k * 3 + 1 + 1 + 1 + 1 := by omega
      have e2 : (k + 1) * 3 + 2 = k * 3 + 2 + 1 + 1 + 1 := by omega
      rw [e1, e2]
      simp only [List.flatMap_cons, List.set_cons_succ, entC, List.cons_append, List.nil_append] at this ⊢
      rw [this]

set_option maxRecDepth 100000 in
set_option maxHeartbeats 4000000 in
theorem s_do2 {g w : World} {L : List Asn} {t mb mp : Nat} {A : Option Addr} {cap : Nat} {l m : Tab} (S : Sat g w (mboxA mp l A cap :: mrowA l A cap :: boxA t mb :: tabA mb m :: L)) (hl : l.length ≤ 16) (ak id req : Int) (ans : List UInt8) (ha : ans.length ≤ 9223372036854775807) (j : Int) (hj : j = 2 ∨ j = 3) (hkd : wrap64 ((IntKind.u64.wrap ak).tmod 5) = j) :
    Calls Try.prog 14 #[ptr mp, ptr t, .agg #[.int .i64 ak, .int .i64 id, .int .i64 req, .string (Go.Proofs.Ytcnehacblodiaaa.S ans)]] w fun e w' => ∃ (A' : Option Addr) (cap' : Nat), e = .returned (.bool (doB j l m id req ans)) ∧ Sat g w' (mboxA mp (doL j l id req ans) A' cap' :: mrowA (doL j l id req ans) A' cap' :: boxA t mb :: tabA mb (doM j m id req ans) :: L) := by
  have S1 := S.box #[.int .i64 ak, .int .i64 id, .int .i64 req, .string (Go.Proofs.Ytcnehacblodiaaa.S ans)] 38 rfl
  go_enter Try.func14, Try.ntmps14
  go_wp2_with fail
  refine (at_model S1.b4 id hl).mono ?_
  rintro e w1 ⟨rfl, hk1⟩
  have S2 := S1.b4.keep hk1
  generalize w.heap.size = ab at *
  have c0 : w1.cell? ⟨ab, 0, none⟩ = some (.int .i64 ak) := S2.p4.cell 0 _ rfl
  have c1 : w1.cell? ⟨ab, 1, none⟩ = some (.int .i64 id) := S2.p4.cell 1 _ rfl
  have c2 : w1.cell? ⟨ab, 2, none⟩ = some (.int .i64 req) := S2.p4.cell 2 _ rfl
  have c3 : w1.cell? ⟨ab, 3, none⟩ = some (.string (Go.Proofs.Ytcnehacblodiaaa.S ans)) := S2.p4.cell 3 _ rfl
  have m0 : w1.cell? ⟨mp, 0, none⟩ = some (.slice A l.length cap) := S2.cell 0 _ rfl
  obtain ⟨hcap, hcm, hAn⟩ : l.length ≤ cap ∧ cap ≤ 9223372036854775807 ∧ (A = none → l.length = 0 ∧ cap = 0) := by
    obtain ⟨A', cap', e', q1, q2, q3, _⟩ := S2.p1.row.form
    injection e' with e1 e2 e3
    subst e1 e3
    refine ⟨q1, q2, fun h0 => ?_⟩
    subst h0
    rcases S2.p1.row.2 with ⟨h, h'⟩ | ⟨b, c, cur, h, _⟩
    · injection h with _ _ h
      exact ⟨h', h⟩
    · cases h
  have HAN := hide hAn
  clear hk1 S1 S hAn
  have hi1 : -1 ≤ atF l id ∧ atF l id < 16 ∧ (atF l id < 0 → id ∉ keys l) ∧ (0 ≤ atF l id → id ∈ keys l) := by
    by_cases hid : id ∈ keys l
    · obtain ⟨k, s, h1, _, _, h4⟩ := atF_some hid
      rw [h1]; exact ⟨by omega, by omega, fun h => by omega, fun _ => hid⟩
    · rw [atF_none hid]; exact ⟨by omega, by omega, fun _ => hid, fun h => by omega⟩
  obtain ⟨hi1, hi2, hi3, hi4⟩ := hi1
  have HI3 := hide hi3
  have HI4 := hide hi4
  clear hi3 hi4
  obtain ⟨I, hI⟩ : ∃ I, I = atF l id := ⟨_, rfl⟩
  rw [← hI] at hi1 hi2 HI3 HI4
  rw [← hI]
  have HI := hide hI
  clear hI
  go_upto_block 0 with fail
  have HB : Hid (doB j l m id req ans = ((keepF m id req ans).1 == (keepF l id req ans).1)) := by
    rcases hj with rfl | rfl <;> rfl
  have HM : Hid (doM j m id req ans = (keepF m id req ans).2) := by
    rcases hj with rfl | rfl <;> rfl
  have HDL : Hid (doL j l id req ans = if (keepF l id req ans).1 = 0 then l.set (atF l id).toNat (id, (req, ans)) else l) := by
    rcases hj with rfl | rfl <;> rfl
  have HKF : Hid (keepF l id req ans = if (seenF l id req).2.2 ≠ 0 then ((seenF l id req).2.2, l) else if (seenF l id req).2.1 = true then (18, l) else if 400 < ans.length then (3, l) else (0, mput l id (req, ans))) := rfl
  have HSO : Hid ((seenF l id req).2.2 = 0 → id ∈ keys l) := fun h => by
    by_cases hid : id ∈ keys l
    · exact hid
    · have e : seenF l id req = ([], false, 17) := by simp only [seenF, mget_none.2 hid]
      rw [e] at h
      exact absurd h (by decide)
  rw [hkd]
  clear hkd
  have hsm := seen_model S2 id req hl
  generalize hR : seenF l id req = R at *
  clear hR
  have HSM := hide hsm
  clear hsm
  obtain ⟨x, again, e⟩ := R
  simp only at HKF HSO HSM
  rcases hj with rfl | rfl
  · go_wp2_with fail
    refine HSM.out.mono ?_
    rintro e' w3 ⟨rfl, hk⟩
    have S3 := S2.keep hk
    have c1 : w3.cell? ⟨ab, 1, none⟩ = some (.int .i64 id) := S3.p4.cell 1 _ rfl
    have c2 : w3.cell? ⟨ab, 2, none⟩ = some (.int .i64 req) := S3.p4.cell 2 _ rfl
    have c3 : w3.cell? ⟨ab, 3, none⟩ = some (.string (Go.Proofs.Ytcnehacblodiaaa.S ans)) := S3.p4.cell 3 _ rfl
    have m0 : w3.cell? ⟨mp, 0, none⟩ = some (.slice A l.length cap) := S3.cell 0 _ rfl
    clear hk
    go_upto_block 4 with fail
    go_cut [13] (fun s13 wx => s13 = .int .i64 (keepF l id req ans).1 ∧ ∃ A' cap', Sat g wx (mboxA mp (doL 2 l id req ans) A' cap' :: mrowA (doL 2 l id req ans) A' cap' :: boxA t mb :: tabA mb m :: cellsA ab 38 #[.int .i64 ak, .int .i64 id, .int .i64 req, .string (Go.Proofs.Ytcnehacblodiaaa.S ans)] :: L))
    case first =>
      by_cases he : e = 0
      · subst he
        cases again
        · by_cases h4 : 400 < ans.length
          · have hk : keepF l id req ans = (3, l) := by rw [HKF.out]; simp [h4]
            have HK := hide hk
            have HD : Hid (doL 2 l id req ans = l) := by show _ = _; rw [HDL.out, hk]; rfl
            clear hk
            go_wp2_with fail
            go_meet
            case rel => exact ⟨by rw [HK.out], _, _, by rw [HD.out]; exact S3⟩
          · have hk : (keepF l id req ans).1 = 0 := by rw [HKF.out]; simp [h4]
            have HK := hide hk
            obtain ⟨k, s, h2, hx, hg, hlt⟩ := atF_some (HSO.out rfl)
            have HD : Hid (doL 2 l id req ans = l.set k (id, (req, ans))) := by show _ = _; rw [HDL.out, hk, h2]; simp
            obtain rfl : I = (k : Int) := HI.out.trans h2
            obtain ⟨ad, _, e1, _⟩ := rowE_at S3.p1.srcOf hlt
            subst e1
            obtain ⟨b, rfl⟩ := S3.p1.row_zero
            have HFS := hide (flat_set l k id s req ans hx)
            have hf := fun j u h => flatN_at entC 3 (fun _ => rfl) l k _ hx j u h
            have hlen : l.length * 3 = (l.flatMap entC).length := by have := S3.p1.row.1; omega
            have hadd : ∀ n, (⟨b, 0, none⟩ : Addr).add n = ⟨b, n, none⟩ := add_blk b
            have hk0 : (0 : Int) ≤ (k : Int) := by omega
            have hk1 : (k : Int) < (l.length : Int) := by omega
            have p1 : w3.cell? ⟨b, k * 3 + 1, none⟩ = some (.int .i64 s.1) := S3.p1.row_at _ _ (hf 1 _ rfl)
            have f1 : w3.frozen? ⟨b, k * 3 + 1, none⟩ = false := S3.p1.row_fz _
            have S4 := (S3.p1.rowSet (k * 3 + 1) (by omega) (.int .i64 req)).p1.drew
            have p2 := S4.p1.row_at (k * 3 + 2) (.string (Go.Proofs.Ytcnehacblodiaaa.S s.2)) (by rw [List.getElem?_set_ne (by omega)]; exact hf 2 _ rfl)
            have f2 := S4.p1.row_fz (k * 3 + 2)
            have S5 := (S4.p1.rowSet (k * 3 + 2) (by rw [List.length_set]; omega) (.string (Go.Proofs.Ytcnehacblodiaaa.S ans))).p1.drew
            rw [HFS.out] at S5
            clear hk hx hg h2 HI HI3 HI4 S2
            go_upto_region 25 with fail
            go_still_tail 9, (by kernel_rfl)
            change wpList _ _ _ _ _ w3.drew
            have p1 : w3.drew.cell? ⟨b, k * 3 + 1, none⟩ = some (.int .i64 s.1) := p1
            have f1 : w3.drew.frozen? ⟨b, k * 3 + 1, none⟩ = false := f1
            go_upto_region 26 with fail
            obtain ⟨w4, hw4⟩ : ∃ w4, (w3.setCell ⟨b, k * 3 + 1, none⟩ (.int .i64 req)).drew = w4 := ⟨_, rfl⟩
            rw [hw4] at S4 S5 p2 f2 ⊢
            have m0 : w4.cell? ⟨mp, 0, none⟩ = some (.slice (some ⟨b, 0, none⟩) l.length cap) := S4.cell 0 _ rfl
            have c3 : w4.cell? ⟨ab, 3, none⟩ = some (.string (Go.Proofs.Ytcnehacblodiaaa.S ans)) := S4.p4.cell 3 _ rfl
            clear hw4
            go_still_tail 9, (by kernel_rfl)
            change wpList _ _ _ _ _ w4.drew
            have p2 : w4.drew.cell? ⟨b, k * 3 + 2, none⟩ = some (.string (Go.Proofs.Ytcnehacblodiaaa.S s.2)) := p2
            have f2 : w4.drew.frozen? ⟨b, k * 3 + 2, none⟩ = false := f2
            go_wp2_with fail
            go_meet
            case rel =>
              refine ⟨by rw [HK.out], some ⟨b, 0, none⟩, cap, ?_⟩
              rw [HD.out]
              show Sat g _ (cellsA mp _ #[.slice (some ⟨b, 0, none⟩) (l.set k (id, (req, ans))).length cap] :: rowA _ 3 (.slice (some ⟨b, 0, none⟩) (l.set k (id, (req, ans))).length cap) (l.set k (id, (req, ans))).length ((l.set k (id, (req, ans))).flatMap entC) :: _)
              rw [List.length_set]
              exact S5
        · have hk : keepF l id req ans = (18, l) := by rw [HKF.out]; simp
          have HK := hide hk
          have HD : Hid (doL 2 l id req ans = l) := by show _ = _; rw [HDL.out, hk]; rfl
          clear hk
          go_wp2_with fail
          go_meet
          case rel => exact ⟨by rw [HK.out], _, _, by rw [HD.out]; exact S3⟩
      · have hk : keepF l id req ans = (e, l) := by rw [HKF.out, if_pos he]
        have HK := hide hk
        have HD : Hid (doL 2 l id req ans = l) := by show _ = _; rw [HDL.out, hk, if_neg he]
        have heb : (e != 0) = true := by simpa using he
        clear hk he
        go_wp2_with fail
        go_meet
        case rel => exact ⟨by rw [HK.out], _, _, by rw [HD.out]; exact S3⟩
    case rest =>
      obtain ⟨rfl, A', cap', S9⟩ := hcut
      have c1 : wc.cell? ⟨ab, 1, none⟩ = some (.int .i64 id) := S9.p4.cell 1 _ rfl
      have c2 : wc.cell? ⟨ab, 2, none⟩ = some (.int .i64 req) := S9.p4.cell 2 _ rfl
      have c3 : wc.cell? ⟨ab, 3, none⟩ = some (.string (Go.Proofs.Ytcnehacblodiaaa.S ans)) := S9.p4.cell 3 _ rfl
      clear S2 S3
      go_wp2_with fail
      refine (s_keep S9.p3.p3 id req ans ha).mono ?_
      rintro e w9 ⟨rfl, S10⟩
      generalize (keepF m id req ans).1 = X at *
      generalize (keepF l id req ans).1 = Y at *
      go_wp2_with fail
      go_ret
      exact ⟨A', cap', by rw [HB.out]; rfl, by rw [HM.out]; exact S10.p3.p3.p4.drop⟩
  · go_wp2_with fail
    refine HSM.out.mono ?_
    rintro e' w3 ⟨rfl, hk⟩
    have S3 := S2.keep hk
    have c1 : w3.cell? ⟨ab, 1, none⟩ = some (.int .i64 id) := S3.p4.cell 1 _ rfl
    have c2 : w3.cell? ⟨ab, 2, none⟩ = some (.int .i64 req) := S3.p4.cell 2 _ rfl
    have c3 : w3.cell? ⟨ab, 3, none⟩ = some (.string (Go.Proofs.Ytcnehacblodiaaa.S ans)) := S3.p4.cell 3 _ rfl
    have m0 : w3.cell? ⟨mp, 0, none⟩ = some (.slice A l.length cap) := S3.cell 0 _ rfl
    clear hk
    go_upto_block 4 with fail
    go_cut [13] (fun s13 wx => s13 = .int .i64 (keepF l id req ans).1 ∧ ∃ A' cap', Sat g wx (mboxA mp (doL 3 l id req ans) A' cap' :: mrowA (doL 3 l id req ans) A' cap' :: boxA t mb :: tabA mb m :: cellsA ab 38 #[.int .i64 ak, .int .i64 id, .int .i64 req, .string (Go.Proofs.Ytcnehacblodiaaa.S ans)] :: L))
    case first =>
      by_cases he : e = 0
      · subst he
        cases again
        · by_cases h4 : 400 < ans.length
          · have hk : keepF l id req ans = (3, l) := by rw [HKF.out]; simp [h4]
            have HK := hide hk
            have HD : Hid (doL 3 l id req ans = l) := by show _ = _; rw [HDL.out, hk]; rfl
            clear hk
            go_wp2_with fail
            go_meet
            case rel => exact ⟨by rw [HK.out], _, _, by rw [HD.out]; exact S3⟩
          · have hk : (keepF l id req ans).1 = 0 := by rw [HKF.out]; simp [h4]
            have HK := hide hk
            obtain ⟨k, s, h2, hx, hg, hlt⟩ := atF_some (HSO.out rfl)
            have HD : Hid (doL 3 l id req ans = l.set k (id, (req, ans))) := by show _ = _; rw [HDL.out, hk, h2]; simp
            obtain rfl : I = (k : Int) := HI.out.trans h2
            obtain ⟨ad, _, e1, _⟩ := rowE_at S3.p1.srcOf hlt
            subst e1
            obtain ⟨b, rfl⟩ := S3.p1.row_zero
            have HFS := hide (flat_set l k id s req ans hx)
            have hf := fun j u h => flatN_at entC 3 (fun _ => rfl) l k _ hx j u h
            have hlen : l.length * 3 = (l.flatMap entC).length := by have := S3.p1.row.1; omega
            have hadd : ∀ n, (⟨b, 0, none⟩ : Addr).add n = ⟨b, n, none⟩ := add_blk b
            have hk0 : (0 : Int) ≤ (k : Int) := by omega
            have hk1 : (k : Int) < (l.length : Int) := by omega
            have p1 : w3.cell? ⟨b, k * 3 + 1, none⟩ = some (.int .i64 s.1) := S3.p1.row_at _ _ (hf 1 _ rfl)
            have f1 : w3.frozen? ⟨b, k * 3 + 1, none⟩ = false := S3.p1.row_fz _
            have S4 := (S3.p1.rowSet (k * 3 + 1) (by omega) (.int .i64 req)).p1.drew
            have p2 := S4.p1.row_at (k * 3 + 2) (.string (Go.Proofs.Ytcnehacblodiaaa.S s.2)) (by rw [List.getElem?_set_ne (by omega)]; exact hf 2 _ rfl)
            have f2 := S4.p1.row_fz (k * 3 + 2)
            have S5 := (S4.p1.rowSet (k * 3 + 2) (by rw [List.length_set]; omega) (.string (Go.Proofs.Ytcnehacblodiaaa.S ans))).p1.drew
            rw [HFS.out] at S5
            clear hk hx hg h2 HI HI3 HI4 S2
            go_upto_region 25 with fail
            go_still_tail 9, (by kernel_rfl)
            change wpList _ _ _ _ _ w3.drew
            have p1 : w3.drew.cell? ⟨b, k * 3 + 1, none⟩ = some (.int .i64 s.1) := p1
            have f1 : w3.drew.frozen? ⟨b, k * 3 + 1, none⟩ = false := f1
            go_upto_region 26 with fail
            obtain ⟨w4, hw4⟩ : ∃ w4, (w3.setCell ⟨b, k * 3 + 1, none⟩ (.int .i64 req)).drew = w4 := ⟨_, rfl⟩
            rw [hw4] at S4 S5 p2 f2 ⊢
            have m0 : w4.cell? ⟨mp, 0, none⟩ = some (.slice (some ⟨b, 0, none⟩) l.length cap) := S4.cell 0 _ rfl
            have c3 : w4.cell? ⟨ab, 3, none⟩ = some (.string (Go.Proofs.Ytcnehacblodiaaa.S ans)) := S4.p4.cell 3 _ rfl
            clear hw4
            go_still_tail 9, (by kernel_rfl)
            change wpList _ _ _ _ _ w4.drew
            have p2 : w4.drew.cell? ⟨b, k * 3 + 2, none⟩ = some (.string (Go.Proofs.Ytcnehacblodiaaa.S s.2)) := p2
            have f2 : w4.drew.frozen? ⟨b, k * 3 + 2, none⟩ = false := f2
            go_wp2_with fail
            go_meet
            case rel =>
              refine ⟨by rw [HK.out], some ⟨b, 0, none⟩, cap, ?_⟩
              rw [HD.out]
              show Sat g _ (cellsA mp _ #[.slice (some ⟨b, 0, none⟩) (l.set k (id, (req, ans))).length cap] :: rowA _ 3 (.slice (some ⟨b, 0, none⟩) (l.set k (id, (req, ans))).length cap) (l.set k (id, (req, ans))).length ((l.set k (id, (req, ans))).flatMap entC) :: _)
              rw [List.length_set]
              exact S5
        · have hk : keepF l id req ans = (18, l) := by rw [HKF.out]; simp
          have HK := hide hk
          have HD : Hid (doL 3 l id req ans = l) := by show _ = _; rw [HDL.out, hk]; rfl
          clear hk
          go_wp2_with fail
          go_meet
          case rel => exact ⟨by rw [HK.out], _, _, by rw [HD.out]; exact S3⟩
      · have hk : keepF l id req ans = (e, l) := by rw [HKF.out, if_pos he]
        have HK := hide hk
        have HD : Hid (doL 3 l id req ans = l) := by show _ = _; rw [HDL.out, hk, if_neg he]
        have heb : (e != 0) = true := by simpa using he
        clear hk he
        go_wp2_with fail
        go_meet
        case rel => exact ⟨by rw [HK.out], _, _, by rw [HD.out]; exact S3⟩
    case rest =>
      obtain ⟨rfl, A', cap', S9⟩ := hcut
      have c1 : wc.cell? ⟨ab, 1, none⟩ = some (.int .i64 id) := S9.p4.cell 1 _ rfl
      have c2 : wc.cell? ⟨ab, 2, none⟩ = some (.int .i64 req) := S9.p4.cell 2 _ rfl
      have c3 : wc.cell? ⟨ab, 3, none⟩ = some (.string (Go.Proofs.Ytcnehacblodiaaa.S ans)) := S9.p4.cell 3 _ rfl
      clear S2 S3
      go_wp2_with fail
      refine (s_keep S9.p3.p3 id req ans ha).mono ?_
      rintro e w9 ⟨rfl, S10⟩
      generalize (keepF m id req ans).1 = X at *
      generalize (keepF l id req ans).1 = Y at *
      go_wp2_with fail
      go_ret
      exact ⟨A', cap', by rw [HB.out]; rfl, by rw [HM.out]; exact S10.p3.p3.p4.drop⟩

end Go.Proofs.Ytcnehacblodiaaa
