/- The statements' own model of a table of sessions: an act of both, of kind 1. No condition. -/
import Derived.Test.YtcnehacblodiaaaModelDo
set_option linter.unusedVariables false
set_option linter.unusedSimpArgs false
namespace Go.Proofs.Ytcnehacblodiaaa
open Go.RowKit

set_option maxRecDepth 100000 in
set_option maxHeartbeats 4000000 in
theorem s_do1 {g w : World} {L : List Asn} {t mb mp : Nat} {A : Option Addr} {cap : Nat} {l m : Tab} (S : Sat g w (mboxA mp l A cap :: mrowA l A cap :: boxA t mb :: tabA mb m :: L)) (hl : l.length ≤ 16) (ak id req : Int) (ans : List UInt8) (ha : ans.length ≤ 9223372036854775807) (hkd : wrap64 ((IntKind.u64.wrap ak).tmod 5) = 1) :
    Calls Try.prog 14 #[ptr mp, ptr t, .agg #[.int .i64 ak, .int .i64 id, .int .i64 req, .string (Go.Proofs.Ytcnehacblodiaaa.S ans)]] w fun e w' => ∃ (A' : Option Addr) (cap' : Nat), e = .returned (.bool (doB 1 l m id req ans)) ∧ Sat g w' (mboxA mp (doL 1 l id req ans) A' cap' :: mrowA (doL 1 l id req ans) A' cap' :: boxA t mb :: tabA mb (doM 1 m id req ans) :: L) := by
  have S1 := S.box #[.int .i64 ak, .int .i64 id, .int .i64 req, .string (Go.Proofs.Ytcnehacblodiaaa.S ans)] 38 rfl
  go_enter Try.func14, Try.ntmps14
  go_wp2_with fail
  refine (at_model S1.b4 id hl).mono ?_
  rintro e w1 ⟨rfl, hk1⟩
  have S2 := S1.b4.keep hk1
  generalize w.heap.size = ab at *
  have c0 : w1.cell? ⟨ab, 0, none⟩ = some (.int .i64 ak) := S2.p4.cell 0 _ rfl
  have c1 : w1.cell? ⟨ab, 1, none⟩ = some (.int .i64 id) := S2.p4.cell 1 _ rfl
  have c2 : w1.cell? ⟨ab, 2, none⟩ = some (.int .i64 req) := S2.p4.cell 2 _ rfl
  have c3 : w1.cell? ⟨ab, 3, none⟩ = some (.string (Go.Proofs.Ytcnehacblodiaaa.S ans)) := S2.p4.cell 3 _ rfl
  have m0 : w1.cell? ⟨mp, 0, none⟩ = some (.slice A l.length cap) := S2.cell 0 _ rfl
  obtain ⟨hcap, hcm, hAn⟩ : l.length ≤ cap ∧ cap ≤ 9223372036854775807 ∧ (A = none → l.length = 0 ∧ cap = 0) := by
    obtain ⟨A', cap', e', q1, q2, q3, _⟩ := S2.p1.row.form
    injection e' with e1 e2 e3
    subst e1 e3
    refine ⟨q1, q2, fun h0 => ?_⟩
    subst h0
    rcases S2.p1.row.2 with ⟨h, h'⟩ | ⟨b, c, cur, h, _⟩
    · injection h with _ _ h
      exact ⟨h', h⟩
    · cases h
  have HAN := hide hAn
  clear hk1 S1 S hAn
  have hi1 : -1 ≤ atF l id ∧ atF l id < 16 ∧ (atF l id < 0 → id ∉ keys l) ∧ (0 ≤ atF l id → id ∈ keys l) := by
    by_cases hid : id ∈ keys l
    · obtain ⟨k, s, h1, _, _, h4⟩ := atF_some hid
      rw [h1]; exact ⟨by omega, by omega, fun h => by omega, fun _ => hid⟩
    · rw [atF_none hid]; exact ⟨by omega, by omega, fun _ => hid, fun h => by omega⟩
  obtain ⟨hi1, hi2, hi3, hi4⟩ := hi1
  have HI3 := hide hi3
  have HI4 := hide hi4
  clear hi3 hi4
  obtain ⟨I, hI⟩ : ∃ I, I = atF l id := ⟨_, rfl⟩
  rw [← hI] at hi1 hi2 HI3 HI4
  rw [← hI]
  have HI := hide hI
  clear hI
  go_upto_block 0 with fail
  rw [hkd]
  clear hkd
  have HB : Hid (doB 1 l m id req ans = ((closeF m id).1 == (closeF l id).1)) := rfl
  have HM : Hid (doM 1 m id req ans = (closeF m id).2) := rfl
  have HDL : Hid (doL 1 l id req ans = if (closeF l id).1 = 0 then l.take (atF l id).toNat ++ l.drop ((atF l id).toNat + 1) else l) := rfl
  by_cases h1 : I < 0
  · have hc : (closeF l id).1 = 17 := by unfold closeF; rw [if_neg (HI3.out h1)]
    have HC := hide hc
    have HD : Hid (doL 1 l id req ans = l) := by show _ = _; rw [HDL.out, hc]; rfl
    clear hc
    go_wp2_with fail
    refine (s_close S2.p3.p3 id).mono ?_
    rintro e w9 ⟨rfl, S10⟩
    generalize (closeF m id).1 = X at *
    go_wp2_with fail
    go_ret
    exact ⟨A, cap, by rw [HB.out, HC.out]; rfl, by rw [HM.out, HD.out]; exact S10.p3.p3.p4.drop⟩
  · obtain ⟨k, s, h2, hx, hg, hlt⟩ := atF_some (HI4.out (by omega))
    have hc : (closeF l id).1 = 0 := by unfold closeF; rw [if_pos (HI4.out (by omega))]
    have HC := hide hc
    have HD : Hid (doL 1 l id req ans = l.take k ++ l.drop (k + 1)) := by show _ = _; rw [HDL.out, hc, h2]; simp
    obtain rfl : I = (k : Int) := HI.out.trans h2
    clear hc hg hx h2 s HI HI3 HI4
    obtain ⟨ad, _, e1, _⟩ := rowE_at S2.p1.srcOf hlt
    subst e1
    have hk0 : (0 : Int) ≤ (k : Int) := by omega
    have hk8 : (k : Int) ≤ (k : Int) + 1 := by omega
    have hk9 : (k : Int) + 1 ≤ (k : Int) + 1 := by omega
    have hk1 : (k : Int) ≤ (cap : Int) := by omega
    have hk2 : (k : Int) + 1 ≤ (cap : Int) := by omega
    have hk3 : (k : Int) + 1 ≤ (l.length : Int) := by omega
    have hk5 : (k : Int) ≤ (l.length : Int) := by omega
    have hk4 : IntKind.i64.wrap ((k : Int) + 1) = (k : Int) + 1 := IntWalk.i64_in _ ⟨by omega, by omega⟩
    have hk6 : (0 : Int) ≤ (k : Int) + 1 := by omega
    have hk7 : ((k : Int) + 1).toNat = k + 1 := by omega
    have lm : mp < w1.heap.size := World.block_lt_of_cell? w1 _ m0
    have la : ab < w1.heap.size := World.block_lt_of_cell? w1 _ c1
    have hsrc1 := (S2.box #[] 54 rfl).p2.srcOf.pre k (by omega)
    rw [flatE_take] at hsrc1
    have hsrc2 := (S2.box #[] 54 rfl).drew.p2.srcOf.pre k (by omega)
    rw [flatE_take] at hsrc2
    have hsrc3 := (S2.drew.box #[] 54 rfl).p2.srcOf.pre k (by omega)
    rw [flatE_take] at hsrc3
    by_cases hcc : cap = k + 1
    · have hck : cap - (k + 1) = 0 := by omega
      have hll : l.length = k + 1 := by omega
      go_upto_region 20 with fail
      go_region_law (first
        | (refine step_app slE rfl (.tmp 120) (.tmp 127) rfl (g := g) (S := by first | exact S5 | exact S5.drew) rfl (by exact Src.zero (xs := (l.drop (k + 1)).flatMap entC) (by omega) (by rw [List.drop_eq_nil_of_le (by omega)]; rfl)) rfl (oneE _) (by unfold maxLen; omega) (by omega) ?_; intro A7 c7 w7 S7; have q7 : w7.cell? ⟨mp, 0, none⟩ = some (.slice (some ad) l.length cap) := S7.p1.cell 0 _ rfl; have f7 : w7.frozen? ⟨mp, 0, none⟩ = false := S7.p1.cells_fz 0)
        | (refine step_app slE rfl (.tmp 113) (.tmp 119) rfl (g := g) (S := by first | exact (S2.box #[] 54 rfl).rowOf 3 0 rfl (Nat.zero_le _) | exact ((S2.box #[] 54 rfl).rowOf 3 0 rfl (Nat.zero_le _)).drew | exact (S2.drew.box #[] 54 rfl).rowOf 3 0 rfl (Nat.zero_le _)) rfl (by first | exact hsrc1 | exact hsrc2 | exact hsrc3) rfl (oneE _) (by unfold maxLen; omega) (by omega) ?_; intro A5 c5 w5 S5; simp only [Nat.zero_add, List.nil_append] at S5; have m0 : w5.cell? ⟨mp, 0, none⟩ = some (.slice (some ad) l.length cap) := S5.p1.cell 0 _ rfl; have lm5 : mp < w5.heap.size := World.block_lt_of_cell? w5 _ m0))
      all_goals
        have S8 := (S7.p1.setc 0 (.slice A7 (k) c7)).p2.drop
        have S9 : Sat g (w7.setCell ⟨mp, 0, none⟩ (.slice A7 (k) c7)) (mboxA mp (doL 1 l id req ans) A7 c7 :: mrowA (doL 1 l id req ans) A7 c7 :: boxA t mb :: tabA mb m :: cellsA ab 38 #[.int .i64 ak, .int .i64 id, .int .i64 req, .string (Go.Proofs.Ytcnehacblodiaaa.S ans)] :: L) := by
          have hN : k + 0 = (l.take k ++ l.drop (k + 1)).length := by simp; omega
          have hX : (l.take k).flatMap entC ++ (l.drop (k + 1)).flatMap entC = (l.take k ++ l.drop (k + 1)).flatMap entC := by simp [List.flatMap_append]
          rw [HD.out]
          show Sat g _ (cellsA mp _ #[.slice A7 (l.take k ++ l.drop (k + 1)).length c7] :: rowA _ 3 (.slice A7 (l.take k ++ l.drop (k + 1)).length c7) (l.take k ++ l.drop (k + 1)).length ((l.take k ++ l.drop (k + 1)).flatMap entC) :: _)
          rw [← hN, ← hX]
          exact S8
        go_upto_region 21 with fail
        generalize w7.setCell ⟨mp, 0, none⟩ (.slice A7 (k) c7) = w8 at *
        have c1 : w8.cell? ⟨ab, 1, none⟩ = some (.int .i64 id) := S9.p4.cell 1 _ rfl
        go_wp2_with fail
        refine (s_close S9.p3.p3 id).mono ?_
        rintro e w9 ⟨rfl, S10⟩
        generalize (closeF m id).1 = X at *
        go_wp2_with fail
        go_ret
        exact ⟨A7, c7, by rw [HB.out, HC.out]; rfl, by rw [HM.out]; exact S10.p3.p3.p4.drop⟩
    · have hck : ¬ cap - (k + 1) = 0 := by omega
      go_upto_region 20 with fail
      go_region_law (first
        | (refine step_app slE rfl (.tmp 120) (.tmp 127) rfl (g := g) (S := by first | exact S5 | exact S5.drew) rfl (by first | (have h := S5.p2.srcOf.suf (k + 1) (by omega); rw [flatE_drop] at h; exact h) | (have h := S5.drew.p2.srcOf.suf (k + 1) (by omega); rw [flatE_drop] at h; exact h)) rfl (oneE _) (by unfold maxLen; omega) (by omega) ?_; intro A7 c7 w7 S7; have q7 : w7.cell? ⟨mp, 0, none⟩ = some (.slice (some ad) l.length cap) := S7.p1.cell 0 _ rfl; have f7 : w7.frozen? ⟨mp, 0, none⟩ = false := S7.p1.cells_fz 0)
        | (refine step_app slE rfl (.tmp 113) (.tmp 119) rfl (g := g) (S := by first | exact (S2.box #[] 54 rfl).rowOf 3 0 rfl (Nat.zero_le _) | exact ((S2.box #[] 54 rfl).rowOf 3 0 rfl (Nat.zero_le _)).drew | exact (S2.drew.box #[] 54 rfl).rowOf 3 0 rfl (Nat.zero_le _)) rfl (by first | exact hsrc1 | exact hsrc2 | exact hsrc3) rfl (oneE _) (by unfold maxLen; omega) (by omega) ?_; intro A5 c5 w5 S5; simp only [Nat.zero_add, List.nil_append] at S5; have m0 : w5.cell? ⟨mp, 0, none⟩ = some (.slice (some ad) l.length cap) := S5.p1.cell 0 _ rfl; have lm5 : mp < w5.heap.size := World.block_lt_of_cell? w5 _ m0))
      all_goals
        have S8 := (S7.p1.setc 0 (.slice A7 (k + (l.length - (k + 1))) c7)).p2.drop
        have S9 : Sat g (w7.setCell ⟨mp, 0, none⟩ (.slice A7 (k + (l.length - (k + 1))) c7)) (mboxA mp (doL 1 l id req ans) A7 c7 :: mrowA (doL 1 l id req ans) A7 c7 :: boxA t mb :: tabA mb m :: cellsA ab 38 #[.int .i64 ak, .int .i64 id, .int .i64 req, .string (Go.Proofs.Ytcnehacblodiaaa.S ans)] :: L) := by
          have hN : k + (l.length - (k + 1)) = (l.take k ++ l.drop (k + 1)).length := by simp; omega
          have hX : (l.take k).flatMap entC ++ (l.drop (k + 1)).flatMap entC = (l.take k ++ l.drop (k + 1)).flatMap entC := by simp [List.flatMap_append]
          rw [HD.out]
          show Sat g _ (cellsA mp _ #[.slice A7 (l.take k ++ l.drop (k + 1)).length c7] :: rowA _ 3 (.slice A7 (l.take k ++ l.drop (k + 1)).length c7) (l.take k ++ l.drop (k + 1)).length ((l.take k ++ l.drop (k + 1)).flatMap entC) :: _)
          rw [← hN, ← hX]
          exact S8
        go_upto_region 21 with fail
        generalize w7.setCell ⟨mp, 0, none⟩ (.slice A7 (k + (l.length - (k + 1))) c7) = w8 at *
        have c1 : w8.cell? ⟨ab, 1, none⟩ = some (.int .i64 id) := S9.p4.cell 1 _ rfl
        go_wp2_with fail
        refine (s_close S9.p3.p3 id).mono ?_
        rintro e w9 ⟨rfl, S10⟩
        generalize (closeF m id).1 = X at *
        go_wp2_with fail
        go_ret
        exact ⟨A7, c7, by rw [HB.out, HC.out]; rfl, by rw [HM.out]; exact S10.p3.p3.p4.drop⟩

end Go.Proofs.Ytcnehacblodiaaa
