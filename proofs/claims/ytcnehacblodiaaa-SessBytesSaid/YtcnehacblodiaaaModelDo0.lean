/- The statements' own model of a table of sessions: an act of both, of kind 0. No condition. -/
import Derived.Test.YtcnehacblodiaaaModelDo
set_option linter.unusedVariables false
set_option linter.unusedSimpArgs false
namespace Go.Proofs.Ytcnehacblodiaaa
open Go.RowKit

set_option maxRecDepth 100000 in
set_option maxHeartbeats 4000000 in
theorem s_do0 {g w : World} {L : List Asn} {t mb mp : Nat} {A : Option Addr} {cap : Nat} {l m : Tab} (S : Sat g w (mboxA mp l A cap :: mrowA l A cap :: boxA t mb :: tabA mb m :: L)) (hl : l.length ≤ 16) (ak id req : Int) (ans : List UInt8) (ha : ans.length ≤ 9223372036854775807) (hkd : wrap64 ((IntKind.u64.wrap ak).tmod 5) = 0) :
    Calls Try.prog 14 #[ptr mp, ptr t, .agg #[.int .i64 ak, .int .i64 id, .int .i64 req, .string (Go.Proofs.Ytcnehacblodiaaa.S ans)]] w fun e w' => ∃ (A' : Option Addr) (cap' : Nat), e = .returned (.bool (doB 0 l m id req ans)) ∧ Sat g w' (mboxA mp (doL 0 l id req ans) A' cap' :: mrowA (doL 0 l id req ans) A' cap' :: boxA t mb :: tabA mb (doM 0 m id req ans) :: L) := by
  have S1 := S.box #[.int .i64 ak, .int .i64 id, .int .i64 req, .string (Go.Proofs.Ytcnehacblodiaaa.S ans)] 38 rfl
  go_enter Try.func14, Try.ntmps14
  go_wp2_with fail
  refine (at_model S1.b4 id hl).mono ?_
  rintro e w1 ⟨rfl, hk1⟩
  have S2 := S1.b4.keep hk1
  generalize w.heap.size = ab at *
  have c0 : w1.cell? ⟨ab, 0, none⟩ = some (.int .i64 ak) := S2.p4.cell 0 _ rfl
  have c1 : w1.cell? ⟨ab, 1, none⟩ = some (.int .i64 id) := S2.p4.cell 1 _ rfl
  have c2 : w1.cell? ⟨ab, 2, none⟩ = some (.int .i64 req) := S2.p4.cell 2 _ rfl
  have c3 : w1.cell? ⟨ab, 3, none⟩ = some (.string (Go.Proofs.Ytcnehacblodiaaa.S ans)) := S2.p4.cell 3 _ rfl
  have m0 : w1.cell? ⟨mp, 0, none⟩ = some (.slice A l.length cap) := S2.cell 0 _ rfl
  obtain ⟨hcap, hcm, hAn⟩ : l.length ≤ cap ∧ cap ≤ 9223372036854775807 ∧ (A = none → l.length = 0 ∧ cap = 0) := by
    obtain ⟨A', cap', e', q1, q2, q3, _⟩ := S2.p1.row.form
    injection e' with e1 e2 e3
    subst e1 e3
    refine ⟨q1, q2, fun h0 => ?_⟩
    subst h0
    rcases S2.p1.row.2 with ⟨h, h'⟩ | ⟨b, c, cur, h, _⟩
    · injection h with _ _ h
      exact ⟨h', h⟩
    · cases h
  have HAN := hide hAn
  clear hk1 S1 S hAn
  have hi1 : -1 ≤ atF l id ∧ atF l id < 16 ∧ (atF l id < 0 → id ∉ keys l) ∧ (0 ≤ atF l id → id ∈ keys l) := by
    by_cases hid : id ∈ keys l
    · obtain ⟨k, s, h1, _, _, h4⟩ := atF_some hid
      rw [h1]; exact ⟨by omega, by omega, fun h => by omega, fun _ => hid⟩
    · rw [atF_none hid]; exact ⟨by omega, by omega, fun _ => hid, fun h => by omega⟩
  obtain ⟨hi1, hi2, hi3, hi4⟩ := hi1
  have HI3 := hide hi3
  have HI4 := hide hi4
  clear hi3 hi4
  obtain ⟨I, hI⟩ : ∃ I, I = atF l id := ⟨_, rfl⟩
  rw [← hI] at hi1 hi2 HI3 HI4
  rw [← hI]
  have HI := hide hI
  clear hI
  go_upto_block 0 with fail
  rw [hkd]
  clear hkd
  have HDL : Hid (∀ id, doL 0 l id req ans = if (openF l id).1 = 0 then insT l id else l) := fun _ => rfl
  go_upto_block 1 with fail
  go_cut [8] (fun s8 wx => s8 = .int .i64 (openF l id).1 ∧ ∃ A' cap', Sat g wx (mboxA mp (doL 0 l id req ans) A' cap' :: mrowA (doL 0 l id req ans) A' cap' :: boxA t mb :: tabA mb m :: cellsA ab 38 #[.int .i64 ak, .int .i64 id, .int .i64 req, .string (Go.Proofs.Ytcnehacblodiaaa.S ans)] :: L))
  case first =>
    by_cases h1 : id < 1 ∨ 281474976710655 < id
    · have e : openF l id = (1, l) := by unfold openF; rw [if_pos h1]
      have HD : Hid (doL 0 l id req ans = l) := by show _ = _; rw [HDL.out, e]; rfl
      have HE := hide e
      clear e
      rcases h1 with h1 | h1
      all_goals
        go_wp2_with fail
        go_meet
        case rel => exact ⟨by rw [HE.out], _, _, by rw [HD.out]; exact S2⟩
    · obtain ⟨h1a, h1b⟩ := not_or.1 h1
      by_cases h2 : 0 ≤ I
      · have e : openF l id = (12, l) := by unfold openF; rw [if_neg h1, if_pos (HI4.out h2)]
        have HD : Hid (doL 0 l id req ans = l) := by show _ = _; rw [HDL.out, e]; rfl
        have HE := hide e
        clear h1 e
        go_wp2_with fail
        go_meet
        case rel => exact ⟨by rw [HE.out], _, _, by rw [HD.out]; exact S2⟩
      · by_cases h3 : 16 ≤ l.length
        · have e : openF l id = (16, l) := by unfold openF; rw [if_neg h1, if_neg (HI3.out (by omega)), if_pos h3]
          have HD : Hid (doL 0 l id req ans = l) := by show _ = _; rw [HDL.out, e]; rfl
          have HE := hide e
          clear h1 e
          go_wp2_with fail
          go_meet
          case rel => exact ⟨by rw [HE.out], _, _, by rw [HD.out]; exact S2⟩
        · have e : (openF l id).1 = 0 := by unfold openF; rw [if_neg h1, if_neg (HI3.out (by omega)), if_neg h3]
          have HD : Hid (doL 0 l id req ans = insT l id) := by show _ = _; rw [HDL.out, if_pos e]
          have HE := hide e
          clear h1 e
          go_wp2_with fail
          go_loopw [9] (fun i wr => ∃ k : Nat, k ≤ l.length ∧ i = .int .i64 k ∧ (∀ q ∈ l.take k, q.1 < id) ∧ Keeps (fun _ => False) w1 wr) (fun i _ => l.length - (RowKit.intOf i).toNat)
          case atStart => exact ⟨0, by omega, rfl, by simp, Keeps.refl _ _⟩
          case round =>
            obtain ⟨k, hk, rfl, hall, hK⟩ := hrel
            have S3 := S2.keep hK
            have HA := hide hall
            clear hall
            have c1 : wr.cell? ⟨ab, 1, none⟩ = some (.int .i64 id) := S3.p4.cell 1 _ rfl
            have m0 : wr.cell? ⟨mp, 0, none⟩ = some (.slice A l.length cap) := S3.cell 0 _ rfl
            have hk0 : (0 : Int) ≤ k := by omega
            by_cases hlt : k < l.length
            · obtain ⟨ad, p, rfl, hx, d0, d1, d2⟩ := rowE_at S3.p1.srcOf hlt
              have hkl : (k : Int) < l.length := by omega
              obtain ⟨pid, preq, pans⟩ := p
              simp only at d0 d1 d2
              by_cases hp : pid < id
              · go_upto_region 6 with fail
                go_quiet (fail)
                go_wp2_with fail
                go_roundw
                case rel =>
                  refine ⟨k + 1, by omega, by go_num, ?_, hK.drewN _⟩
                  obtain ⟨hk', e1⟩ := List.getElem?_eq_some_iff.1 hx
                  rw [List.take_succ_eq_append_getElem hk', e1]
                  intro q hq
                  rcases List.mem_append.1 hq with hq | hq
                  · exact HA.out q hq
                  · simp at hq; subst hq; exact hp
                case measure => simp [RowKit.intOf]; omega
              · have hins := insT_at HA.out (fun q hq => by rw [hx] at hq; injection hq with hq; subst hq; exact hp)
                go_upto_region 6 with fail
                go_quiet (fail)
                go_upto_region 8 with fail
                have S4 := S3.drewN nq
                have m0 : (wr.drewN nq).cell? ⟨mp, 0, none⟩ = some (.slice (some ad) l.length cap) := S4.cell 0 _ rfl
                have c1 : (wr.drewN nq).cell? ⟨ab, 1, none⟩ = some (.int .i64 id) := S4.p4.cell 1 _ rfl
                generalize wr.drewN nq = w4 at *
                have lm : mp < w4.heap.size := World.block_lt_of_cell? w4 _ m0
                have la : ab < w4.heap.size := World.block_lt_of_cell? w4 _ c1
                have hc1 : (l.length : Int) ≤ (cap : Int) := by omega
                have S4b := S4.box #[] 54 rfl
                have SR := S4b.rowOf 3 0 rfl (Nat.zero_le _)
                have hc2 : (k : Int) ≤ (cap : Int) := by omega
                have hc3 : ¬ cap = k := by omega
                have hsrc := S4b.p2.srcOf.suf k (by omega)
                rw [flatE_drop] at hsrc
                clear hx d0 d1 d2
                go_wp2_with (at_builtin; refine wpList_sapp slE rfl (.tmp 53) (.tmp 59) rfl (g := g) (S := SR) rfl hsrc rfl (oneE _) (by unfold maxLen; omega) (by omega) ?_; intro A5 c5 w5 S5; simp only [Nat.zero_add, List.nil_append] at S5)
                clear hsrc S4b SR S4 m0 c1 lm la S2 S3
                have m0 : w5.cell? ⟨mp, 0, none⟩ = some (.slice (some ad) l.length cap) := S5.p1.cell 0 _ rfl
                have c1 : w5.cell? ⟨ab, 1, none⟩ = some (.int .i64 id) := S5.p5.cell 1 _ rfl
                have lm : mp < w5.heap.size := World.block_lt_of_cell? w5 _ m0
                have la : ab < w5.heap.size := World.block_lt_of_cell? w5 _ c1
                go_upto_region 9 with fail
                go_region_law (first
                  | (refine step_app slE rfl (.tmp 73) (.tmp 74) rfl (g := g) (S := by first | exact S6 | exact S6.drew) rfl (by first | exact S6.p2.srcOf | exact S6.drew.p2.srcOf) rfl (oneE _) (by unfold maxLen; omega) (by omega) ?_; intro A7 c7 w7 S7; have q7 : w7.cell? ⟨mp, 0, none⟩ = some (.slice (some ad) l.length cap) := S7.p3.cell 0 _ rfl; have f7 : w7.frozen? ⟨mp, 0, none⟩ = false := S7.p3.cells_fz 0)
                  | (refine step_full slE rfl (.tmp 68) (.tmp 72) rfl (g := g) (S := by first | exact S5.box #[.int .i64 id, .int .i64 0, .string ⟨#[]⟩] 54 rfl | exact (S5.box #[.int .i64 id, .int .i64 0, .string ⟨#[]⟩] 54 rfl).drew) ((S5.box #[.int .i64 id, .int .i64 0, .string ⟨#[]⟩] 54 rfl).p3.srcOf.pre k (by omega)) (by intro h; cases h) rfl (Src.block (heap_alloc_new _ _) 3 1 rfl) (by decide) rfl (by unfold maxLen; omega) (by omega) ?_; intro A6 c6 w6 S6))
                all_goals
                  go_wp2_with fail
                  go_meet
                  case rel =>
                    refine ⟨by rw [HE.out], A7, c7, ?_⟩
                    rw [HD.out]
                    have S8 := (S7.p3.setc 0 (.slice A7 (k + 1 + (l.length - k)) c7)).p2.drop.p2.drop.p2.drop
                    have hN : k + 1 + (l.length - k) = (insT l id).length := by rw [hins]; simp; try omega
                    have hX : (l.flatMap entC).take (k * 3) ++ #[Value.int .i64 id, .int .i64 0, .string ⟨#[]⟩].toList ++ (l.drop k).flatMap entC = (insT l id).flatMap entC := by rw [hins]; simp [entC, flatE_take, List.flatMap_append]; try rfl
                    show Sat g _ (cellsA mp _ #[.slice A7 (insT l id).length c7] :: rowA _ 3 (.slice A7 (insT l id).length c7) (insT l id).length ((insT l id).flatMap entC) :: _)
                    rw [← hN, ← hX]
                    exact S8
            · obtain rfl : k = l.length := by omega
              have hins := insT_at HA.out (fun q hq => by rw [List.getElem?_eq_none (by omega)] at hq; cases hq)
              go_upto_region 6 with fail
              go_quiet (fail)
              go_upto_region 8 with fail
              cases A with
              | none =>
                obtain ⟨h9, h10⟩ := HAN.out rfl
                have h11 : l = [] := List.eq_nil_of_length_eq_zero h9
                subst h11 h10
                clear hk0 h9
                have S4 := S3.drewN nq
                have m0 : (wr.drewN nq).cell? ⟨mp, 0, none⟩ = some (.slice none 0 0) := S4.cell 0 _ rfl
                have c1 : (wr.drewN nq).cell? ⟨ab, 1, none⟩ = some (.int .i64 id) := S4.p4.cell 1 _ rfl
                generalize wr.drewN nq = w4 at *
                have lm : mp < w4.heap.size := World.block_lt_of_cell? w4 _ m0
                have la : ab < w4.heap.size := World.block_lt_of_cell? w4 _ c1
                have S4b := S4.box #[] 54 rfl
                have SR := S4b.rowOf 3 0 rfl (Nat.zero_le _)
                go_wp2_with (at_builtin; refine wpList_sapp slE rfl (.tmp 53) (.tmp 59) rfl (g := g) (S := SR) rfl (news := []) (Src.zero (by omega) rfl) rfl (by simp) (by unfold maxLen; omega) (by omega) ?_; intro A5 c5 w5 S5; simp only [Nat.zero_add, List.nil_append] at S5)
                clear S4b SR S4 m0 c1 lm la S2 S3
                have m0 : w5.cell? ⟨mp, 0, none⟩ = some (.slice none 0 0) := S5.p1.cell 0 _ rfl
                have c1 : w5.cell? ⟨ab, 1, none⟩ = some (.int .i64 id) := S5.p5.cell 1 _ rfl
                have lm : mp < w5.heap.size := World.block_lt_of_cell? w5 _ m0
                have la : ab < w5.heap.size := World.block_lt_of_cell? w5 _ c1
                go_upto_region 9 with fail
                go_region_law (first
                  | (refine step_app slE rfl (.tmp 73) (.tmp 74) rfl (g := g) (S := by first | exact S6 | exact S6.drew) rfl (by first | exact S6.p2.srcOf | exact S6.drew.p2.srcOf) rfl (by simp) (by unfold maxLen; omega) (by omega) ?_; intro A7 c7 w7 S7; have q7 : w7.cell? ⟨mp, 0, none⟩ = some (.slice none 0 0) := S7.p3.cell 0 _ rfl; have f7 : w7.frozen? ⟨mp, 0, none⟩ = false := S7.p3.cells_fz 0)
                  | (refine step_full slE rfl (.tmp 68) (.tmp 72) rfl (g := g) (S := by first | exact S5.box #[.int .i64 id, .int .i64 0, .string ⟨#[]⟩] 54 rfl | exact (S5.box #[.int .i64 id, .int .i64 0, .string ⟨#[]⟩] 54 rfl).drew) (Src.zero rfl rfl) (by intro h; rfl) rfl (Src.block (heap_alloc_new _ _) 3 1 rfl) (by decide) rfl (by unfold maxLen; omega) (by omega) ?_; intro A6 c6 w6 S6))
                all_goals
                  go_wp2_with fail
                  go_meet
                  case rel =>
                    refine ⟨by rw [HE.out], A7, c7, ?_⟩
                    rw [HD.out]
                    have S8 := (S7.p3.setc 0 (.slice A7 (0 + 1 + 0) c7)).p2.drop.p2.drop.p2.drop
                    have hN : 0 + 1 + 0 = (insT [] id).length := by rw [hins]; simp; try omega
                    have hX : [] ++ #[Value.int .i64 id, .int .i64 0, .string ⟨#[]⟩].toList ++ [] = (insT [] id).flatMap entC := by rw [hins]; simp [entC, flatE_take, List.flatMap_append]; try rfl
                    show Sat g _ (cellsA mp _ #[.slice A7 (insT [] id).length c7] :: rowA _ 3 (.slice A7 (insT [] id).length c7) (insT [] id).length ((insT [] id).flatMap entC) :: _)
                    rw [← hN, ← hX]
                    exact S8
              | some ad =>
                by_cases hc3 : cap = l.length
                · subst hc3
                  have S4 := S3.drewN nq
                  have m0 : (wr.drewN nq).cell? ⟨mp, 0, none⟩ = some (.slice (some ad) l.length l.length) := S4.cell 0 _ rfl
                  have c1 : (wr.drewN nq).cell? ⟨ab, 1, none⟩ = some (.int .i64 id) := S4.p4.cell 1 _ rfl
                  generalize wr.drewN nq = w4 at *
                  have lm : mp < w4.heap.size := World.block_lt_of_cell? w4 _ m0
                  have la : ab < w4.heap.size := World.block_lt_of_cell? w4 _ c1
                  have S4b := S4.box #[] 54 rfl
                  have SR := S4b.rowOf 3 0 rfl (Nat.zero_le _)
                  go_wp2_with (at_builtin; refine wpList_sapp slE rfl (.tmp 53) (.tmp 59) rfl (g := g) (S := SR) rfl (news := []) (Src.zero (by omega) rfl) rfl (by simp) (by unfold maxLen; omega) (by omega) ?_; intro A5 c5 w5 S5; simp only [Nat.zero_add, List.nil_append] at S5)
                  clear S4b SR S4 m0 c1 lm la S2 S3
                  have m0 : w5.cell? ⟨mp, 0, none⟩ = some (.slice (some ad) l.length l.length) := S5.p1.cell 0 _ rfl
                  have c1 : w5.cell? ⟨ab, 1, none⟩ = some (.int .i64 id) := S5.p5.cell 1 _ rfl
                  have lm : mp < w5.heap.size := World.block_lt_of_cell? w5 _ m0
                  have la : ab < w5.heap.size := World.block_lt_of_cell? w5 _ c1
                  go_upto_region 9 with fail
                  go_region_law (first
                    | (refine step_app slE rfl (.tmp 73) (.tmp 74) rfl (g := g) (S := by first | exact S6 | exact S6.drew) rfl (by first | exact S6.p2.srcOf | exact S6.drew.p2.srcOf) rfl (by simp) (by unfold maxLen; omega) (by omega) ?_; intro A7 c7 w7 S7; have q7 : w7.cell? ⟨mp, 0, none⟩ = some (.slice (some ad) l.length l.length) := S7.p3.cell 0 _ rfl; have f7 : w7.frozen? ⟨mp, 0, none⟩ = false := S7.p3.cells_fz 0)
                    | (refine step_full slE rfl (.tmp 68) (.tmp 72) rfl (g := g) (S := by first | exact S5.box #[.int .i64 id, .int .i64 0, .string ⟨#[]⟩] 54 rfl | exact (S5.box #[.int .i64 id, .int .i64 0, .string ⟨#[]⟩] 54 rfl).drew) ((S5.box #[.int .i64 id, .int .i64 0, .string ⟨#[]⟩] 54 rfl).p3.srcOf.pre l.length (Nat.le_refl _)) (by intro h; cases h) rfl (Src.block (heap_alloc_new _ _) 3 1 rfl) (by decide) rfl (by unfold maxLen; omega) (by omega) ?_; intro A6 c6 w6 S6))
                  all_goals
                    go_wp2_with fail
                    go_meet
                    case rel =>
                      refine ⟨by rw [HE.out], A7, c7, ?_⟩
                      rw [HD.out]
                      have S8 := (S7.p3.setc 0 (.slice A7 (l.length + 1 + 0) c7)).p2.drop.p2.drop.p2.drop
                      have hN : l.length + 1 + 0 = (insT l id).length := by rw [hins]; simp; try omega
                      have hX : (l.flatMap entC).take (l.length * 3) ++ #[Value.int .i64 id, .int .i64 0, .string ⟨#[]⟩].toList ++ [] = (insT l id).flatMap entC := by rw [hins]; simp [entC, flatE_take, List.flatMap_append]; try rfl
                      show Sat g _ (cellsA mp _ #[.slice A7 (insT l id).length c7] :: rowA _ 3 (.slice A7 (insT l id).length c7) (insT l id).length ((insT l id).flatMap entC) :: _)
                      rw [← hN, ← hX]
                      exact S8
                · have hc4 : ¬ cap - l.length = 0 := by omega
                  have S4 := S3.drewN nq
                  have m0 : (wr.drewN nq).cell? ⟨mp, 0, none⟩ = some (.slice (some ad) l.length cap) := S4.cell 0 _ rfl
                  have c1 : (wr.drewN nq).cell? ⟨ab, 1, none⟩ = some (.int .i64 id) := S4.p4.cell 1 _ rfl
                  generalize wr.drewN nq = w4 at *
                  have lm : mp < w4.heap.size := World.block_lt_of_cell? w4 _ m0
                  have la : ab < w4.heap.size := World.block_lt_of_cell? w4 _ c1
                  have hc1 : (l.length : Int) ≤ (cap : Int) := by omega
                  have S4b := S4.box #[] 54 rfl
                  have SR := S4b.rowOf 3 0 rfl (Nat.zero_le _)
                  go_wp2_with (at_builtin; refine wpList_sapp slE rfl (.tmp 53) (.tmp 59) rfl (g := g) (S := SR) rfl (news := []) (Src.zero (by omega) rfl) rfl (by simp) (by unfold maxLen; omega) (by omega) ?_; intro A5 c5 w5 S5; simp only [Nat.zero_add, List.nil_append] at S5)
                  clear S4b SR S4 m0 c1 lm la S2 S3
                  have m0 : w5.cell? ⟨mp, 0, none⟩ = some (.slice (some ad) l.length cap) := S5.p1.cell 0 _ rfl
                  have c1 : w5.cell? ⟨ab, 1, none⟩ = some (.int .i64 id) := S5.p5.cell 1 _ rfl
                  have lm : mp < w5.heap.size := World.block_lt_of_cell? w5 _ m0
                  have la : ab < w5.heap.size := World.block_lt_of_cell? w5 _ c1
                  go_upto_region 9 with fail
                  go_region_law (first
                    | (refine step_app slE rfl (.tmp 73) (.tmp 74) rfl (g := g) (S := by first | exact S6 | exact S6.drew) rfl (by first | exact S6.p2.srcOf | exact S6.drew.p2.srcOf) rfl (by simp) (by unfold maxLen; omega) (by omega) ?_; intro A7 c7 w7 S7; have q7 : w7.cell? ⟨mp, 0, none⟩ = some (.slice (some ad) l.length cap) := S7.p3.cell 0 _ rfl; have f7 : w7.frozen? ⟨mp, 0, none⟩ = false := S7.p3.cells_fz 0)
                    | (refine step_full slE rfl (.tmp 68) (.tmp 72) rfl (g := g) (S := by first | exact S5.box #[.int .i64 id, .int .i64 0, .string ⟨#[]⟩] 54 rfl | exact (S5.box #[.int .i64 id, .int .i64 0, .string ⟨#[]⟩] 54 rfl).drew) ((S5.box #[.int .i64 id, .int .i64 0, .string ⟨#[]⟩] 54 rfl).p3.srcOf.pre l.length (Nat.le_refl _)) (by intro h; cases h) rfl (Src.block (heap_alloc_new _ _) 3 1 rfl) (by decide) rfl (by unfold maxLen; omega) (by omega) ?_; intro A6 c6 w6 S6))
                  all_goals
                    go_wp2_with fail
                    go_meet
                    case rel =>
                      refine ⟨by rw [HE.out], A7, c7, ?_⟩
                      rw [HD.out]
                      have S8 := (S7.p3.setc 0 (.slice A7 (l.length + 1 + 0) c7)).p2.drop.p2.drop.p2.drop
                      have hN : l.length + 1 + 0 = (insT l id).length := by rw [hins]; simp; try omega
                      have hX : (l.flatMap entC).take (l.length * 3) ++ #[Value.int .i64 id, .int .i64 0, .string ⟨#[]⟩].toList ++ [] = (insT l id).flatMap entC := by rw [hins]; simp [entC, flatE_take, List.flatMap_append]; try rfl
                      show Sat g _ (cellsA mp _ #[.slice A7 (insT l id).length c7] :: rowA _ 3 (.slice A7 (insT l id).length c7) (insT l id).length ((insT l id).flatMap entC) :: _)
                      rw [← hN, ← hX]
                      exact S8
  case rest =>
    obtain ⟨rfl, A', cap', S9⟩ := hcut
    have c1 : wc.cell? ⟨ab, 1, none⟩ = some (.int .i64 id) := S9.p4.cell 1 _ rfl
    clear S2
    go_wp2_with fail
    refine (s_open S9.p3.p3 id).mono ?_
    rintro e w9 ⟨rfl, S10⟩
    have HB : Hid (doB 0 l m id req ans = ((openF m id).1 == (openF l id).1)) := rfl
    have HM : Hid (doM 0 m id req ans = (openF m id).2) := rfl
    generalize (openF m id).1 = X at *
    generalize (openF l id).1 = Y at *
    go_wp2_with fail
    go_ret
    exact ⟨A', cap', by rw [HB.out]; rfl, by rw [HM.out]; exact S10.p3.p3.p4.drop⟩

end Go.Proofs.Ytcnehacblodiaaa
