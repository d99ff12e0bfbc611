/- Contracts of the package sess in pieces of memory: Read. No condition. -/
import Derived.Test.YtcnehacblodiaaaSessR
import Derived.StillTailTactics
set_option linter.unusedVariables false
namespace Go.Proofs.Ytcnehacblodiaaa
open Go.RowKit

set_option maxRecDepth 100000 in
set_option maxHeartbeats 4000000 in
theorem s_tread {g w : World} {L : List Asn} {r : Nat} {x : RS} (S : Sat g w (rdA r x :: L)) :
    Calls Try.prog 21 #[ptr r] w fun e w' => ∃ t mb, e = .returned (ptr t) ∧ Sat g w' (boxA t mb :: tabA mb (readT x).1 :: rdA r (readT x).2 :: L) := by
  have HRT : Hid (readT x = match stR (rn x 16).2 (rn x 16).1.toNat with
    | none => ([], fl)
    | some (m, y) => if y.2 = true then ([], y) else (m, y)) := rfl
  have hn1 := rn_lo x 16
  have hn2 := rn_hi x 16 (by decide)
  generalize readT x = RT at *
  go_enter Try.func21, Try.ntmps21
  go_wp2_with fail
  refine (s_new S).mono ?_
  rintro e w1 ⟨t, mb, rfl, S1⟩
  go_wp2_with fail
  refine (s_rnum 16 S1.p2).mono ?_
  rintro e w2 ⟨rfl, S2⟩
  generalize rn x 16 = a0 at *
  obtain ⟨n, x0⟩ := a0
  simp only at HRT hn1 hn2 S2 ⊢
  obtain ⟨N, rfl⟩ := Int.eq_ofNat_of_zero_le hn1
  simp only [Int.toNat_natCast] at HRT
  go_wp2_with fail
  go_loopw [4, 10] (fun la i wr => ∃ k : Nat, k ≤ N ∧ i = .int .i64 k ∧ ∃ (m : Tab) (y : RS), stR x0 k = some (m, y) ∧ la = .int .i64 (lastK m) ∧ Sat g wr (boxA t mb :: tabA mb m :: rdA r y :: L)) (fun _ i _ => N - (RowKit.intOf i).toNat)
  case atStart => exact ⟨0, by omega, rfl, [], x0, rfl, rfl, S2.b2⟩
  case round =>
    obtain ⟨k, hk, rfl, m, y, hst, rfl, S3⟩ := hrel
    have HST := hide hst
    have hasc := stR_asc _ _ _ _ hst
    have HASC := hide hasc
    clear hst hasc S1 S2
    by_cases hlt : k < N
    · have HE : Hid (entR y = (((rn y 281474976710655).1, ((rn (rn y 281474976710655).2 281474976710655).1, (rt (rn (rn y 281474976710655).2 281474976710655).2 400).1)), (rt (rn (rn y 281474976710655).2 281474976710655).2 400).2)) := rfl
      have hh1 := rn_hi y 281474976710655 (by decide)
      have hh2 := rn_lo y 281474976710655
      have hla := HASC.out.last
      have hl3 := rt_len (rn (rn y 281474976710655).2 281474976710655).2 400 (by decide)
      go_wp2_with fail
      refine (s_rnum 281474976710655 S3.p2).mono ?_
      rintro e w4 ⟨rfl, S4⟩
      generalize rn y 281474976710655 = a1 at *
      obtain ⟨id, y1⟩ := a1
      simp only at HE hh1 hh2 S4 hl3 ⊢
      go_wp2_with fail
      refine (s_rnum 281474976710655 S4).mono ?_
      rintro e w5 ⟨rfl, S5⟩
      generalize rn y1 281474976710655 = a2 at *
      obtain ⟨req, y2⟩ := a2
      simp only at HE S5 hl3 ⊢
      go_wp2_with fail
      refine (s_rtext 400 S5).mono ?_
      rintro e w6 ⟨rfl, S6⟩
      generalize rt y2 400 = a3 at *
      obtain ⟨ans, y3⟩ := a3
      simp only at HE S6 hl3 ⊢
      have S7 := S6.box #[.int .i64 req, .string (Go.Proofs.Ytcnehacblodiaaa.S ans)] 61 rfl
      have HS : Hid (stR x0 (k + 1) = if badE (lastK m) (id, (req, ans)) = true then none else some (m ++ [(id, (req, ans))], y3)) := by
        show _ = _
        simp only [stR, HST.out, HE.out]
      clear S4 S5 S6
      by_cases hb : badE (lastK m) (id, (req, ans)) = true
      · have hnone : RT = ([], fl) := by
          have := HS.out
          rw [if_pos hb] at this
          rw [HRT.out, stR_none _ _ N this (by omega)]
        subst hnone
        simp only [badE, Bool.or_eq_true, Bool.and_eq_true, decide_eq_true_eq] at hb
        by_cases h1 : id ≤ lastK m
        · go_wp2_with fail
          refine (s_rfail S7.p1).mono ?_
          rintro e w8 ⟨rfl, S8⟩
          go_wp2_with fail
          refine (s_new S8).mono ?_
          rintro e w9 ⟨t2, mb2, rfl, S9⟩
          go_wp2_with fail
          go_ret
          exact ⟨t2, rfl, mb2, S9.p3.drop.p3.drop.p3.drop⟩
        · obtain ⟨rfl, h3⟩ : req = 0 ∧ ans ≠ [] := by
            rcases hb with h | h
            · exact absurd h h1
            · exact h
          have h3b : ans.isEmpty = false := by simpa using h3
          clear hb h3
          go_wp2_with fail
          refine (s_rfail S7.p1).mono ?_
          rintro e w8 ⟨rfl, S8⟩
          go_wp2_with fail
          refine (s_new S8).mono ?_
          rintro e w9 ⟨t2, mb2, rfl, S9⟩
          go_wp2_with fail
          go_ret
          exact ⟨t2, rfl, mb2, S9.p3.drop.p3.drop.p3.drop⟩
      · have hst2 : stR x0 (k + 1) = some (m ++ [(id, (req, ans))], y3) := by rw [HS.out, if_neg hb]
        have HST2 := hide hst2
        simp only [badE, Bool.or_eq_true, Bool.and_eq_true, decide_eq_true_eq, not_or, not_and, Decidable.not_not] at hb
        obtain ⟨h1, h2⟩ := hb
        have hput := HASC.out.put (id, (req, ans)) (by simp only; omega)
        have HPUT := hide hput
        have HL : Hid (lastK (m ++ [(id, (req, ans))]) = id) := lastK_snoc _ _
        clear hst2 hput HS
        by_cases h4 : req = 0
        · obtain rfl := h2 h4
          subst h4
          clear h2
          go_upto_region 10 with fail
          generalize w6.alloc (.cells #[.int .i64 0, .string (Go.Proofs.Ytcnehacblodiaaa.S [])] 61) = w7 at *
          generalize w6.heap.size = sb at *
          have q0 : w7.cell? ⟨sb, 0, none⟩ = some (.int .i64 0) := S7.cell 0 _ rfl
          have q1 : w7.cell? ⟨sb, 1, none⟩ = some (.string (Go.Proofs.Ytcnehacblodiaaa.S [])) := S7.cell 1 _ rfl
          have c0 : w7.cell? ⟨t, 0, none⟩ = some (.map (some mb)) := S7.p2.cell 0 _ rfl
          have S7d := S7.drew
          obtain ⟨w8, hpt, hm8, hk8⟩ := S7d.p3.mapOf.update kT Try.underlying57 id (0, [])
          have hpt' : (Instr.mapUpdate 57 (.map (some mb)) (.int .i64 id) (.agg #[.int .i64 0, .string (Go.Proofs.Ytcnehacblodiaaa.S [])])).run Try.prog w7.drew = .ok () w8 := hpt
          have S8 := S7d.p3.mapPut hk8 hm8
          rw [HPUT.out] at S8
          clear hpt hm8 hk8 S7d
          go_still_tail 6, (by kernel_rfl)
          change wpList _ _ _ _ _ w7.drew
          go_wp2_with fail
          go_roundw
          case rel => exact ⟨k + 1, by omega, by go_num, _, _, HST2.out, by rw [HL.out], S8.p1.drop.p2⟩
          case measure => simp [RowKit.intOf]; omega
        · have h4b : (req == 0) = false := by simpa using h4
          clear h2 h4
          go_upto_region 10 with fail
          generalize w6.alloc (.cells #[.int .i64 req, .string (Go.Proofs.Ytcnehacblodiaaa.S ans)] 61) = w7 at *
          generalize w6.heap.size = sb at *
          have q0 : w7.cell? ⟨sb, 0, none⟩ = some (.int .i64 req) := S7.cell 0 _ rfl
          have q1 : w7.cell? ⟨sb, 1, none⟩ = some (.string (Go.Proofs.Ytcnehacblodiaaa.S ans)) := S7.cell 1 _ rfl
          have c0 : w7.cell? ⟨t, 0, none⟩ = some (.map (some mb)) := S7.p2.cell 0 _ rfl
          have S7d := S7.drew
          obtain ⟨w8, hpt, hm8, hk8⟩ := S7d.p3.mapOf.update kT Try.underlying57 id (req, ans)
          have hpt' : (Instr.mapUpdate 57 (.map (some mb)) (.int .i64 id) (.agg #[.int .i64 req, .string (Go.Proofs.Ytcnehacblodiaaa.S ans)])).run Try.prog w7.drew = .ok () w8 := hpt
          have S8 := S7d.p3.mapPut hk8 hm8
          rw [HPUT.out] at S8
          clear hpt hm8 hk8 S7d
          go_still_tail 6, (by kernel_rfl)
          change wpList _ _ _ _ _ w7.drew
          go_wp2_with fail
          go_roundw
          case rel => exact ⟨k + 1, by omega, by go_num, _, _, HST2.out, by rw [HL.out], S8.p1.drop.p2⟩
          case measure => simp [RowKit.intOf]; omega
    · obtain rfl : k = N := by omega
      rw [HST.out] at HRT
      go_wp2_with fail
      refine (s_rok S3.p2).mono ?_
      rintro e w4 ⟨rfl, S4⟩
      obtain ⟨yl, yf⟩ := y
      cases yf
      · have e : RT = (m, (yl, false)) := HRT.out
        subst e
        go_wp2_with fail
        go_ret
        exact ⟨t, rfl, mb, S4.b2⟩
      · have e : RT = ([], (yl, true)) := HRT.out
        subst e
        go_wp2_with fail
        refine (s_new S4).mono ?_
        rintro e w5 ⟨t2, mb2, rfl, S5⟩
        go_wp2_with fail
        go_ret
        exact ⟨t2, rfl, mb2, S5.p3.drop.p3.drop⟩

end Go.Proofs.Ytcnehacblodiaaa
