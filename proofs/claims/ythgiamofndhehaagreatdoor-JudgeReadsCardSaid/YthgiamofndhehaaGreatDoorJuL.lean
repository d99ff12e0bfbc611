/- JudgeLate, walked. No condition. -/
import Derived.Test.YthgiamofndhehaaGreatDoorJuM
set_option linter.unusedVariables false
set_option linter.unusedSimpArgs false
namespace Go.Proofs.YthgiamofndhehaaGreatDoor
open Go.RowKit

theorem SeenOk.known {T : List (List UInt8)} {sn : List Bool} {m : JTx} {ss : List StT} (h : SeenOk T sn m) (hJ : JOk m ss) (hf : mget m (ss.length : Int) = none) {k : Nat} (hk : k ≤ T.length) (h1 : ∀ i, i < k → sn[i + 1]? = some true) (h2 : sn[k + 1]? = some false) : ss.length = k + 1 :=
  hJ.known hf (k := k) (fun j h3 h4 => by
    obtain ⟨j, rfl⟩ : ∃ i, j = i + 1 := ⟨j - 1, by omega⟩
    rw [h.got j (by omega) (h1 j (by omega)), List.getElem?_eq_getElem (by omega)]
    rfl) (by have := h.lack _ h2; rw [← this]; congr 1)

set_option maxRecDepth 100000 in
set_option maxHeartbeats 16000000 in
theorem jlate_walk (W : World) (hG : GL W) (hT : TabE W) (A0 : Option Addr) (q0 : List CQ) (c0 : Nat) (at0 : Int) (sp : List UInt8) (hs0 : Src W 8 A0 q0.length (q0.flatMap cqL)) (hk0 : ∀ q ∈ q0, CqOk W q) (hl0 : q0.length ≤ 9223372036854775807) (hsp : sp.length ≤ 9223372036854775807) :
    Calls Tryz.prog 7 #[.slice A0 q0.length c0, .int .i64 at0, .string (S sp)] W fun e W' => e = .returned (.bool true) ∧ Keeps (fun _ => False) W W' := by
  have HG0 := hide hG
  have HT0 := hide hT
  have HF0 := hide fun (w' : World) (L' : List Asn) (S' : Sat W w' L') (h : oldA W ∈ L') => s_fewq S' h q0 A0 c0 hs0 hk0 hl0
  have HFX := hide fun (w' : World) (L' : List Asn) (S' : Sat W w' L') (h : oldA W ∈ L') (hl : q0.length ≤ 40) => fixed_walk S' h hG hT A0 q0 c0 hs0 hk0 hl
  clear hs0 hk0 hG hT
  go_enter Tryz.func7, Tryz.ntmps7
  go_wp2_with fail
  refine (head_judge (Sat.start W) HG0.out (by simp) HT0.out).mono ?_
  rintro e w1 ⟨rfl, S1⟩
  go_wp2_with fail
  refine (HF0.out _ _ S1 (by simp)).mono ?_
  rintro e w2 ⟨he, S2⟩
  clear S1 HF0
  rcases he with rfl | ⟨rfl, h40⟩
  · have HS := hide S2.keep_all
    clear S2
    go_wp2_with fail
    go_ret
    exact ⟨rfl, HS.out⟩
  by_cases ho : 100 < sp.length
  · have ho2 : (100 : Int) < (sp.length : Int) := by omega
    have HS := hide S2.keep_all
    clear S2
    go_wp2_with fail
    go_ret
    exact ⟨rfl, HS.out⟩
  have ho2 : ¬ (100 : Int) < (sp.length : Int) := by omega
  go_wp2_with fail
  clear ho2 ho
  refine (HFX.out _ _ S2 (by simp) (by omega)).mono ?_
  rintro e w3 ⟨T, A5, A6, c5, c6, ps, rfl, hTl, hF, S3⟩
  have HF := hide hF
  have hTb : T.length ≤ 43 := by omega
  have hTp : 3 ≤ T.length := by omega
  obtain ⟨A5', c5', e5, hcap, -⟩ := S3.row.form
  cases e5
  have hK : 0 ≤ bits .and .i64 at0 255 ∧ bits .and .i64 at0 255 ≤ 255 := and_le at0 255 (by decide)
  have hK1 := hK.1
  obtain ⟨q, hq⟩ : ∃ q : Nat, (bits .and .i64 at0 255).tmod (T.length : Int) = (q : Int) := ⟨(bits .and .i64 at0 255 % (T.length : Int)).toNat, by
    rw [Int.tmod_eq_emod_of_nonneg hK.1]
    have := Int.emod_nonneg (bits .and .i64 at0 255) (b := (T.length : Int)) (by omega)
    omega⟩
  have hq2 : q < T.length := by
    have := Int.emod_lt_of_pos (bits .and .i64 at0 255) (b := (T.length : Int)) (by omega)
    rw [← Int.tmod_eq_emod_of_nonneg hK.1, hq] at this
    omega
  obtain ⟨adt, u, rfl, hu, zt⟩ := Src.at_ S3.srcOf hq2
  have hq5 : (0 : Int) ≤ (q : Int) := by omega
  have hq6 : (q : Int) ≤ (c5 : Int) := by omega
  have hq7 : ¬ c5 = q := by omega
  have hqt : (q : Int) < (T.length : Int) := by omega
  clear S2 HFX hF hTl hu zt
  go_wp2_with fail
  refine (new_j S3).mono ?_
  rintro e w4 ⟨b, rfl, S4⟩
  clear S3
  go_wp2_with fail
  clear hK hK1 hq hq6 hq7 hcap
  go_loopw [40] (fun i wr => ∃ k : Nat, k ≤ q ∧ i = .int .i64 (k : Int) ∧ ∃ (sn : List Bool) (m : JTx) (ss : List StT), JOk m ss ∧ mget m (ss.length : Int) = none ∧ SeenOk T sn m ∧ (∀ i, i < T.length → sn[i + 1]? = some (decide (i < k))) ∧ Sat W wr (judgeA b m ss 0 0 :: rowA 9 1 (.slice (some adt) T.length c5) T.length (Ss T) :: jR (.slice A6 ps.length c6) ps :: jS ps :: [oldA W])) (fun i _ => q - (RowKit.intOf i).toNat)
  case atStart => exact ⟨0, by omega, rfl, _, [], [st0], JOk.init, rfl, SeenOk.init T, fun i hi => by simp [List.getElem?_replicate]; omega, S4⟩
  case round =>
    obtain ⟨k, hk, rfl, sn, m, ss, hJ, hfull, hSN, hP, S6⟩ := hrel
    clear S4
    have HJ := hide hJ
    have HFU := hide hfull
    have HSN := hide hSN
    have HP := hide hP
    clear hJ hfull hSN hP
    by_cases hlt : k < q
    · have hlt3 : (k : Int) < (q : Int) := by omega
      obtain ⟨adx, u, eadx, hu, zt⟩ := Src.at_ (S6.bring 1).srcOf (k := k) (by omega)
      cases eadx
      obtain ⟨t, ht, rfl⟩ : ∃ t, T[k]? = some t ∧ u = .string (S t) := by
        rw [show Ss T = T.map fun s => Value.string (S s) from rfl, List.getElem?_map] at hu
        cases h3 : T[k]? with
        | none => rw [h3] at hu; cases hu
        | some t2 => rw [h3] at hu; injection hu with hu; exact ⟨t2, rfl, hu.symm⟩
      have hw5 : IntKind.i64.wrap ((k : Int) + 1) = (k : Int) + 1 := IntWalk.i64_in _ ⟨by omega, by omega⟩
      have hco := commit_seen S6 HG0.out (by simp) HT0.out HJ.out HFU.out HSN.out HF.out.tl hTb ht
      clear hu ht
      go_wp2_with fail
      refine hco.mono ?_
      rintro e w7 ⟨m2, ss2, rfl, hJ2, hF2, hSN2, S7⟩
      have HJ2 := hide hJ2
      have HF2 := hide hF2
      have HS2 := hide hSN2
      clear S6 hco zt hJ2 hF2 hSN2
      go_wp2_with fail
      go_roundw
      case rel => exact ⟨k + 1, by omega, by go_num, sn.set (k + 1) true, m2, ss2, HJ2.out, HF2.out, HS2.out, fun i hi => by
          have hln := HSN.out.len
          by_cases e : i = k
          · subst e
            rw [List.getElem?_set_self (by omega)]
            simp
          · rw [List.getElem?_set_ne (by omega), HP.out i hi]
            congr 1
            rw [decide_eq_decide]
            omega, S7⟩
      case measure => simp [RowKit.intOf]; omega
    · obtain rfl : k = q := by omega
      have S7 := S6
      clear S6
      have hw5 : IntKind.i64.wrap ((k : Int) + 1) = (k : Int) + 1 := IntWalk.i64_in _ ⟨by omega, by omega⟩
      go_wp2_with fail
      go_loopw [12] (fun i wr => ∃ k2 : Nat, k + 1 ≤ k2 ∧ k2 ≤ T.length ∧ i = .int .i64 (k2 : Int) ∧ ∃ (sn : List Bool) (m : JTx) (ss : List StT), JOk m ss ∧ mget m (ss.length : Int) = none ∧ SeenOk T sn m ∧ (∀ i, i < T.length → sn[i + 1]? = some (decide (i < k ∨ (k + 1 ≤ i ∧ i < k2)))) ∧ Sat W wr (judgeA b m ss 0 0 :: rowA 9 1 (.slice (some adt) T.length c5) T.length (Ss T) :: jR (.slice A6 ps.length c6) ps :: jS ps :: [oldA W])) (fun i _ => T.length - (RowKit.intOf i).toNat)
      case atStart => exact ⟨k + 1, by omega, by omega, by go_num, sn, m, ss, HJ.out, HFU.out, HSN.out, fun i hi => by
          rw [HP.out i hi]
          congr 1
          rw [decide_eq_decide]
          omega, S7⟩
      case round =>
        obtain ⟨k2, hk1, hk2, rfl, sn, m, ss, hJ, hfull, hSN, hP, S8⟩ := hrel
        clear S7 HJ HFU HSN HP hw5
        have HJ := hide hJ
        have HFU := hide hfull
        have HSN := hide hSN
        have HP := hide hP
        clear hJ hfull hSN hP
        by_cases hlt2 : k2 < T.length
        · obtain ⟨adx, u, eadx, hu, zt⟩ := Src.at_ (S8.bring 1).srcOf (k := k2) (by omega)
          cases eadx
          obtain ⟨t, ht, rfl⟩ : ∃ t, T[k2]? = some t ∧ u = .string (S t) := by
            rw [show Ss T = T.map fun s => Value.string (S s) from rfl, List.getElem?_map] at hu
            cases h3 : T[k2]? with
            | none => rw [h3] at hu; cases hu
            | some t2 => rw [h3] at hu; injection hu with hu; exact ⟨t2, rfl, hu.symm⟩
          have hlt4 : (k2 : Int) < (T.length : Int) := by omega
          have hw6 : IntKind.i64.wrap ((k2 : Int) + 1) = (k2 : Int) + 1 := IntWalk.i64_in _ ⟨by omega, by omega⟩
          have hco := commit_seen S8 HG0.out (by simp) HT0.out HJ.out HFU.out HSN.out HF.out.tl hTb ht
          clear hu ht
          go_wp2_with fail
          refine hco.mono ?_
          rintro e w7 ⟨m2, ss2, rfl, hJ2, hF2, hSN2, S9⟩
          have HJ2 := hide hJ2
          have HF2 := hide hF2
          have HS2 := hide hSN2
          clear S8 hco zt hJ2 hF2 hSN2
          go_wp2_with fail
          go_roundw
          case rel => exact ⟨k2 + 1, by omega, by omega, by go_num, sn.set (k2 + 1) true, m2, ss2, HJ2.out, HF2.out, HS2.out, fun i hi => by
              have hln := HSN.out.len
              by_cases e : i = k2
              · subst e
                rw [List.getElem?_set_self (by omega)]
                simp
                omega
              · rw [List.getElem?_set_ne (by omega), HP.out i hi]
                congr 1
                rw [decide_eq_decide]
                omega, S9⟩
          case measure => simp [RowKit.intOf]; omega
        · obtain rfl : k2 = T.length := by omega
          have hln : ss.length = k + 1 := HSN.out.known HJ.out HFU.out (k := k) (by omega) (fun i hi => by rw [HP.out i (by omega)]; simp; omega) (by rw [HP.out k (by omega)]; simp; omega)
          have hsl : ss.length ≤ 1000000 := by omega
          have hs1 : ((ss.length : Nat) : Int) - 1 = (k : Int) := by omega
          have hs2 : ((ss.length : Nat) : Int) - 1 < (k : Int) + 1 := by omega
          have HLN := hide hln
          have HSL := hide hsl
          have HS1 := hide hs1
          have HS2 := hide hs2
          have hw6 : IntKind.i64.wrap ((k : Int) + 1) = (k : Int) + 1 := IntWalk.i64_in _ ⟨by omega, by omega⟩
          obtain ⟨adx, u, eadx, hu, zt⟩ := Src.at_ (S8.bring 1).srcOf (k := k) (by omega)
          cases eadx
          obtain ⟨t, ht, rfl⟩ : ∃ t, T[k]? = some t ∧ u = .string (S t) := by
            rw [show Ss T = T.map fun s => Value.string (S s) from rfl, List.getElem?_map] at hu
            cases h3 : T[k]? with
            | none => rw [h3] at hu; cases hu
            | some t2 => rw [h3] at hu; injection hu with hu; exact ⟨t2, rfl, hu.symm⟩
          have HT1 := hide ht
          have hmd : Calls Tryz.prog 24 #[.int .i64 1, .int .i64 1, .slice none 0 0] wr fun e w2 => e = .returned (.agg #[.int .i64 3, .int .i64 1, .int .i64 1, .int .i64 0, .slice none 0 0, .string (S []), .bool false, .bool false]) ∧ Sat W w2 (judgeA b m ss 0 0 :: rowA 9 1 (.slice (some adt) T.length c5) T.length (Ss T) :: jR (.slice A6 ps.length c6) ps :: jS ps :: [oldA W]) := s_made S8 1 1 [] none 0
          clear hln hsl hs1 hs2 hu ht zt
          go_wp2_with fail
          refine hmd.mono ?_
          rintro e w9 ⟨rfl, S9⟩
          clear S8 hmd
          have S10 := S9.box #[.int .i64 3, .int .i64 1, .int .i64 1, .int .i64 0, .slice none 0 0, .string (S []), .bool false, .bool false] 61 rfl
          go_upto_region 18 with fail
          generalize w9.alloc (.cells #[.int .i64 3, .int .i64 1, .int .i64 1, .int .i64 0, .slice none 0 0, .string (S []), .bool false, .bool false] 61) = w10 at *
          generalize w9.heap.size = cb at *
          clear S9
          have S11 := S10.box #[.int .i64 0, .int .i64 0, .int .i64 0, .slice none 0 0, .int .i64 ((k : Int) + 1), .string ⟨#[63]⟩, .int .i64 0, .int .i64 0, .int .i64 0, .int .i64 0, .int .i64 0, .int .i64 0, .slice none 0 0, .slice none 0 0, .int .i64 ((k : Int) + 1), .int .i64 0] 55 rfl
          go_upto_region 19 with fail
          generalize w10.alloc (.cells #[.int .i64 0, .int .i64 0, .int .i64 0, .slice none 0 0, .int .i64 ((k : Int) + 1), .string ⟨#[63]⟩, .int .i64 0, .int .i64 0, .int .i64 0, .int .i64 0, .int .i64 0, .int .i64 0, .slice none 0 0, .slice none 0 0, .int .i64 ((k : Int) + 1), .int .i64 0] 55) = w11 at *
          generalize w10.heap.size = ab at *
          clear S10
          have hkn := j_known (S11.bring 2) HSL.out
          rw [HS1.out] at hkn
          go_wp2_with fail
          refine hkn.mono ?_
          rintro e w12 ⟨rfl, S12⟩
          clear S11 hkn
          have x0 := (S12.bring 2).cell 0 _ rfl
          have x1 := (S12.bring 2).cell 1 _ rfl
          have x2 := (S12.bring 2).cell 2 _ rfl
          have x3 := (S12.bring 2).cell 3 _ rfl
          have x4 := (S12.bring 2).cell 4 _ rfl
          have x5 := (S12.bring 2).cell 5 _ rfl
          have x6 := (S12.bring 2).cell 6 _ rfl
          have x7 := (S12.bring 2).cell 7 _ rfl
          have y0 := (S12.bring 1).cell 0 _ rfl
          have y1 := (S12.bring 1).cell 1 _ rfl
          have y2 := (S12.bring 1).cell 2 _ rfl
          have y3 := (S12.bring 1).cell 3 _ rfl
          have y4 := (S12.bring 1).cell 4 _ rfl
          have y5 := (S12.bring 1).cell 5 _ rfl
          have y6 := (S12.bring 1).cell 6 _ rfl
          have y7 := (S12.bring 1).cell 7 _ rfl
          have y8 := (S12.bring 1).cell 8 _ rfl
          have y9 := (S12.bring 1).cell 9 _ rfl
          have y10 := (S12.bring 1).cell 10 _ rfl
          have y11 := (S12.bring 1).cell 11 _ rfl
          have y12 := (S12.bring 1).cell 12 _ rfl
          have y13 := (S12.bring 1).cell 13 _ rfl
          have y14 := (S12.bring 1).cell 14 _ rfl
          have y15 := (S12.bring 1).cell 15 _ rfl
          go_wp2_with fail
          refine (answer_far S12 HSL.out (by omega) (by omega) rfl (k : Int) (by omega) (by omega) HS2.out).mono ?_
          rintro e w13 ⟨rfl, S13⟩
          clear S12 x0 x1 x2 x3 x4 x5 x6 x7 y0 y1 y2 y3 y4 y5 y6 y7 y8 y9 y10 y11 y12 y13 y14 y15
          have y0 := (S13.bring 1).cell 0 _ rfl
          have y1 := (S13.bring 1).cell 1 _ rfl
          have y2 := (S13.bring 1).cell 2 _ rfl
          have y3 := (S13.bring 1).cell 3 _ rfl
          have y4 := (S13.bring 1).cell 4 _ rfl
          have y5 := (S13.bring 1).cell 5 _ rfl
          have y6 := (S13.bring 1).cell 6 _ rfl
          have y7 := (S13.bring 1).cell 7 _ rfl
          have y8 := (S13.bring 1).cell 8 _ rfl
          have y9 := (S13.bring 1).cell 9 _ rfl
          have y10 := (S13.bring 1).cell 10 _ rfl
          have y11 := (S13.bring 1).cell 11 _ rfl
          have y12 := (S13.bring 1).cell 12 _ rfl
          have y13 := (S13.bring 1).cell 13 _ rfl
          have y14 := (S13.bring 1).cell 14 _ rfl
          have y15 := (S13.bring 1).cell 15 _ rfl
          go_wp2_with fail
          refine (read_far S13 HSL.out (by omega) 0 (by omega) HS2.out _).mono ?_
          rintro e w14 ⟨rfl, S14⟩
          clear S13 y0 y1 y2 y3 y4 y5 y6 y7 y8 y9 y10 y11 y12 y13 y14 y15
          go_wp2_with fail
          refine (heard_far S14 HSL.out 1 _ _ HS2.out).mono ?_
          rintro e w15 ⟨rfl, S15⟩
          clear S14
          go_wp2_with fail
          refine (j_wrong S15).mono ?_
          rintro e w16 ⟨rfl, S16⟩
          clear S15
          go_wp2_with fail
          refine (j_told S16).mono ?_
          rintro e w17 ⟨rfl, S17⟩
          clear S16
          obtain ⟨adx, u, eadx, hu, zt⟩ := Src.at_ (S17.bring 3).srcOf (k := k) (by omega)
          cases eadx
          rw [show Ss T = T.map fun s => Value.string (S s) from rfl, List.getElem?_map, HT1.out] at hu
          cases hu
          have hco := commit_seen S17 HG0.out (by simp) HT0.out HJ.out HFU.out HSN.out HF.out.tl hTb HT1.out
          go_wp2_with fail
          refine hco.mono ?_
          rintro e w18 ⟨m2, ss2, rfl, hJ2, hF2, hSN2, S18⟩
          have hll := HSN.out.len
          have hln2 : ss2.length = T.length + 1 := hSN2.known hJ2 hF2 (k := T.length) (by omega) (fun i hi => by
              by_cases e : i = k
              · subst e
                rw [List.getElem?_set_self (by omega)]
              · rw [List.getElem?_set_ne (by omega), HP.out i hi]
                simp
                omega) hSN2.last
          have hkn2 := j_known S18 (by omega)
          rw [show ((ss2.length : Nat) : Int) - 1 = (T.length : Int) by omega] at hkn2
          clear S17 hco zt hJ2 hF2 hSN2 hln2 hll
          go_wp2_with fail
          refine hkn2.mono ?_
          rintro e w19 ⟨rfl, S19⟩
          have HS := hide (Sat.keep_all S19.drop.drop.drop.drop.drop.drop)
          clear S18 S19 hkn2
          go_wp2_with fail
          go_ret
          exact ⟨by simp, HS.out⟩
end Go.Proofs.YthgiamofndhehaaGreatDoor
