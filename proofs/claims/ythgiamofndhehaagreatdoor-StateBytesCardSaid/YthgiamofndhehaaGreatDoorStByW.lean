/- StateBytes, walked. No condition. -/
import Derived.Test.YthgiamofndhehaaGreatDoorStIs
import Derived.Test.YthgiamofndhehaaGreatDoorCmL
import Derived.Test.YthgiamofndhehaaGreatDoorStHead
import Derived.Deep.RegionHeld3
set_option linter.unusedVariables false
set_option linter.unusedSimpArgs false
namespace Go.Proofs.YthgiamofndhehaaGreatDoor
open Go.RowKit

theorem flat_cq (l : List CQ) : (l.flatMap fun q : CmdT × Option Addr × Nat => cmdL q.1 q.2.1 q.2.2) = l.flatMap cqL := rfl
theorem Sat.rowMax {g w : World} {L : List Asn} {e : TypeId} {size n : Nat} {v : Value} {xs : List Value} (S0 : Sat g w (rowA e size v n xs :: L)) : n ≤ 9223372036854775807 := by
  obtain ⟨A, cap, e, h1, h2, h3, h4⟩ := S0.row.form
  unfold maxLen at *
  omega
/-- equal answers are the same -/
theorem s_same_res {g w : World} {L : List Asn} {A B : Option Addr} {c d : Nat} {a1 a2 a4 : Int} {a3 : List OutT} (S0 : Sat g w (rowA 129 2 (.slice A a3.length c) a3.length (a3.flatMap outC) :: L)) (hB : rowA 129 2 (.slice B a3.length d) a3.length (a3.flatMap outC) ∈ L) :
    Calls Tryz.prog 36 #[.agg #[.int .i64 a1, .int .i64 a2, .slice A a3.length c, .int .i64 a4], .agg #[.int .i64 a1, .int .i64 a2, .slice B a3.length d, .int .i64 a4]] w fun e w' => e = .returned (.bool true) ∧ Sat g w' (rowA 129 2 (.slice A a3.length c) a3.length (a3.flatMap outC) :: L) := by
  have hm := S0.rowMax
  obtain ⟨L2, S2⟩ := S0.drop.mem_ hB
  refine (same_res w ⟨a1, a2, a3, a4⟩ ⟨a1, a2, a3, a4⟩ A B c d S0.srcT S2.srcT hm hm).mono ?_
  rintro e w' ⟨rfl, hk⟩
  exact ⟨by simp, S0.keep hk⟩

set_option maxRecDepth 100000 in
set_option maxHeartbeats 16000000 in
theorem sbytes_walk (W : World) (hG : GL W) (hT : TabE W) (A0 A1q : Option Addr) (q0 q1 : List CQ) (c0 c1 : Nat) (cut : Int) (hs0 : Src W 8 A0 q0.length (q0.flatMap cqL)) (hk0 : ∀ q ∈ q0, CqOk W q) (hl0 : q0.length ≤ 9223372036854775807)
    (hs1 : Src W 8 A1q q1.length (q1.flatMap cqL)) (hk1 : ∀ q ∈ q1, CqOk W q) (hl1 : q1.length ≤ 9223372036854775807) :
    Calls Tryz.prog 8 #[.slice A0 q0.length c0, .slice A1q q1.length c1, .int .i64 cut] W fun e W' => e = .returned (.bool true) ∧ Keeps (fun _ => False) W W' := by
  have HG0 := hide hG
  have HT0 := hide hT
  have HF0 := hide fun (w' : World) (L' : List Asn) (S' : Sat W w' L') (h : oldA W ∈ L') => s_fewq S' h q0 A0 c0 hs0 hk0 hl0
  have HF1 := hide fun (w' : World) (L' : List Asn) (S' : Sat W w' L') (h : oldA W ∈ L') => s_fewq S' h q1 A1q c1 hs1 hk1 hl1
  have HCM := hide fun (w' : World) (L' : List Asn) (S' : Sat W w' L') (h : oldA W ∈ L') => cmds_walk S' h A0 q0 c0 hs0 hk0
  have HAT := hide fun (w' : World) (L' : List Asn) (S' : Sat W w' L') (h : oldA W ∈ L') (k : Nat) (hk : k < q1.length) => cqs_at (s_atq S' h hs1) hk
  have HK1 := hide hk1
  clear hs0 hk0 hs1 hk1 hG hT
  go_enter Tryz.func8, Tryz.ntmps8
  go_wp2_with fail
  refine (head_state (Sat.start W) HG0.out (by simp)).mono ?_
  rintro e w1 ⟨rfl, S1⟩
  go_wp2_with fail
  refine (HF0.out _ _ S1 (by simp)).mono ?_
  rintro e w2 ⟨he, S2⟩
  clear S1 HF0
  rcases he with rfl | ⟨rfl, h40⟩
  · have HS := hide S2.keep_all
    clear S2
    go_wp2_with fail
    go_ret
    exact ⟨rfl, HS.out⟩
  go_wp2_with fail
  refine (HF1.out _ _ S2 (by simp)).mono ?_
  rintro e w3 ⟨he, S3⟩
  clear S2 HF1
  rcases he with rfl | ⟨rfl, h41⟩
  · have HS := hide S3.keep_all
    clear S3
    go_wp2_with fail
    go_ret
    exact ⟨rfl, HS.out⟩
  go_wp2_with fail
  refine (s_newst S3).mono ?_
  rintro e w4 ⟨bs, rfl, S4⟩
  clear S3
  go_wp2_with fail
  refine (HCM.out _ _ S4 (by simp) (by omega)).mono ?_
  rintro e w5 ⟨A2, c2, qs, rfl, hl2, hq2, S5⟩
  have HQ2 := hide hq2
  clear S4 HCM hq2
  go_wp2_with fail
  go_loopw [34] (fun i wr => ∃ k : Nat, k ≤ qs.length ∧ i = .int .i64 (k : Int) ∧ ∃ s, FitS s (1 + 8 * k) k ∧ Sat W wr (stateA bs s :: rowA 61 8 (.slice A2 qs.length c2) qs.length (qs.flatMap cqL) :: [oldA W])) (fun i _ => qs.length - (RowKit.intOf i).toNat)
  case atStart => exact ⟨0, by omega, rfl, st0, fit0, S5.p1⟩
  case round =>
    obtain ⟨k, hk, rfl, s, hf, S6⟩ := hrel
    clear S5
    have HF := hide hf
    clear hf
    by_cases hlt : k < qs.length
    · obtain ⟨ad, q, rfl, hx, z0, z1, z2, z3, z4, z5, z6, z7⟩ := cqs_at S6.p1.srcT hlt
      have hq := HQ2.out q (List.mem_of_getElem? hx)
      obtain ⟨⟨kd, ss, rq, nt, ops, pa, ki, oc⟩, A1, cap1⟩ := q
      have HTX := hide fun (w' : World) (L' : List Asn) (S' : Sat W w' L') (h : oldA W ∈ L') => s_textq S' h hq
      have htl := text_len (c := ⟨kd, ss, rq, nt, ops, pa, ki, oc⟩)
      simp only at z0 z1 z2 z3 z4 z5 z6 z7 HTX
      generalize (bytesF ⟨kd, ss, rq, nt, ops, pa, ki, oc⟩).1 = T at *
      have HSY := hide fun (w' : World) (L' : List Asn) (S' : Sat W w' (stateA bs s :: L')) (h : oldA W ∈ L') => s_sayst S' HG0.out h HT0.out HF.out (by omega) (t := T) (by omega)
      have HNX := hide (HF.out.step (by omega) (by omega) T)
      generalize applyF s T = X at *
      obtain ⟨⟨r1, r2, r3, r4⟩, x5⟩ := X
      have S7 := S6.box #[.int .i64 kd, .int .i64 ss, .int .i64 rq, .int .i64 nt, .slice A1 ops.length cap1, .string (S pa), .bool ki, .bool oc] 61 rfl
      have x0 := S7.cell 0 _ rfl
      have x1 := S7.cell 1 _ rfl
      have x2 := S7.cell 2 _ rfl
      have x3 := S7.cell 3 _ rfl
      have x4 := S7.cell 4 _ rfl
      have x5' := S7.cell 5 _ rfl
      have x6 := S7.cell 6 _ rfl
      have x7 := S7.cell 7 _ rfl
      clear hx hq HF
      go_upto_region 9 with fail
      generalize wr.alloc (.cells #[.int .i64 kd, .int .i64 ss, .int .i64 rq, .int .i64 nt, .slice A1 ops.length cap1, .string (S pa), .bool ki, .bool oc] 61) = w7 at *
      generalize wr.heap.size = cb at *
      clear S6 z0 z1 z2 z3 z4 z5 z6 z7
      go_wp2_with fail
      refine (HTX.out _ _ S7 (by simp)).mono ?_
      rintro e w8 ⟨rfl, S8⟩
      clear S7 HTX x0 x1 x2 x3 x4 x5' x6 x7
      go_wp2_with fail
      refine (HSY.out _ _ S8.p1 (by simp)).mono ?_
      rintro e w9 ⟨A9, c9, rfl, S9⟩
      have S10 := S9.drop.p1.drop
      clear S8 S9 HSY
      go_wp2_with fail
      go_roundw
      case rel => exact ⟨k + 1, by omega, by go_num, x5, by rw [show 1 + 8 * (k + 1) = 1 + 8 * k + 8 by omega]; exact HNX.out, S10⟩
      case measure => simp [RowKit.intOf]; omega
    · obtain rfl : k = qs.length := by omega
      have S7 : Sat W wr (stateA bs s :: [oldA W]) := S6.p1.drop
      clear S6
      have HRD := hide fun (w' : World) (L' : List Asn) (S' : Sat W w' L') (h : oldA W ∈ L') => s_readst S' HG0.out h HF.out
      have HRC := hide fun (w' : World) (L' : List Asn) (q : Nat) (hq : q < (layS s).length) (S' : Sat W w' L') (h : oldA W ∈ L') => s_readcut S' HG0.out h HF.out hq
      have HBY : Hid (∀ (w' : World) (L' : List Asn) (b : Nat) (u : StT), RelS s u → FitS u (1 + 8 * qs.length) qs.length → Sat W w' (stateA b u :: L') → Calls Tryz.prog 31 #[ptr b] w' fun e w2 => e = .returned (.string (S (layS s))) ∧ Sat W w2 (stateA b u :: L')) := hide fun w' L' b u hr hf S' => by
        have := s_bytesst S' hf
        rw [HF.out.lay_eq hr hf.gd.book.nd] at this
        exact this
      have HRR : Hid (RelS s s) := hide (by
        obtain ⟨M, n, hM, -⟩ := HF.out.it
        exact RelS.refl hM)
      have hb1 := HF.out.lay_le
      have hb0 := layS_pos s
      generalize layS s = B at *
      have hbi : (6 : Int) ≤ (B.length : Int) := by omega
      go_wp2_with fail
      refine (HBY.out _ _ bs s HRR.out HF.out S7).mono ?_
      rintro e w8 ⟨rfl, S8⟩
      clear S7
      go_wp2_with fail
      refine (HRD.out _ _ S8 (by simp)).mono ?_
      rintro e w9 ⟨bt, t, rfl, hrt, hft, S9⟩
      have HRT := hide hrt
      have HFT := hide hft
      have HAT1 : Hid (t.at_ = s.at_) := hide hrt.at_
      clear S8 HRD hrt hft
      go_wp2_with fail
      refine (HBY.out _ _ bt t HRT.out HFT.out S9).mono ?_
      rintro e w10 ⟨rfl, S10⟩
      clear S9
      go_wp2_with fail
      refine (s_isst S10 HFT.out HF.out (.inr HRT.out)).mono ?_
      rintro e w11 ⟨rfl, S11⟩
      clear S10
      have hat1 := s_atst S11
      rw [HAT1.out] at hat1
      go_wp2_with fail
      refine hat1.mono ?_
      rintro e w12 ⟨rfl, S12⟩
      clear S11 hat1
      go_wp2_with fail
      refine (s_atst S12.p1).mono ?_
      rintro e w13 ⟨rfl, S13⟩
      clear S12
      have hK : 0 ≤ bits .and .i64 cut 65535 ∧ bits .and .i64 cut 65535 ≤ 65535 := and_le cut 65535 (by decide)
      have hK1 := hK.1
      obtain ⟨q, hq⟩ : ∃ q : Nat, (bits .and .i64 cut 65535).tmod (B.length : Int) = (q : Int) := ⟨(bits .and .i64 cut 65535 % (B.length : Int)).toNat, by
        rw [Int.tmod_eq_emod_of_nonneg hK.1]
        have := Int.emod_nonneg (bits .and .i64 cut 65535) (b := (B.length : Int)) (by omega)
        omega⟩
      have hq2 : q < B.length := by
        have := Int.emod_lt_of_pos (bits .and .i64 cut 65535) (b := (B.length : Int)) (by omega)
        rw [← Int.tmod_eq_emod_of_nonneg hK.1, hq] at this
        omega
      have hext : (S B).extract 0 q = S (B.take q) := by rw [S_extract]; rfl
      have HRQ := hide (HRC.out w13 _ q hq2 S13 (by simp))
      generalize B.take q = BQ at *
      clear HRC
      go_wp2_with fail
      refine HRQ.out.mono ?_
      rintro e w14 ⟨rfl, S14⟩
      clear S13 HRQ hq hK hK1 hext hq2
      go_wp2_with fail
      refine (s_clonest S14 HF.out).mono ?_
      rintro e w15 ⟨bc, c, rfl, hrc, hfc, S15⟩
      have HRC := hide hrc
      have HFC := hide hfc
      clear S14 hrc hfc
      go_wp2_with fail
      refine (s_clonest S15.p1 HF.out).mono ?_
      rintro e w16 ⟨bd, d, rfl, hrd, hfd, S16⟩
      have HRDd := hide hrd
      have HFD := hide hfd
      have S17 : Sat W w16 (stateA bs s :: stateA bt t :: stateA bc c :: stateA bd d :: [oldA W]) := (((S16.bring 2).bring 3).bring 3)
      clear S15 S16 hrd hfd
      go_wp2_with fail
      go_loopw [94] (fun i wr => ∃ k : Nat, k ≤ q1.length ∧ i = .int .i64 (k : Int) ∧ ∃ s2 t2 c2, FitS s2 (1 + 8 * qs.length + 8 * k) (qs.length + k) ∧ FitS t2 (1 + 8 * qs.length + 8 * k) (qs.length + k) ∧ FitS c2 (1 + 8 * qs.length + 8 * k) (qs.length + k) ∧ RelS s2 t2 ∧ RelS s2 c2 ∧ Sat W wr (stateA bs s2 :: stateA bt t2 :: stateA bc c2 :: stateA bd d :: [oldA W])) (fun i _ => q1.length - (RowKit.intOf i).toNat)
      case atStart => exact ⟨0, by omega, rfl, s, t, c, HF.out, HFT.out, HFC.out, HRT.out, HRC.out, S17⟩
      case round =>
        obtain ⟨k, hk, rfl, s2, t2, c2', hfs, hft, hfc, hrt, hrc, S18⟩ := hrel
        clear S17 HF HFT HFC HRT HRC HAT1 HRR
        have HFS := hide hfs
        have HFT := hide hft
        have HFC := hide hfc
        have HRT := hide hrt
        have HRC := hide hrc
        clear hfs hft hfc hrt hrc
        by_cases hlt : k < q1.length
        · obtain ⟨ad, q, rfl, hx, z0, z1, z2, z3, z4, z5, z6, z7⟩ := HAT.out wr _ S18 (by simp) k hlt
          have hq := HK1.out q (List.mem_of_getElem? hx)
          obtain ⟨⟨kd, ss, rq, nt, ops, pa, ki, oc⟩, A1, cap1⟩ := q
          have HTX := hide fun (w' : World) (L' : List Asn) (S' : Sat W w' L') (h : oldA W ∈ L') => s_textq S' h hq
          have htl := text_len (c := ⟨kd, ss, rq, nt, ops, pa, ki, oc⟩)
          simp only at z0 z1 z2 z3 z4 z5 z6 z7 HTX
          generalize (bytesF ⟨kd, ss, rq, nt, ops, pa, ki, oc⟩).1 = T at *
          have HSY := hide fun (w' : World) (L' : List Asn) (S' : Sat W w' (stateA bs s2 :: L')) (h : oldA W ∈ L') => s_sayst S' HG0.out h HT0.out HFS.out (by omega) (t := T) (by omega)
          have HTY := hide fun (w' : World) (L' : List Asn) (S' : Sat W w' (stateA bt t2 :: L')) (h : oldA W ∈ L') => s_sayst S' HG0.out h HT0.out HFT.out (by omega) (t := T) (by omega)
          have HCY := hide fun (w' : World) (L' : List Asn) (S' : Sat W w' (stateA bc c2' :: L')) (h : oldA W ∈ L') => s_sayst S' HG0.out h HT0.out HFC.out (by omega) (t := T) (by omega)
          obtain ⟨et1, et2⟩ := HFS.out.same (by omega) HRT.out T
          obtain ⟨ec1, ec2⟩ := HFS.out.same (by omega) HRC.out T
          rw [et1] at HTY
          rw [ec1] at HCY
          have HNS := hide (HFS.out.step (by omega) (by omega) T)
          have HNT := hide (HFT.out.step (by omega) (by omega) T)
          have HNC := hide (HFC.out.step (by omega) (by omega) T)
          have HET := hide et2
          have HEC := hide ec2
          clear et1 et2 ec1 ec2
          generalize (applyF t2 T).2 = t9 at *
          generalize (applyF c2' T).2 = c9s at *
          generalize applyF s2 T = X at *
          obtain ⟨⟨a1, a2, a3, a4⟩, s9⟩ := X
          simp only at HSY HTY HCY HNS HNT HNC HET HEC
          have S19 := S18.box #[.int .i64 kd, .int .i64 ss, .int .i64 rq, .int .i64 nt, .slice A1 ops.length cap1, .string (S pa), .bool ki, .bool oc] 61 rfl
          have x0 := S19.cell 0 _ rfl
          have x1 := S19.cell 1 _ rfl
          have x2 := S19.cell 2 _ rfl
          have x3 := S19.cell 3 _ rfl
          have x4 := S19.cell 4 _ rfl
          have x5 := S19.cell 5 _ rfl
          have x6 := S19.cell 6 _ rfl
          have x7 := S19.cell 7 _ rfl
          clear hx hq HFS HFT HFC HRT HRC
          go_upto_region 23 with fail
          generalize wr.alloc (.cells #[.int .i64 kd, .int .i64 ss, .int .i64 rq, .int .i64 nt, .slice A1 ops.length cap1, .string (S pa), .bool ki, .bool oc] 61) = w19 at *
          generalize wr.heap.size = cb at *
          clear S18 z0 z1 z2 z3 z4 z5 z6 z7
          go_wp2_with fail
          refine (HTX.out _ _ S19 (by simp)).mono ?_
          rintro e w20 ⟨rfl, S20⟩
          clear S19
          go_wp2_with fail
          refine (HSY.out _ _ S20.p1 (by simp)).mono ?_
          rintro e w21 ⟨A9, c9, rfl, S21⟩
          have S22a := S21.box #[.int .i64 a1, .int .i64 a2, .slice A9 a3.length c9, .int .i64 a4] 52 rfl
          go_upto_region 24 with fail
          have S22 : Sat W (w21.alloc (.cells #[.int .i64 a1, .int .i64 a2, .slice A9 a3.length c9, .int .i64 a4] 52)) (cellsA cb 61 #[.int .i64 kd, .int .i64 ss, .int .i64 rq, .int .i64 nt, .slice A1 ops.length cap1, .string (S pa), .bool ki, .bool oc] :: cellsA w21.heap.size 52 #[.int .i64 a1, .int .i64 a2, .slice A9 a3.length c9, .int .i64 a4] :: rowA 129 2 (.slice A9 a3.length c9) a3.length (a3.flatMap outC) :: stateA bs s9 :: stateA bt t2 :: stateA bc c2' :: stateA bd d :: [oldA W]) := S22a.bring 3
          generalize w21.alloc (.cells #[.int .i64 a1, .int .i64 a2, .slice A9 a3.length c9, .int .i64 a4] 52) = w22 at *
          generalize w21.heap.size = rb at *
          clear S20 S21 S22a x0 x1 x2 x3 x4 x5 x6 x7
          have HX : Hid (∀ (w' : World) (L' : List Asn), Sat W w' L' → cellsA cb 61 #[.int .i64 kd, .int .i64 ss, .int .i64 rq, .int .i64 nt, .slice A1 ops.length cap1, .string (S pa), .bool ki, .bool oc] ∈ L' → cellsA rb 52 #[.int .i64 a1, .int .i64 a2, .slice A9 a3.length c9, .int .i64 a4] ∈ L' → w'.cell? ⟨cb, 0, none⟩ = some (.int .i64 kd) ∧ w'.cell? ⟨cb, 1, none⟩ = some (.int .i64 ss) ∧ w'.cell? ⟨cb, 2, none⟩ = some (.int .i64 rq) ∧ w'.cell? ⟨cb, 3, none⟩ = some (.int .i64 nt) ∧ w'.cell? ⟨cb, 4, none⟩ = some (.slice A1 ops.length cap1) ∧ w'.cell? ⟨cb, 5, none⟩ = some (.string (S pa)) ∧ w'.cell? ⟨cb, 6, none⟩ = some (.bool ki) ∧ w'.cell? ⟨cb, 7, none⟩ = some (.bool oc) ∧ w'.cell? ⟨rb, 0, none⟩ = some (.int .i64 a1) ∧ w'.cell? ⟨rb, 1, none⟩ = some (.int .i64 a2) ∧ w'.cell? ⟨rb, 2, none⟩ = some (.slice A9 a3.length c9) ∧ w'.cell? ⟨rb, 3, none⟩ = some (.int .i64 a4)) := hide fun w' L' S' h1 h2 => ⟨S'.cell_of h1 0 _ rfl, S'.cell_of h1 1 _ rfl, S'.cell_of h1 2 _ rfl, S'.cell_of h1 3 _ rfl, S'.cell_of h1 4 _ rfl, S'.cell_of h1 5 _ rfl, S'.cell_of h1 6 _ rfl, S'.cell_of h1 7 _ rfl, S'.cell_of h2 0 _ rfl, S'.cell_of h2 1 _ rfl, S'.cell_of h2 2 _ rfl, S'.cell_of h2 3 _ rfl⟩
          obtain ⟨x0, x1, x2, x3, x4, x5, x6, x7, y0, y1, y2, y3⟩ := HX.out _ _ S22 (by simp) (by simp)
          go_region_held3 (fun v' => v'.cell? ⟨cb, 0, none⟩ = some (.int .i64 kd) ∧ v'.cell? ⟨cb, 1, none⟩ = some (.int .i64 ss) ∧ v'.cell? ⟨cb, 2, none⟩ = some (.int .i64 rq) ∧ v'.cell? ⟨cb, 3, none⟩ = some (.int .i64 nt) ∧ v'.cell? ⟨cb, 4, none⟩ = some (.slice A1 ops.length cap1) ∧ v'.cell? ⟨cb, 5, none⟩ = some (.string (S pa)) ∧ v'.cell? ⟨cb, 6, none⟩ = some (.bool ki) ∧ v'.cell? ⟨cb, 7, none⟩ = some (.bool oc) ∧ v'.cell? ⟨rb, 0, none⟩ = some (.int .i64 a1) ∧ v'.cell? ⟨rb, 1, none⟩ = some (.int .i64 a2) ∧ v'.cell? ⟨rb, 2, none⟩ = some (.slice A9 a3.length c9) ∧ v'.cell? ⟨rb, 3, none⟩ = some (.int .i64 a4)) (first
            | (go_keep; done)
            | exact HX.out _ _ (Sat.keep S30 (by (repeat (first | exact Keeps.refl _ _ | refine Keeps.alloc ?_ _ | refine Keeps.drew ?_ | refine Keeps.drewN ?_ _)))) (by simp) (by simp)
            | exact HX.out _ _ (Sat.keep S29 (by (repeat (first | exact Keeps.refl _ _ | refine Keeps.alloc ?_ _ | refine Keeps.drew ?_ | refine Keeps.drewN ?_ _)))) (by simp) (by simp)
            | exact HX.out _ _ (Sat.keep S28 (by (repeat (first | exact Keeps.refl _ _ | refine Keeps.alloc ?_ _ | refine Keeps.drew ?_ | refine Keeps.drewN ?_ _)))) (by simp) (by simp)
            | exact HX.out _ _ (Sat.keep S27 (by (repeat (first | exact Keeps.refl _ _ | refine Keeps.alloc ?_ _ | refine Keeps.drew ?_ | refine Keeps.drewN ?_ _)))) (by simp) (by simp)
            | exact HX.out _ _ (Sat.keep S26 (by (repeat (first | exact Keeps.refl _ _ | refine Keeps.alloc ?_ _ | refine Keeps.drew ?_ | refine Keeps.drewN ?_ _)))) (by simp) (by simp)
            | exact HX.out _ _ (Sat.keep S25 (by (repeat (first | exact Keeps.refl _ _ | refine Keeps.alloc ?_ _ | refine Keeps.drew ?_ | refine Keeps.drewN ?_ _)))) (by simp) (by simp)
            | exact HX.out _ _ (Sat.keep S24 (by (repeat (first | exact Keeps.refl _ _ | refine Keeps.alloc ?_ _ | refine Keeps.drew ?_ | refine Keeps.drewN ?_ _)))) (by simp) (by simp)
            | exact HX.out _ _ (Sat.keep S23 (by (repeat (first | exact Keeps.refl _ _ | refine Keeps.alloc ?_ _ | refine Keeps.drew ?_ | refine Keeps.drewN ?_ _)))) (by simp) (by simp)
            | exact HX.out _ _ (Sat.keep S22 (by (repeat (first | exact Keeps.refl _ _ | refine Keeps.alloc ?_ _ | refine Keeps.drew ?_ | refine Keeps.drewN ?_ _)))) (by simp) (by simp)) (first
            | (go_at_call 33; refine (s_isst (show Sat W _ (stateA bc c9s :: stateA bs s9 :: stateA bt t9 :: rowA 129 2 (.slice A11 a3.length c11) a3.length (a3.flatMap outC) :: rowA 129 2 (.slice A10 a3.length c10) a3.length (a3.flatMap outC) :: cellsA cb 61 #[.int .i64 kd, .int .i64 ss, .int .i64 rq, .int .i64 nt, .slice A1 ops.length cap1, .string (S pa), .bool ki, .bool oc] :: cellsA rb 52 #[.int .i64 a1, .int .i64 a2, .slice A9 a3.length c9, .int .i64 a4] :: rowA 129 2 (.slice A9 a3.length c9) a3.length (a3.flatMap outC) :: stateA bd d :: [oldA W]) from by (repeat (first | refine Sat.drew ?_ | refine Sat.drewN ?_ _)); exact ((S29.bring 1).bring 3)) HNC.out HNS.out (.inr HEC.out)).mono ?_; rintro e w30 ⟨rfl, S30⟩; obtain ⟨x0, x1, x2, x3, x4, x5, x6, x7, y0, y1, y2, y3⟩ := HX.out _ _ S30 (by simp) (by simp))
            | (go_at_call 33; refine (s_isst (show Sat W _ (stateA bt t9 :: stateA bs s9 :: rowA 129 2 (.slice A11 a3.length c11) a3.length (a3.flatMap outC) :: stateA bc c9s :: rowA 129 2 (.slice A10 a3.length c10) a3.length (a3.flatMap outC) :: cellsA cb 61 #[.int .i64 kd, .int .i64 ss, .int .i64 rq, .int .i64 nt, .slice A1 ops.length cap1, .string (S pa), .bool ki, .bool oc] :: cellsA rb 52 #[.int .i64 a1, .int .i64 a2, .slice A9 a3.length c9, .int .i64 a4] :: rowA 129 2 (.slice A9 a3.length c9) a3.length (a3.flatMap outC) :: stateA bd d :: [oldA W]) from by (repeat (first | refine Sat.drew ?_ | refine Sat.drewN ?_ _)); exact ((S28.bring 7).bring 4)) HNT.out HNS.out (.inr HET.out)).mono ?_; rintro e w29 ⟨rfl, S29⟩; obtain ⟨x0, x1, x2, x3, x4, x5, x6, x7, y0, y1, y2, y3⟩ := HX.out _ _ S29 (by simp) (by simp))
            | (go_at_call 36; refine (s_same_res (show Sat W _ (rowA 129 2 (.slice A11 a3.length c11) a3.length (a3.flatMap outC) :: stateA bc c9s :: rowA 129 2 (.slice A10 a3.length c10) a3.length (a3.flatMap outC) :: stateA bt t9 :: cellsA cb 61 #[.int .i64 kd, .int .i64 ss, .int .i64 rq, .int .i64 nt, .slice A1 ops.length cap1, .string (S pa), .bool ki, .bool oc] :: cellsA rb 52 #[.int .i64 a1, .int .i64 a2, .slice A9 a3.length c9, .int .i64 a4] :: rowA 129 2 (.slice A9 a3.length c9) a3.length (a3.flatMap outC) :: stateA bs s9 :: stateA bd d :: [oldA W]) from by (repeat (first | refine Sat.drew ?_ | refine Sat.drewN ?_ _)); exact S27) (by simp)).mono ?_; rintro e w28 ⟨rfl, S28⟩; obtain ⟨x0, x1, x2, x3, x4, x5, x6, x7, y0, y1, y2, y3⟩ := HX.out _ _ S28 (by simp) (by simp))
            | (go_at_call 29; refine (HCY.out _ _ (show Sat W _ (stateA bc c2' :: rowA 129 2 (.slice A10 a3.length c10) a3.length (a3.flatMap outC) :: stateA bt t9 :: cellsA cb 61 #[.int .i64 kd, .int .i64 ss, .int .i64 rq, .int .i64 nt, .slice A1 ops.length cap1, .string (S pa), .bool ki, .bool oc] :: cellsA rb 52 #[.int .i64 a1, .int .i64 a2, .slice A9 a3.length c9, .int .i64 a4] :: rowA 129 2 (.slice A9 a3.length c9) a3.length (a3.flatMap outC) :: stateA bs s9 :: stateA bd d :: [oldA W]) from by (repeat (first | refine Sat.drew ?_ | refine Sat.drewN ?_ _)); exact (S26.bring 6)) (by simp)).mono ?_; rintro e w27 ⟨A11, c11, rfl, S27⟩; obtain ⟨x0, x1, x2, x3, x4, x5, x6, x7, y0, y1, y2, y3⟩ := HX.out _ _ S27 (by simp) (by simp))
            | (go_at_call 30; refine (HTX.out _ _ (show Sat W _ (rowA 129 2 (.slice A10 a3.length c10) a3.length (a3.flatMap outC) :: stateA bt t9 :: cellsA cb 61 #[.int .i64 kd, .int .i64 ss, .int .i64 rq, .int .i64 nt, .slice A1 ops.length cap1, .string (S pa), .bool ki, .bool oc] :: cellsA rb 52 #[.int .i64 a1, .int .i64 a2, .slice A9 a3.length c9, .int .i64 a4] :: rowA 129 2 (.slice A9 a3.length c9) a3.length (a3.flatMap outC) :: stateA bs s9 :: stateA bc c2' :: stateA bd d :: [oldA W]) from by (repeat (first | refine Sat.drew ?_ | refine Sat.drewN ?_ _)); exact S25) (by simp)).mono ?_; rintro e w26 ⟨rfl, S26⟩; obtain ⟨x0, x1, x2, x3, x4, x5, x6, x7, y0, y1, y2, y3⟩ := HX.out _ _ S26 (by simp) (by simp))
            | (go_at_call 36; refine (s_same_res (show Sat W _ (rowA 129 2 (.slice A10 a3.length c10) a3.length (a3.flatMap outC) :: stateA bt t9 :: cellsA cb 61 #[.int .i64 kd, .int .i64 ss, .int .i64 rq, .int .i64 nt, .slice A1 ops.length cap1, .string (S pa), .bool ki, .bool oc] :: cellsA rb 52 #[.int .i64 a1, .int .i64 a2, .slice A9 a3.length c9, .int .i64 a4] :: rowA 129 2 (.slice A9 a3.length c9) a3.length (a3.flatMap outC) :: stateA bs s9 :: stateA bc c2' :: stateA bd d :: [oldA W]) from by (repeat (first | refine Sat.drew ?_ | refine Sat.drewN ?_ _)); exact S24) (by simp)).mono ?_; rintro e w25 ⟨rfl, S25⟩; obtain ⟨x0, x1, x2, x3, x4, x5, x6, x7, y0, y1, y2, y3⟩ := HX.out _ _ S25 (by simp) (by simp))
            | (go_at_call 29; refine (HTY.out _ _ (show Sat W _ (stateA bt t2 :: cellsA cb 61 #[.int .i64 kd, .int .i64 ss, .int .i64 rq, .int .i64 nt, .slice A1 ops.length cap1, .string (S pa), .bool ki, .bool oc] :: cellsA rb 52 #[.int .i64 a1, .int .i64 a2, .slice A9 a3.length c9, .int .i64 a4] :: rowA 129 2 (.slice A9 a3.length c9) a3.length (a3.flatMap outC) :: stateA bs s9 :: stateA bc c2' :: stateA bd d :: [oldA W]) from by (repeat (first | refine Sat.drew ?_ | refine Sat.drewN ?_ _)); exact (S23.bring 4)) (by simp)).mono ?_; rintro e w24 ⟨A10, c10, rfl, S24⟩; obtain ⟨x0, x1, x2, x3, x4, x5, x6, x7, y0, y1, y2, y3⟩ := HX.out _ _ S24 (by simp) (by simp))
            | (go_at_call 30; refine (HTX.out _ _ (show Sat W _ (cellsA cb 61 #[.int .i64 kd, .int .i64 ss, .int .i64 rq, .int .i64 nt, .slice A1 ops.length cap1, .string (S pa), .bool ki, .bool oc] :: cellsA rb 52 #[.int .i64 a1, .int .i64 a2, .slice A9 a3.length c9, .int .i64 a4] :: rowA 129 2 (.slice A9 a3.length c9) a3.length (a3.flatMap outC) :: stateA bs s9 :: stateA bt t2 :: stateA bc c2' :: stateA bd d :: [oldA W]) from by (repeat (first | refine Sat.drew ?_ | refine Sat.drewN ?_ _)); exact S22) (by simp)).mono ?_; rintro e w23 ⟨rfl, S23⟩; obtain ⟨x0, x1, x2, x3, x4, x5, x6, x7, y0, y1, y2, y3⟩ := HX.out _ _ S23 (by simp) (by simp)))
          have S31 : Sat W w30 (stateA bs s9 :: stateA bt t9 :: stateA bc c9s :: stateA bd d :: [oldA W]) := (((((((S30.bring 3).drop.bring 3).drop.bring 3).drop.bring 3).drop.bring 3).drop.bring 2).bring 2)
          clear S22 S23 S24 S25 S26 S27 S28 S29 S30 x0 x1 x2 x3 x4 x5 x6 x7 y0 y1 y2 y3 HX HTX HSY HTY HCY
          go_wp2_with fail
          go_roundw
          case rel => exact ⟨k + 1, by omega, by go_num, s9, t9, c9s, by rw [show 1 + 8 * qs.length + 8 * (k + 1) = 1 + 8 * qs.length + 8 * k + 8 by omega]; exact HNS.out, by rw [show 1 + 8 * qs.length + 8 * (k + 1) = 1 + 8 * qs.length + 8 * k + 8 by omega]; exact HNT.out, by rw [show 1 + 8 * qs.length + 8 * (k + 1) = 1 + 8 * qs.length + 8 * k + 8 by omega]; exact HNC.out, HET.out, HEC.out, S31⟩
          case measure => simp [RowKit.intOf]; omega
        · obtain rfl : k = q1.length := by omega
          have S19 : Sat W wr (stateA bd d :: stateA bs s2 :: stateA bt t2 :: stateA bc c2' :: [oldA W]) := S18.bring 3
          clear S18 HAT HK1
          go_wp2_with fail
          refine (HBY.out _ _ bd d HRDd.out HFD.out S19).mono ?_
          rintro e w20 ⟨rfl, S20⟩
          clear S19
          go_wp2_with fail
          refine (s_num [0] ((S20.bytesNil).box _ _ rfl) rfl (by simp) (by simp)).mono ?_
          rintro e w21 ⟨v21, rfl, S21⟩
          obtain ⟨A21, c21, e21, -⟩ := S21.rowB.form
          have e22 : ([] ++ nums [0]).length = 6 := by simp [nums_length]
          rw [e22] at e21
          subst e21
          have HK := hide (Sat.keep_all S21.drop.drop.drop.drop.drop)
          clear S20 S21
          go_wp2_with fail
          go_ret
          exact ⟨by simp, HK.out⟩
end Go.Proofs.YthgiamofndhehaaGreatDoor
