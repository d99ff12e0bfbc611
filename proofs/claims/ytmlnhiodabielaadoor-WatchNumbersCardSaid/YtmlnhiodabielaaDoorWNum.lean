/- The statement WatchNumbers: its walk. No condition. -/
import Derived.Test.YtmlnhiodabielaaDoorWNuL
import Derived.Test.YtmlnhiodabielaaDoorWAll
set_option linter.unusedVariables false
set_option linter.unusedSimpArgs false
namespace Go.Proofs.YtmlnhiodabielaaDoor
open Go.RowKit

/-- eight numbers -/
abbrev I8 (f : Nat → Int) : Array Value := ((List.range 8).map fun s => Value.int .i64 (f s)).toArray
theorem I8_at (f : Nat → Int) (s : Nat) (h : s < 8) : (I8 f)[s]? = some (.int .i64 (f s)) := by
  simp [I8, h]
theorem I8_set (f : Nat → Int) (s : Nat) (v : Int) : (I8 f).setIfInBounds s (.int .i64 v) = I8 (fun t => if t = s then v else f t) := by
  apply Array.ext'
  simp only [I8, List.setIfInBounds_toArray]
  apply List.ext_getElem?
  intro j
  rw [List.getElem?_set]
  by_cases hj : s = j
  · subst hj
    by_cases h8 : s < 8
    · simp [h8]
    · simp [h8]
  · rw [if_neg hj]
    simp only [List.getElem?_map]
    by_cases h8 : j < 8
    · simp [h8, Ne.symm hj]
    · rw [List.getElem?_eq_none (by simp; omega)]
      rfl
theorem I8_zero : I8 (fun _ => 0) = #[.int .i64 0, .int .i64 0, .int .i64 0, .int .i64 0, .int .i64 0, .int .i64 0, .int .i64 0, .int .i64 0] := rfl

set_option maxRecDepth 100000 in
set_option maxHeartbeats 16000000 in
theorem numbers_walk (W : World) (hG : GL W) (A : Option Addr) (acts : List ActW) (c : Nat) (hs : ActsSrc W A acts) (hl : acts.length ≤ 9223372036854775807) :
    Calls Tryd.prog 4 #[.slice A acts.length c] W fun e w' => e = .returned (.bool true) ∧ Keeps (fun _ => False) W w' := by
  have HSRC : Hid (∀ {w : World} {L : List Asn}, Sat W w L → oldA W ∈ L → ActsSrc w A acts) := fun S hm => hs.of S hm
  have HS0 := hide hs
  have hfew : fewW acts = true → (∀ a ∈ acts, a.path.length ≤ 12) ∧ acts.length ≤ 60 := fun h => by
    simp only [fewW, Bool.and_eq_true, List.all_eq_true, decide_eq_true_eq] at h
    exact h
  have HFEW := hide hfew
  have HF : Hid (∀ w, ActsSrc w A acts → Calls Tryd.prog 10 #[.slice A acts.length c] w fun e w' => e = .returned (.bool (fewW acts)) ∧ Keeps (fun _ => False) w w') := fun w h => few_wacts w A c acts h hl
  generalize fewW acts = fw at *
  clear hs hfew
  go_enter Tryd.func4, Tryd.ntmps4
  go_wp2_with fail
  refine (head_watch (Sat.start W) hG (by simp)).mono ?_
  rintro e w0 ⟨rfl, S0⟩
  go_wp2_with fail
  refine (HF.out _ (HSRC.out S0 (by simp))).mono ?_
  rintro e w1 ⟨rfl, hk1⟩
  have S1 := S0.keep hk1
  clear S0 hk1 HF
  cases fw
  · have HK := hide S1.keep_all
    clear S1
    go_wp2_with fail
    go_ret
    exact ⟨rfl, HK.out⟩
  obtain ⟨hall, h60⟩ := HFEW.out rfl
  have HALL := hide hall
  clear hall HFEW
  go_wp2_with fail
  refine (new_book S1).mono ?_
  rintro e w2 ⟨t, rfl, S2⟩
  have S3 := model_new S2
  go_upto_region 7 with fail
  generalize w2.alloc (.cells #[.slice none 0 0, .slice none 0 0, .map none] 32) = w3 at *
  generalize w2.heap.size = mb at *
  have S4 := S3.p1
  clear S1 S2 S3
  go_upto_region 8 with fail
  have S5 := S4.box #[.int .i64 0, .int .i64 0, .int .i64 0, .int .i64 0, .int .i64 0, .int .i64 0, .int .i64 0, .int .i64 0] 3 rfl
  generalize w3.alloc (.cells #[.int .i64 0, .int .i64 0, .int .i64 0, .int .i64 0, .int .i64 0, .int .i64 0, .int .i64 0, .int .i64 0] 3) = w4 at *
  generalize w3.heap.size = lb at *
  clear S4
  go_upto_region 9 with fail
  have S6 := S5.box #[.int .i64 0, .int .i64 0, .int .i64 0, .int .i64 0, .int .i64 0, .int .i64 0, .int .i64 0, .int .i64 0] 3 rfl
  generalize w4.alloc (.cells #[.int .i64 0, .int .i64 0, .int .i64 0, .int .i64 0, .int .i64 0, .int .i64 0, .int .i64 0, .int .i64 0] 3) = w5 at *
  generalize w4.heap.size = nb at *
  clear S5
  have S7 : Sat W w5 (bookA t ⟨[], [], []⟩ :: modelA mb ⟨[], [], []⟩ :: cellsA nb 3 (I8 fun _ => 0) :: cellsA lb 3 (I8 fun _ => 0) :: [oldA W]) := S6.b3.b3
  clear S6
  go_wp2_with fail
  go_loopw [24] (fun i wr => ∃ k : Nat, k ≤ acts.length ∧ i = .int .i64 k ∧ ∃ (B : BookT) (ln wn : Nat → Int), Hid (InvW B k ∧ NumOk B ∧ (∀ s : Nat, s < 8 → 1 ≤ s → ln s = numF B.nos s) ∧ (∀ s : Nat, s < 8 → wn s ≤ (k : Int))) ∧ Sat W wr (bookA t B :: modelA mb B :: cellsA nb 3 (I8 wn) :: cellsA lb 3 (I8 ln) :: [oldA W])) (fun i _ => acts.length - (RowKit.intOf i).toNat)
  case atStart => exact ⟨0, by omega, rfl, _, _, _, hide ⟨InvW.nil, NumOk.nil, fun s _ _ => rfl, fun s _ => by simp⟩, S7⟩
  case round =>
    obtain ⟨k, hk, rfl, B, ln, wn, HI, S8⟩ := hrel
    clear S7
    by_cases hlt : k < acts.length
    · have hk0 : (0 : Int) ≤ (k : Int) := by omega
      have hk1 : (k : Int) < (acts.length : Int) := by omega
      obtain ⟨ad, x, rfl, hx, d0, d1, d2, d3, d4, d5⟩ := wact_at (HSRC.out S8 (by simp)).1 hlt
      have hmem := List.mem_of_getElem? hx
      have hps := HS0.out.2 x hmem
      have hp12 := HALL.out x hmem
      have HDO : Hid (∀ (w' : World) (L' : List Asn), Sat W w' (bookA t B :: modelA mb B :: L') → oldA W ∈ L' → Calls Tryd.prog 12 #[ptr t, ptr mb, actWV x, .int .i64 ((k : Int) + 1)] w' fun e w2 => e = .returned (.bool true) ∧ Sat W w2 (bookA t (doW B x ((k : Int) + 1)) :: modelA mb (doW B x ((k : Int) + 1)) :: L')) := hide fun w' L' S' h => do_watch S' hG h x hps hp12 HI.out.1 (by omega) ((k : Int) + 1)
      have hact := actI_at x.k
      obtain ⟨kk0, kk7⟩ := actI_lt x.k
      have HIN : Hid (actI x.k ≠ 6 → InvW (doW B x ((k : Int) + 1)) (k + 1) ∧ NumOk (doW B x ((k : Int) + 1)) ∧ ∀ s : Int, NewS (numF B.nos s) s ((k : Int) + 1) (doW B x ((k : Int) + 1)).es (numF (doW B x ((k : Int) + 1)).nos s)) := hide fun h6 => ⟨do_inv HI.out.1 x _, do_num HI.out.2.1 x _ h6, fun s => do_new HI.out.2.1 x _ h6 s⟩
      generalize doW B x ((k : Int) + 1) = B2 at *
      generalize actI x.k = kk at *
      have hwk : IntKind.i64.wrap kk = kk := IntWalk.i64_in _ ⟨by omega, by omega⟩
      clear hps hx hmem
      obtain ⟨a0, a1, a2, a3, a4, a5, a6, a7⟩ := x
      simp only at d0 d1 d2 d3 d4 d5 hact
      go_upto_region 12 with fail
      have S9 := S8.box #[.int .i64 a0, .int .i64 a1, .int .i64 a2, .slice a3 a5.length a4, .bool a6, .bool a7] 35 rfl
      generalize wr.alloc (.cells #[.int .i64 a0, .int .i64 a1, .int .i64 a2, .slice a3 a5.length a4, .bool a6, .bool a7] 35) = w6 at *
      generalize wr.heap.size = xb at *
      have x0 := S9.cell 0 _ rfl
      have x1 := S9.cell 1 _ rfl
      have x2 := S9.cell 2 _ rfl
      have x3 := S9.cell 3 _ rfl
      have x4 := S9.cell 4 _ rfl
      have x5 := S9.cell 5 _ rfl
      clear S8 d0 d1 d2 d3 d4 d5
      by_cases h6 : kk = 6
      · subst h6
        have SA := S9.drop
        clear S9 HDO HIN
        go_wp2_with fail
        go_roundw
        case rel => exact ⟨k + 1, by omega, by go_num, B, ln, wn, hide ⟨HI.out.1.mono (by omega), HI.out.2.1, HI.out.2.2.1, fun s h => by have := HI.out.2.2.2 s h; omega⟩, SA⟩
        case measure => simp [RowKit.intOf]; omega
      · have h6b : (kk == 6) = false := by simpa using h6
        obtain ⟨hi2, hn2, hnew⟩ := HIN.out h6
        have HI2 := hide hi2
        have HN2 := hide hn2
        have HNW := hide hnew
        have hes2 := hi2.es
        clear hi2 hn2 hnew HIN
        go_wp2_with fail
        refine (HDO.out _ _ S9.b2 (by simp)).mono ?_
        rintro e w7 ⟨rfl, SA⟩
        have SB := SA.p2.drop
        clear S9 SA x0 x1 x2 x3 x4 x5 HDO
        have hlw : ∀ s : Nat, s < 8 → 1 ≤ s → ln s = numF B.nos s := HI.out.2.2.1
        have hww : ∀ s : Nat, s < 8 → wn s ≤ (k : Int) := HI.out.2.2.2
        have HLW := hide hlw
        have HWW := hide hww
        have HNB := hide HI.out.1.nos
        clear hlw hww HI
        go_wp2_with fail
        go_loopw [9] (fun i wr => ∃ j : Nat, 1 ≤ j ∧ j ≤ 8 ∧ i = .int .i64 j ∧ ∃ (l2 w2 : Nat → Int), Hid ((∀ s : Nat, s < 8 → 1 ≤ s → l2 s = if s < j then numF B2.nos s else numF B.nos s) ∧ (∀ s : Nat, s < 8 → w2 s ≤ (k : Int) + 1)) ∧ Sat W wr (bookA t B2 :: modelA mb B2 :: cellsA nb 3 (I8 w2) :: cellsA lb 3 (I8 l2) :: [oldA W])) (fun i _ => 9 - (RowKit.intOf i).toNat)
        case atStart => exact ⟨1, by omega, by omega, rfl, ln, wn, hide ⟨fun s h1 h2 => by rw [if_neg (by omega)]; exact HLW.out s h1 h2, fun s h => by have := HWW.out s h; omega⟩, SB⟩
        case round =>
          obtain ⟨j, hj1, hj8, rfl, l2, w2, HJ, SC⟩ := hrel
          clear SB HLW HWW
          by_cases hlt2 : j < 8
          · have hj0 : (0 : Int) ≤ (j : Int) := by omega
            have hj9 : (j : Int) < 8 := by omega
            obtain ⟨o1, o2, ee1, ee2, ee3, ee4⟩ := HNW.out (j : Int)
            have hn0 : l2 j = numF B.nos j := by have := HJ.out.1 j hlt2 hj1; rwa [if_neg (by omega)] at this
            have hnb := HNB.out (j : Int)
            have hnb0 : 0 ≤ l2 j ∧ l2 j ≤ 40 * k := by rw [hn0]; exact hnb
            rw [← hn0] at ee2 ee3 ee4
            have hse : ∀ e ∈ o1 ++ o2, e.session = (j : Int) := fun e he => by
              rw [← ee1] at he
              exact of_decide_eq_true (List.mem_filter.1 he).2
            have hol : (o1 ++ o2).length ≤ 3000 := by
              rw [← ee1]
              exact Nat.le_trans (List.length_filter_le _ _) (by omega)
            have hev := events_book SC (by omega) (j : Int)
            rw [show (B2.es.filter fun x => decide (x.session = (j : Int))) = o1 ++ o2 from ee1] at hev
            have HEV := hide hev
            have HO1 := hide ee2
            have HO2 := hide ee3
            have HO4 := hide ee4
            have HSE := hide hse
            clear hev ee1 ee2 ee3 ee4 hse hn0 hnb
            generalize hLL : o1 ++ o2 = LL at *
            have HLL := hide hLL
            clear hLL
            obtain ⟨nn, hnn⟩ : ∃ nn, l2 j = nn := ⟨_, rfl⟩
            rw [hnn] at HO1 HO2 HO4 hnb0
            have HNN := hide hnn
            clear hnn
            go_wp2_with fail
            refine HEV.out.mono ?_
            rintro e w8 ⟨v, rfl, SD⟩
            obtain ⟨A5, c5, rfl, -⟩ := SD.row.form
            clear SC HEV
            go_wp2_with fail
            go_loopw [49] (fun i wr => ∃ q : Nat, q ≤ LL.length ∧ i = .int .i64 q ∧ ∃ (l3 w3 : Nat → Int), Hid (l3 j = nn + ((q - o1.length : Nat) : Int) ∧ (∀ s : Nat, s ≠ j → l3 s = l2 s) ∧ (∀ s : Nat, s < 8 → w3 s ≤ (k : Int) + 1)) ∧ Sat W wr (rowA 41 5 (.slice A5 LL.length c5) LL.length (LL.flatMap evC) :: bookA t B2 :: modelA mb B2 :: cellsA nb 3 (I8 w3) :: cellsA lb 3 (I8 l3) :: [oldA W])) (fun i _ => LL.length - (RowKit.intOf i).toNat)
            case atStart => exact ⟨0, by omega, rfl, l2, w2, hide ⟨by rw [HNN.out]; simp, fun s _ => rfl, HJ.out.2⟩, SD⟩
            case round =>
              obtain ⟨q, hq, rfl, l3, w3, HQ, SE⟩ := hrel
              clear SD
              by_cases hlt3 : q < LL.length
              · have hq0 : (0 : Int) ≤ (q : Int) := by omega
                have hq1 : (q : Int) < (LL.length : Int) := by omega
                obtain ⟨ad, y, rfl, hy, d0, d1, d2, d3, d4⟩ := ev_at SE.srcR hlt3
                have hys := HSE.out y (List.mem_of_getElem? hy)
                obtain ⟨LV, hLV⟩ : ∃ LV, l3 j = LV := ⟨_, rfl⟩
                obtain ⟨WV, hWV⟩ : ∃ WV, w3 j = WV := ⟨_, rfl⟩
                have hwv : WV ≤ (k : Int) + 1 := by rw [← hWV]; exact HQ.out.2.2 j hlt2
                have hlv : LV = nn + ((q - o1.length : Nat) : Int) := by rw [← hLV]; exact HQ.out.1
                obtain ⟨e0, e1, e2, e3, e4⟩ := y
                simp only at d0 d1 d2 d3 d4 hys
                subst hys
                go_upto_region 20 with fail
                have SF := SE.box #[.int .i64 (j : Int), .int .i64 e1, .string (Go.Proofs.YtmlnhiodabielaaDoor.S e2), .int .i64 e3, .int .i64 e4] 41 rfl
                generalize wr.alloc (.cells #[.int .i64 (j : Int), .int .i64 e1, .string (Go.Proofs.YtmlnhiodabielaaDoor.S e2), .int .i64 e3, .int .i64 e4] 41) = w9 at *
                generalize wr.heap.size = eb at *
                have y0 := SF.cell 0 _ rfl
                have y1 := SF.cell 1 _ rfl
                have y4 := SF.cell 4 _ rfl
                have z0 : w9.cell? ⟨nb, j, none⟩ = some (.int .i64 WV) := by rw [← hWV]; exact SF.p4.cell j _ (I8_at w3 j hlt2)
                have z1 : w9.cell? ⟨lb, j, none⟩ = some (.int .i64 LV) := by rw [← hLV]; exact SF.p5.cell j _ (I8_at l3 j hlt2)
                have HLV := hide hlv
                have HWV := hide hWV
                have HLX := hide hLV
                clear hLV hWV hlv SE d0 d1 d2 d3 d4
                by_cases hold : q < o1.length
                · have hle : e1 ≤ LV := by
                    have h1 := HO1.out _ (List.mem_of_getElem? (show o1[q]? = some ⟨(j : Int), e1, e2, e3, e4⟩ from by rw [← HLL.out, List.getElem?_append_left hold] at hy; exact hy))
                    have h2 := HLV.out
                    simp only at h1
                    omega
                  clear hy
                  go_quiet (fail)
                  go_wp2_with fail
                  go_roundw
                  case rel => exact ⟨q + 1, by omega, by go_num, l3, w3, hide ⟨by rw [HQ.out.1, show q + 1 - o1.length = q - o1.length by omega], HQ.out.2⟩, by have := SF.drop; (repeat (first | exact this | refine Sat.drew ?_ | refine Sat.drewN ?_ _))⟩
                  case measure => simp [RowKit.intOf]; omega
                · have hnw := HO2.out (q - o1.length) _ (show o2[q - o1.length]? = some ⟨(j : Int), e1, e2, e3, e4⟩ from by rw [← HLL.out, List.getElem?_append_right (by omega)] at hy; exact hy)
                  simp only at hnw
                  have hlv2 := HLV.out
                  obtain ⟨hnw1, hnw2⟩ := hnw
                  obtain rfl : e1 = LV + 1 := by omega
                  subst hnw2
                  have hq3 : q ≤ 3000 := by omega
                  have hlvb : 0 ≤ LV ∧ LV ≤ 10000 := by omega
                  obtain ⟨hlb0, hlb1⟩ := hlvb
                  have hgt : decide (LV + 1 ≤ LV) = false := by simp; omega
                  have hgt2 : ¬ (LV + 1 ≤ LV) := by omega
                  have hww : IntKind.i64.wrap (LV + 1) = LV + 1 := IntWalk.i64_in _ ⟨by omega, by omega⟩
                  have hwk2 : IntKind.i64.wrap ((k : Int) + 1) = (k : Int) + 1 := IntWalk.i64_in _ ⟨by omega, by omega⟩
                  have hwn : decide ((k : Int) + 1 < WV) = false := by simp; omega
                  have hwn2 : ¬ ((k : Int) + 1 < WV) := by omega
                  clear hy hnw1 hlv2
                  go_quiet (fail)
                  have SF1 := SF.drewN nq
                  clear y0 y1 y4 z0 z1 SF
                  generalize w9.drewN nq = wF at *
                  have y0 := SF1.cell 0 _ rfl
                  have y1 := SF1.cell 1 _ rfl
                  have y4 := SF1.cell 4 _ rfl
                  have z0 : wF.cell? ⟨nb, j, none⟩ = some (.int .i64 WV) := by rw [← HWV.out]; exact SF1.p4.cell j _ (I8_at w3 j hlt2)
                  have z1 : wF.cell? ⟨lb, j, none⟩ = some (.int .i64 LV) := by rw [← HLX.out]; exact SF1.p5.cell j _ (I8_at l3 j hlt2)
                  go_upto_region 21 with fail
                  go_quiet (fail)
                  have SG := SF1.drewN nq
                  clear y0 y1 y4 z0 z1 SF1
                  generalize wF.drewN nq = wG at *
                  have y1 := SG.cell 1 _ rfl
                  have cL : wG.cell? ⟨lb, j, none⟩ = some (.int .i64 LV) := by rw [← HLX.out]; exact SG.p5.cell j _ (I8_at l3 j hlt2)
                  have fL := SG.p5.cells_fz j
                  have SH := SG.p5.setc j (.int .i64 (LV + 1))
                  go_upto_region 24 with fail
                  clear y1 cL fL
                  generalize wG.setCell ⟨lb, j, none⟩ (.int .i64 (LV + 1)) = wH at *
                  have y4 := SH.p1.cell 4 _ rfl
                  have cN : wH.cell? ⟨nb, j, none⟩ = some (.int .i64 WV) := by rw [← HWV.out]; exact SH.p5.cell j _ (I8_at w3 j hlt2)
                  have fN := SH.p5.cells_fz j
                  have SI := SH.p5.setc j (.int .i64 ((k : Int) + 1))
                  rw [I8_set, I8_set] at SI
                  have HSI := hide ((SI.p2.drop).p4.p4.p4)
                  clear SG SH SI
                  go_wp2_with fail
                  go_roundw
                  case rel =>
                    refine ⟨q + 1, by omega, by go_num, _, _, hide ⟨?_, fun s h1 => ?_, fun s h1 => ?_⟩, HSI.out⟩
                    · simp only [if_true]
                      have := HLV.out
                      omega
                    · show (if s = j then LV + 1 else l3 s) = l2 s
                      rw [if_neg h1]
                      exact HQ.out.2.1 s h1
                    · show (if s = j then (k : Int) + 1 else w3 s) ≤ (k : Int) + 1
                      split
                      · omega
                      · exact HQ.out.2.2 s h1
                  case measure => simp [RowKit.intOf]; omega
              · obtain rfl : q = LL.length := by omega
                have SF := SE.drop
                have hll := congrArg List.length HLL.out
                rw [List.length_append] at hll
                go_wp2_with fail
                go_roundw
                case rel =>
                  refine ⟨j + 1, by omega, by omega, by go_num, l3, w3, hide ⟨fun s h1 h2 => ?_, HQ.out.2.2⟩, SF⟩
                  by_cases hsj : s = j
                  · subst hsj
                    rw [if_pos (by omega), HQ.out.1, HO4.out]
                    omega
                  · rw [HQ.out.2.1 s hsj, HJ.out.1 s h1 h2]
                    by_cases hs2 : s < j
                    · rw [if_pos hs2, if_pos (by omega)]
                    · rw [if_neg hs2, if_neg (by omega)]
                case measure => simp [RowKit.intOf]; omega
          · obtain rfl : j = 8 := by omega
            go_wp2_with fail
            go_roundw
            case rel => exact ⟨k + 1, by omega, by go_num, B2, l2, w2, hide ⟨HI2.out, HN2.out, fun s h1 h2 => by have := HJ.out.1 s h1 h2; rwa [if_pos h1] at this, fun s h => by have := HJ.out.2 s h; omega⟩, SC⟩
            case measure => simp [RowKit.intOf]; omega
    · obtain rfl : k = acts.length := by omega
      have HK := hide (S8.drop.drop.drop.drop.keep_all)
      clear S8
      go_wp2_with fail
      go_ret
      exact ⟨rfl, HK.out⟩

end Go.Proofs.YtmlnhiodabielaaDoor
