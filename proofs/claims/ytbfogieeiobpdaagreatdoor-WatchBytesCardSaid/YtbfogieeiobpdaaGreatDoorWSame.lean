/- The statements of layer 11: whether a book has what its model has. No condition. -/
import Derived.Test.YtbfogieeiobpdaaGreatDoorWDo
set_option linter.unusedVariables false
set_option linter.unusedSimpArgs false
namespace Go.Proofs.YtbfogieeiobpdaaGreatDoor
open Go.RowKit

theorem filt_at {es : List EvT} {j : Int} {k : Nat} {e : EvT} (h : es[k]? = some e) (he : e.session = j) :
    (es.filter fun x => decide (x.session = j))[((es.take k).filter fun x => decide (x.session = j)).length]? = some e := by
  obtain ⟨hk, rfl⟩ := List.getElem?_eq_some_iff.1 h
  have e1 : es = es.take k ++ es[k] :: es.drop (k + 1) := by
    conv => lhs; rw [← List.take_append_drop k es]
    rw [List.drop_eq_getElem_cons hk]
  have e2 : es.filter (fun x => decide (x.session = j)) = (es.take k).filter (fun x => decide (x.session = j)) ++ es[k] :: (es.drop (k + 1)).filter (fun x => decide (x.session = j)) := by
    conv => lhs; rw [e1]
    rw [List.filter_append, List.filter_cons, if_pos (by simpa using he)]
  rw [e2, List.getElem?_append_right (Nat.le_refl _), Nat.sub_self]
  rfl

set_option maxRecDepth 100000 in
set_option maxHeartbeats 16000000 in
theorem same_watch {g w : World} {L : List Asn} {b mb : Nat} {B : BookT} (S : Sat g w (bookA b B :: modelA mb B :: L)) (hl : B.es.length ≤ 1000000) (hl2 : B.ws.length ≤ 1000) :
    Calls Tryz.prog 17 #[ptr b, ptr mb] w fun e w' => e = .returned (.bool true) ∧ Sat g w' (bookA b B :: modelA mb B :: L) := by
  obtain ⟨wv, S1⟩ := S.p1.modelOpen
  obtain ⟨ws, es, nos⟩ := B
  simp only at hl hl2 S1
  obtain ⟨A2, c2, rfl, -⟩ := S1.p1.row.form
  obtain ⟨ev, nv, S2⟩ := S1.mnotesOpen
  obtain ⟨A3, c3, rfl, -⟩ := S2.p1.row.form
  have S3 : Sat g w (bookA b ⟨ws, es, nos⟩ :: cellsA mb 32 #[.slice A2 ws.length c2, .slice A3 es.length c3, nv] :: rowA 74 5 (.slice A3 es.length c3) es.length (es.flatMap evC) :: nosA nv nos :: rowA 96 4 (.slice A2 ws.length c2) ws.length (ws.flatMap watC) :: L) := S2.p4
  clear S S1 S2
  go_enter Tryz.func17, Tryz.ntmps17
  go_wp2_with fail
  refine (watches_book S3 hl2).mono ?_
  rintro e w1 ⟨v, rfl, S4⟩
  obtain ⟨A1, c1, rfl, -⟩ := S4.row.form
  simp only at S4
  have m0 := S4.p2.cell 0 _ rfl
  clear S3
  go_wp2_with fail
  go_loopw [24] (fun i wr => ∃ k : Nat, k ≤ ws.length ∧ i = .int .i64 k ∧ Sat g wr (rowA 96 4 (.slice A1 ws.length c1) ws.length (ws.flatMap watC) :: bookA b ⟨ws, es, nos⟩ :: cellsA mb 32 #[.slice A2 ws.length c2, .slice A3 es.length c3, nv] :: rowA 74 5 (.slice A3 es.length c3) es.length (es.flatMap evC) :: nosA nv nos :: rowA 96 4 (.slice A2 ws.length c2) ws.length (ws.flatMap watC) :: L)) (fun i _ => ws.length - (RowKit.intOf i).toNat)
  case atStart => exact ⟨0, by omega, rfl, S4⟩
  case round =>
    obtain ⟨k, hk, rfl, S5⟩ := hrel
    clear S4 m0
    by_cases hlt : k < ws.length
    · have hk0 : (0 : Int) ≤ (k : Int) := by omega
      have hk1 : (k : Int) < (ws.length : Int) := by omega
      obtain ⟨ad, x, rfl, hx, d0, d1, d2, d3⟩ := wat_at S5.srcR hlt
      obtain ⟨ad2, x', rfl, hx', f0, f1, f2, f3⟩ := wat_at S5.p5.srcR hlt
      obtain rfl : x' = x := by rw [hx] at hx'; injection hx' with h; exact h.symm
      have m0 := S5.p2.cell 0 _ rfl
      have hneq : ∀ w', (binOp .neq 96 (watV x') (watV x')).run Tryz.prog w' = .ok (.bool false) w' := fun w' => by
        have := neq_wat w' x' x'
        rwa [decide_eq_true rfl] at this
      clear hx hx'
      obtain ⟨x0, x1, x2, x3⟩ := x'
      simp only at d0 d1 d2 d3 f0 f1 f2 f3
      simp only [watV] at hneq
      go_upto_region 7 with fail
      go_region_held3 (fun v' => v'.cell? ⟨mb, 0, none⟩ = some (.slice (some ad2) ws.length c2) ∧ v'.cell? (ad.add (k * 4)) = some (.int .i64 x0) ∧ v'.cell? ⟨(ad.add (k * 4)).block, (ad.add (k * 4)).off + 1, none⟩ = some (.string (Go.Proofs.YtbfogieeiobpdaaGreatDoor.S x1)) ∧ v'.cell? ⟨(ad.add (k * 4)).block, (ad.add (k * 4)).off + 2, none⟩ = some (.bool x2) ∧ v'.cell? ⟨(ad.add (k * 4)).block, (ad.add (k * 4)).off + 3, none⟩ = some (.bool x3) ∧ v'.cell? (ad2.add (k * 4)) = some (.int .i64 x0) ∧ v'.cell? ⟨(ad2.add (k * 4)).block, (ad2.add (k * 4)).off + 1, none⟩ = some (.string (Go.Proofs.YtbfogieeiobpdaaGreatDoor.S x1)) ∧ v'.cell? ⟨(ad2.add (k * 4)).block, (ad2.add (k * 4)).off + 2, none⟩ = some (.bool x2) ∧ v'.cell? ⟨(ad2.add (k * 4)).block, (ad2.add (k * 4)).off + 3, none⟩ = some (.bool x3)) (go_keep) (fail)
      go_wp2_with fail
      go_roundw
      case rel => exact ⟨k + 1, by omega, by go_num, by (repeat (first | exact S5 | refine Sat.drew ?_ | refine Sat.drewN ?_ _))⟩
      case measure => simp [RowKit.intOf]; omega
    · obtain rfl : k = ws.length := by omega
      have S6 := S5.drop
      clear S5
      go_wp2_with fail
      go_loopw [7] (fun i wr => ∃ j : Nat, j ≤ 9 ∧ i = .int .i64 j ∧ Sat g wr (bookA b ⟨ws, es, nos⟩ :: cellsA mb 32 #[.slice A2 ws.length c2, .slice A3 es.length c3, nv] :: rowA 74 5 (.slice A3 es.length c3) es.length (es.flatMap evC) :: nosA nv nos :: rowA 96 4 (.slice A2 ws.length c2) ws.length (ws.flatMap watC) :: L)) (fun i _ => 9 - (RowKit.intOf i).toNat)
      case atStart => exact ⟨0, by omega, rfl, S6⟩
      case round =>
        obtain ⟨j, hj, rfl, S7⟩ := hrel
        clear S6
        by_cases hlt2 : j < 9
        · have hj1 : (j : Int) < 9 := by omega
          go_wp2_with fail
          refine (events_book S7 hl (j : Int)).mono ?_
          rintro e w8 ⟨v, rfl, S8⟩
          obtain ⟨A4, c4, rfl, -⟩ := S8.row.form
          simp only at S8
          have HFA := hide (fun (k : Nat) (e : EvT) (h : es[k]? = some e) (he : e.session = (j : Int)) => filt_at h he)
          have HST : Hid (∀ k x, es[k]? = some x → (es.take (k + 1)).filter (fun x => decide (x.session = (j : Int))) = (es.take k).filter (fun x => decide (x.session = (j : Int))) ++ if x.session = (j : Int) then [x] else []) := hide fun k x h => by
            obtain ⟨hk, rfl⟩ := List.getElem?_eq_some_iff.1 h
            rw [List.take_succ_eq_append_getElem hk, List.filter_append]
            congr 1
            by_cases h1 : es[k].session = (j : Int) <;> simp [h1]
          have HTL : Hid ((es.take es.length).filter (fun x => decide (x.session = (j : Int))) = es.filter fun x => decide (x.session = (j : Int))) := hide (by rw [List.take_length])
          have hfl : (es.filter fun x => decide (x.session = (j : Int))).length ≤ 1000000 := Nat.le_trans (List.length_filter_le _ _) hl
          obtain ⟨fs, hfs⟩ : ∃ fs : List EvT → List EvT, (fun l => l.filter fun x => decide (x.session = (j : Int))) = fs := ⟨_, rfl⟩
          have hfs2 : ∀ l : List EvT, (l.filter fun x => decide (x.session = (j : Int))) = fs l := fun l => congrFun hfs l
          simp only [hfs2] at HFA HST HTL hfl S8
          rw [hfs2]
          have HFS := hide hfs
          have HLB : Hid (∀ k, (fs (es.take k)).length ≤ 1000000) := hide fun k => by
            rw [← hfs2]
            have h1 := List.length_filter_le (fun x => decide (EvT.session x = (j : Int))) (es.take k)
            have h3 : (es.take k).length ≤ es.length := by simp; omega
            omega
          clear hfs hfs2 S7
          have m1 := S8.p2.cell 1 _ rfl
          go_wp2_with fail
          go_loopw [9, 52] (fun nv2 i wr => ∃ k : Nat, k ≤ es.length ∧ i = .int .i64 k ∧ nv2 = .int .i64 ((fs (es.take k)).length) ∧ Sat g wr (rowA 74 5 (.slice A4 (fs es).length c4) (fs es).length ((fs es).flatMap evC) :: bookA b ⟨ws, es, nos⟩ :: cellsA mb 32 #[.slice A2 ws.length c2, .slice A3 es.length c3, nv] :: rowA 74 5 (.slice A3 es.length c3) es.length (es.flatMap evC) :: nosA nv nos :: rowA 96 4 (.slice A2 ws.length c2) ws.length (ws.flatMap watC) :: L)) (fun _ i _ => es.length - (RowKit.intOf i).toNat)
          case atStart => exact ⟨0, by omega, rfl, by rw [show fs (es.take 0) = [] from by have := HST.out; rw [← HFS.out]; rfl]; rfl, S8⟩
          case round =>
            obtain ⟨k, hk, rfl, rfl, S9⟩ := hrel
            clear S8 m1
            by_cases hlt3 : k < es.length
            · have hk0 : (0 : Int) ≤ (k : Int) := by omega
              have hk1 : (k : Int) < (es.length : Int) := by omega
              obtain ⟨ad, x, rfl, hx, d0, d1, d2, d3, d4⟩ := ev_at S9.p3.srcR hlt3
              have hst := HST.out k x hx
              have HSTx := hide hst
              clear hst
              have hnl : (fs (es.take k)).length ≤ 1000000 := HLB.out k
              by_cases hs : x.session = (j : Int)
              · have hfa := HFA.out k x hx hs
                rw [if_pos hs] at HSTx
                obtain ⟨n, hn⟩ : ∃ n, (fs (es.take k)).length = n := ⟨_, rfl⟩
                rw [hn] at hfa hnl ⊢
                have HN := hide hn
                clear hn
                have hn1 : n < (fs es).length := (List.getElem?_eq_some_iff.1 hfa).1
                obtain ⟨ad4, x', rfl, hx', f0, f1, f2, f3, f4⟩ := ev_at S9.srcR hn1
                obtain rfl : x' = x := by rw [hfa] at hx'; injection hx' with h; exact h.symm
                clear hfa hx'
                have hneq : ∀ w', (binOp .neq 74 (evV x') (evV x')).run Tryz.prog w' = .ok (.bool false) w' := fun w' => by
                  have := neq_ev w' x' x'
                  rwa [decide_eq_true rfl] at this
                have HX := hide hx
                clear hx
                obtain ⟨e0, e1, e2, e3, e4⟩ := x'
                simp only at d0 d1 d2 d3 d4 f0 f1 f2 f3 f4 hs
                simp only [evV] at hneq
                subst hs
                have hn0 : (0 : Int) ≤ (n : Int) := by omega
                have hn2 : (n : Int) < ((fs es).length : Int) := by omega
                have hge : decide (((fs es).length : Int) ≤ (n : Int)) = false := by simp; omega
                go_upto_region 18 with fail
                have SX := S9.box #[.int .i64 (j : Int), .int .i64 e1, .string (Go.Proofs.YtbfogieeiobpdaaGreatDoor.S e2), .int .i64 e3, .int .i64 e4] 74 rfl
                have g0 := (Keeps.refl (fun _ => False) wr).alloc (.cells #[.int .i64 (j : Int), .int .i64 e1, .string (Go.Proofs.YtbfogieeiobpdaaGreatDoor.S e2), .int .i64 e3, .int .i64 e4] 74)
                replace f0 := g0.cell f0 (fun h => h)
                replace f1 := g0.cell f1 (fun h => h)
                replace f2 := g0.cell f2 (fun h => h)
                replace f3 := g0.cell f3 (fun h => h)
                replace f4 := g0.cell f4 (fun h => h)
                clear g0 d0 d1 d2 d3 d4 S9
                generalize wr.alloc (.cells #[.int .i64 (j : Int), .int .i64 e1, .string (Go.Proofs.YtbfogieeiobpdaaGreatDoor.S e2), .int .i64 e3, .int .i64 e4] 74) = w9 at *
                generalize wr.heap.size = xb at *
                have y0 := SX.cell 0 _ rfl
                have y1 := SX.cell 1 _ rfl
                have y2 := SX.cell 2 _ rfl
                have y3 := SX.cell 3 _ rfl
                have y4 := SX.cell 4 _ rfl
                go_upto_region 19 with fail
                go_quiet (fail)
                go_wp2_with fail
                go_roundw
                case rel => exact ⟨k + 1, by omega, by go_num, by rw [HSTx.out, List.length_append, HN.out]; go_num, by have := SX.drop; (repeat (first | exact this | refine Sat.drew ?_ | refine Sat.drewN ?_ _))⟩
                case measure => simp [RowKit.intOf]; omega
              · rw [if_neg hs, List.append_nil] at HSTx
                have HX := hide hx
                clear hx
                obtain ⟨e0, e1, e2, e3, e4⟩ := x
                simp only at d0 d1 d2 d3 d4 hs
                have hsb : (e0 == (j : Int)) = false := by simpa using hs
                have SX := S9.box #[.int .i64 e0, .int .i64 e1, .string (Go.Proofs.YtbfogieeiobpdaaGreatDoor.S e2), .int .i64 e3, .int .i64 e4] 74 rfl
                clear S9
                go_wp2_with fail
                go_roundw
                case rel => exact ⟨k + 1, by omega, by go_num, by rw [HSTx.out], SX.drop⟩
                case measure => simp [RowKit.intOf]; omega
            · obtain rfl : k = es.length := by omega
              rw [HTL.out]
              go_wp2_with fail
              go_roundw
              case rel => exact ⟨j + 1, by omega, by go_num, S9.drop⟩
              case measure => simp [RowKit.intOf]; omega
        · obtain rfl : j = 9 := by omega
          have HS := hide ((Sat.modelShut (B := ⟨ws, es, nos⟩) S7.b4.mnotesShut).p1)
          go_wp2_with fail
          go_ret
          exact ⟨rfl, HS.out⟩

end Go.Proofs.YtbfogieeiobpdaaGreatDoor
