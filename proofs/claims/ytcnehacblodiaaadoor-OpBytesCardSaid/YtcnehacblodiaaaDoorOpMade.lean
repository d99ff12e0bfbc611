/- The law OpMade, walked. No condition. -/
import Derived.Test.YtcnehacblodiaaaDoorHeado
import Derived.Test.YtcnehacblodiaaaDoorTouch
set_option linter.unusedVariables false
namespace Go.Proofs.YtcnehacblodiaaaDoor
open Go.RowKit

theorem untouched_eq (os : List OpT) : (!untouched os) = os.all touchF := by
  unfold untouched
  induction os with
  | nil => rfl
  | cons o r ih =>
    simp only [List.any_cons, List.all_cons, Bool.not_or, Bool.not_not]
    rw [ih]

set_option maxRecDepth 100000 in
set_option maxHeartbeats 4000000 in
theorem made_walk (W : World) (hG : GL W) (session req : Int) (A : Option Addr) (os : List OpT) (c : Nat) (hs : OpSrc W A os) (hl : os.length ≤ 9223372036854775807) (ho : ∀ o ∈ os, OpOk o) :
    Calls Tryd.prog 4 #[.int .i64 session, .int .i64 req, .slice A os.length c] W fun e w' => e = .returned (.bool true) ∧ Keeps (fun k => W.heap.size ≤ k) W w' := by
  have HF : Hid (∀ {w w' : World}, Keeps (fun _ => False) w w' → Keeps (fun k => w.heap.size ≤ k) w w') := fun h => h.mono (fun _ _ h => h.elim)
  have HG := hide hG
  have HO := hide ho
  clear hG ho
  go_enter Tryd.func4, Tryd.ntmps4
  go_wp2_with fail
  refine (head_op W).mono ?_
  rintro e w0 ⟨rfl, hk0⟩
  have HK := hide hk0
  clear hk0
  by_cases hlen : os.length ≤ 10
  · go_wp2_with fail
    refine (made_cmd _ session req os A c).mono ?_
    rintro e w1 ⟨rfl, hk⟩
    replace HK := hide (HK.out.trans' hk)
    clear hk
    unfold madeF
    go_upto_region 6 with fail
    have HB := hide (Blk.new (w := w1) (cs := #[.int .i64 3, .int .i64 session, .int .i64 req, .int .i64 0, .slice A os.length c, .string (S []), .bool false, .bool false]) (e := 25) rfl)
    have HS1 := hide ((hs.keep HK.out (fun _ _ h => h)).keep ((Keeps.refl (fun _ => False) w1).alloc (.cells #[.int .i64 3, .int .i64 session, .int .i64 req, .int .i64 0, .slice A os.length c, .string (S []), .bool false, .bool false] 25)) (fun _ _ h => h))
    have HK1 := hide (HK.out.alloc (.cells #[.int .i64 3, .int .i64 session, .int .i64 req, .int .i64 0, .slice A os.length c, .string (S []), .bool false, .bool false] 25))
    clear HK hs
    generalize w1.alloc (.cells #[.int .i64 3, .int .i64 session, .int .i64 req, .int .i64 0, .slice A os.length c, .string (S []), .bool false, .bool false] 25) = w2 at *
    generalize w1.heap.size = db at *
    have q0 : w2.cell? ⟨db, 0, none⟩ = some (.int .i64 3) := HB.out.cell 0 _ rfl
    have q1 : w2.cell? ⟨db, 1, none⟩ = some (.int .i64 session) := HB.out.cell 1 _ rfl
    have q2 : w2.cell? ⟨db, 2, none⟩ = some (.int .i64 req) := HB.out.cell 2 _ rfl
    have q3 : w2.cell? ⟨db, 3, none⟩ = some (.int .i64 0) := HB.out.cell 3 _ rfl
    have q4 : w2.cell? ⟨db, 4, none⟩ = some (.slice A os.length c) := HB.out.cell 4 _ rfl
    have q5 : w2.cell? ⟨db, 5, none⟩ = some (.string ⟨#[]⟩) := HB.out.cell 5 _ rfl
    have q6 : w2.cell? ⟨db, 6, none⟩ = some (.bool false) := HB.out.cell 6 _ rfl
    have q7 : w2.cell? ⟨db, 7, none⟩ = some (.bool false) := HB.out.cell 7 _ rfl
    go_wp2_with fail
    clear q0 q1 q2 q3 q4 q5 q6 q7
    go_loopw [8, 63] (fun b i wr => ∃ k : Nat, k ≤ os.length ∧ i = .int .i64 k ∧ b = .bool ((os.take k).all touchF) ∧ Blk wr db 25 #[.int .i64 3, .int .i64 session, .int .i64 req, .int .i64 0, .slice A os.length c, .string (S []), .bool false, .bool false] ∧ OpSrc wr A os ∧ Keeps (fun _ => False) W wr) (fun _ i _ => os.length - (RowKit.intOf i).toNat)
    case atStart => exact ⟨0, by omega, rfl, rfl, HB.out, HS1.out, HK1.out⟩
    case round =>
      obtain ⟨k, hk, rfl, rfl, hb, hs, hK⟩ := hrel
      clear HB HS1 HK1
      have HB := hide hb
      have HS := hide hs
      have HK := hide hK
      clear hb hs hK
      by_cases hlt : k < os.length
      · obtain ⟨ad, o, rfl, hx, c0, c1, c2, c3, c4, c5⟩ := ops_at HS.out hlt
        have hok := HO.out o (List.mem_of_getElem? hx)
        have ht : (os.take (k + 1)).all touchF = ((os.take k).all touchF && decide (checkF o.path = 0)) := by
          obtain ⟨hk', rfl⟩ := List.getElem?_eq_some_iff.1 hx
          rw [List.take_succ_eq_append_getElem hk', List.all_append]
          simp [touchF]
        have HT := hide ht
        clear hx ht
        obtain ⟨odoes, opath, odata, over, oser, oown⟩ := o
        simp only at c0 c1 c2 c3 c4 c5
        have hneq : ∀ w', (binOp .neq 35 (.agg #[.int .i64 odoes, .string (S opath), .string (S odata), .int .i64 over, .bool oser, .bool oown]) (.agg #[.int .i64 odoes, .string (S opath), .string (S odata), .int .i64 over, .bool oser, .bool oown])).run Tryd.prog w' = .ok (.bool false) w' := fun w' => by
          have := neq_op w' ⟨odoes, opath, odata, over, oser, oown⟩ ⟨odoes, opath, odata, over, oser, oown⟩
          rw [decide_eq_true rfl] at this
          exact this
        go_upto_region 11 with fail
        have q4 : wr.cell? ⟨db, 4, none⟩ = some (.slice (some ad) os.length c) := HB.out.cell 4 _ rfl
        go_wp2_with fail
        have HB2 := hide (HB.out.alloc (.cells #[.int .i64 odoes, .string (S opath), .string (S odata), .int .i64 over, .bool oser, .bool oown] 35))
        have HS2 := hide (HS.out.keep ((Keeps.refl (fun _ => False) wr).alloc (.cells #[.int .i64 odoes, .string (S opath), .string (S odata), .int .i64 over, .bool oser, .bool oown] 35)) (fun _ _ h => h))
        have HK2 := hide (HK.out.alloc (.cells #[.int .i64 odoes, .string (S opath), .string (S odata), .int .i64 over, .bool oser, .bool oown] 35))
        obtain ⟨op, hop⟩ : ∃ l, l = opath.length := ⟨_, rfl⟩
        have hol : opath.length ≤ 9223372036854775807 := hok.1
        clear HB HS HK hop
        have HN := hide (Blk.new (w := wr) (cs := #[.int .i64 odoes, .string (S opath), .string (S odata), .int .i64 over, .bool oser, .bool oown]) (e := 35) rfl)
        have hkk := (Keeps.refl (fun _ => False) wr).alloc (.cells #[.int .i64 odoes, .string (S opath), .string (S odata), .int .i64 over, .bool oser, .bool oown] 35)
        replace c0 := hkk.cell c0 (fun h => h)
        replace c1 := hkk.cell c1 (fun h => h)
        replace c2 := hkk.cell c2 (fun h => h)
        replace c3 := hkk.cell c3 (fun h => h)
        replace c4 := hkk.cell c4 (fun h => h)
        replace c5 := hkk.cell c5 (fun h => h)
        replace q4 := hkk.cell q4 (fun h => h)
        clear hkk
        generalize wr.alloc (.cells #[.int .i64 odoes, .string (S opath), .string (S odata), .int .i64 over, .bool oser, .bool oown] 35) = w3 at *
        generalize wr.heap.size = nb at *
        have p0 : w3.cell? ⟨nb, 0, none⟩ = some (.int .i64 odoes) := HN.out.cell 0 _ rfl
        have p1 : w3.cell? ⟨nb, 1, none⟩ = some (.string (S opath)) := HN.out.cell 1 _ rfl
        have p2 : w3.cell? ⟨nb, 2, none⟩ = some (.string (S odata)) := HN.out.cell 2 _ rfl
        have p3 : w3.cell? ⟨nb, 3, none⟩ = some (.int .i64 over) := HN.out.cell 3 _ rfl
        have p4 : w3.cell? ⟨nb, 4, none⟩ = some (.bool oser) := HN.out.cell 4 _ rfl
        have p5 : w3.cell? ⟨nb, 5, none⟩ = some (.bool oown) := HN.out.cell 5 _ rfl
        go_quiet (fail)
        generalize (os.take k).all touchF = T at *
        cases T
        · have HT2 : Hid ((os.take (k + 1)).all touchF = false) := by
            show _ = _
            rw [HT.out]; rfl
          clear HT
          go_wp2_with fail
          go_roundw
          case rel => exact ⟨k + 1, by omega, by go_num, by rw [HT2.out], Blk.kept HB2.out ((Keeps.refl (fun _ => False) _).drewN _) (fun h => h), HS2.out.keep ((Keeps.refl (fun _ => False) _).drewN _) (fun _ _ h => h), HK2.out.drewN _⟩
          case measure => simp [RowKit.intOf]; omega
        · go_wp2_with fail
          refine (check_eq _ opath hol ((HG.out.keep HK2.out (fun h => h)).keep ((Keeps.refl (fun _ => False) _).drewN _) (fun h => h)) rfl).mono ?_
          rintro e w4 ⟨rfl, hk4⟩
          have HK4 := hide hk4
          clear hk4
          generalize checkF opath = X at *
          go_wp2_with fail
          go_roundw
          case rel =>
            refine ⟨k + 1, by omega, by go_num, ?_, Blk.kept HB2.out (((Keeps.refl (fun _ => False) _).drewN _).trans' HK4.out) (fun h => h), HS2.out.keep (((Keeps.refl (fun _ => False) _).drewN _).trans' HK4.out) (fun _ _ h => h), (HK2.out.drewN _).trans' HK4.out⟩
            rw [HT.out]
            refine congrArg Value.bool ?_
            rw [Bool.eq_iff_iff]
            simp
          case measure => simp [RowKit.intOf]; omega
      · obtain rfl : k = os.length := by omega
        rw [List.take_length]
        have hu := untouched_eq os
        have HU := hide hu
        clear hu
        generalize os.all touchF = T at *
        have e9 : (T == T) = true := by simp
        have q0 : wr.cell? ⟨db, 0, none⟩ = some (.int .i64 3) := HB.out.cell 0 _ rfl
        have q1 : wr.cell? ⟨db, 1, none⟩ = some (.int .i64 session) := HB.out.cell 1 _ rfl
        have q2 : wr.cell? ⟨db, 2, none⟩ = some (.int .i64 req) := HB.out.cell 2 _ rfl
        have q3 : wr.cell? ⟨db, 3, none⟩ = some (.int .i64 0) := HB.out.cell 3 _ rfl
        have q4 : wr.cell? ⟨db, 4, none⟩ = some (.slice A os.length c) := HB.out.cell 4 _ rfl
        have q5 : wr.cell? ⟨db, 5, none⟩ = some (.string ⟨#[]⟩) := HB.out.cell 5 _ rfl
        have q6 : wr.cell? ⟨db, 6, none⟩ = some (.bool false) := HB.out.cell 6 _ rfl
        have q7 : wr.cell? ⟨db, 7, none⟩ = some (.bool false) := HB.out.cell 7 _ rfl
        go_wp2_with fail
        refine (touches_cmd _ ⟨3, session, req, 0, os, [], false, false⟩ A c HS.out ⟨by simp, hl, HO.out⟩ (HG.out.keep HK.out (fun h => h)) HU.out).mono ?_
        rintro e w5 ⟨rfl, hk5⟩
        replace HK := hide (HK.out.trans' hk5)
        clear hk5 q0 q1 q2 q3 q4 q5 q6 q7
        go_wp2_with fail
        go_ret
        exact ⟨rfl, HF.out HK.out⟩
  · go_wp2_with fail
    go_ret
    exact ⟨rfl, HF.out HK.out⟩

end Go.Proofs.YtcnehacblodiaaaDoor
