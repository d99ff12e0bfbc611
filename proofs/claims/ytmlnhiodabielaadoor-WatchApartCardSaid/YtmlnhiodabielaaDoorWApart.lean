/- The statement WatchApart: its walk. No condition. -/
import Derived.Test.YtmlnhiodabielaaDoorWApL
import Derived.Test.YtmlnhiodabielaaDoorWAll
set_option linter.unusedVariables false
set_option linter.unusedSimpArgs false
namespace Go.Proofs.YtmlnhiodabielaaDoor
open Go.RowKit

set_option maxRecDepth 100000 in
set_option maxHeartbeats 16000000 in
theorem apart_walk (W : World) (hG : GL W) (A : Option Addr) (acts : List ActW) (c : Nat) (s0 : Int) (hs : ActsSrc W A acts) (hl : acts.length ≤ 9223372036854775807) :
    Calls Tryd.prog 3 #[.slice A acts.length c, .int .i64 s0] W fun e w' => e = .returned (.bool true) ∧ Keeps (fun _ => False) W w' := by
  have HSRC : Hid (∀ {w : World} {L : List Asn}, Sat W w L → oldA W ∈ L → ActsSrc w A acts) := fun S hm => hs.of S hm
  have HS0 := hide hs
  have hfew : fewW acts = true → (∀ a ∈ acts, a.path.length ≤ 12) ∧ acts.length ≤ 60 := fun h => by
    simp only [fewW, Bool.and_eq_true, List.all_eq_true, decide_eq_true_eq] at h
    exact h
  have HFEW := hide hfew
  have HF : Hid (∀ w, ActsSrc w A acts → Calls Tryd.prog 10 #[.slice A acts.length c] w fun e w' => e = .returned (.bool (fewW acts)) ∧ Keeps (fun _ => False) w w') := fun w h => few_wacts w A c acts h hl
  generalize fewW acts = fw at *
  clear hs hfew
  have hsn : 0 ≤ bits .and .i64 s0 3 ∧ bits .and .i64 s0 3 ≤ 3 := and_le s0 3 (by decide)
  obtain ⟨s, hse⟩ : ∃ s : Int, 1 + bits .and .i64 s0 3 = s := ⟨_, rfl⟩
  have hs1 : 1 ≤ s := by omega
  have hs4 : s ≤ 4 := by omega
  clear hsn
  go_enter Tryd.func3, Tryd.ntmps3
  go_wp2_with fail
  refine (head_watch (Sat.start W) hG (by simp)).mono ?_
  rintro e w0 ⟨rfl, S0⟩
  go_wp2_with fail
  refine (HF.out _ (HSRC.out S0 (by simp))).mono ?_
  rintro e w1 ⟨rfl, hk1⟩
  have S1 := S0.keep hk1
  clear S0 hk1 HF
  cases fw
  · have HK := hide S1.keep_all
    clear S1
    go_wp2_with fail
    go_ret
    exact ⟨rfl, HK.out⟩
  obtain ⟨hall, h60⟩ := HFEW.out rfl
  have HALL := hide hall
  clear hall HFEW
  by_cases h30 : acts.length ≤ 30
  case neg =>
    have h30b : decide ((30 : Int) < (acts.length : Int)) = true := by simp; omega
    have HK := hide S1.keep_all
    clear S1
    go_wp2_with fail
    go_ret
    exact ⟨rfl, HK.out⟩
  have h30b : decide ((30 : Int) < (acts.length : Int)) = false := by simp; omega
  go_wp2_with fail
  refine (new_book S1).mono ?_
  rintro e w2 ⟨ta, rfl, S2⟩
  go_wp2_with fail
  refine (new_book S2).mono ?_
  rintro e w3 ⟨tb, rfl, S3⟩
  go_upto_region 9 with fail
  have S4 := model_new S3
  generalize w3.alloc (.cells #[.slice none 0 0, .slice none 0 0, .map none] 32) = w4 at *
  generalize w3.heap.size = ma at *
  go_upto_region 10 with fail
  have S5 := model_new S4
  generalize w4.alloc (.cells #[.slice none 0 0, .slice none 0 0, .map none] 32) = w5 at *
  generalize w4.heap.size = mb at *
  have S6 : Sat W w5 (bookA ta ⟨[], [], []⟩ :: modelA ma ⟨[], [], []⟩ :: bookA tb ⟨[], [], []⟩ :: modelA mb ⟨[], [], []⟩ :: [oldA W]) := S5.b3.p1.p2.p2.p2.p3.p1.p2.p3
  clear S1 S2 S3 S4 S5
  go_wp2_with fail
  go_loopw [37] (fun i wr => ∃ k : Nat, k ≤ acts.length ∧ i = .int .i64 k ∧ ∃ A1 B, InvW A1 k ∧ InvW B k ∧ A1.ws.length ≤ k ∧ B.ws.length ≤ k ∧ Part1 s A1 B ∧ Sat W wr (bookA ta A1 :: modelA ma A1 :: bookA tb B :: modelA mb B :: [oldA W])) (fun i _ => acts.length - (RowKit.intOf i).toNat)
  case atStart => exact ⟨0, by omega, rfl, _, _, InvW.nil, InvW.nil, by simp, by simp, Part1.nil s, S6⟩
  case round =>
    obtain ⟨k, hk, rfl, A1, B, hiA, hiB, hlA, hlB, hpt, S7⟩ := hrel
    have HI := hide hiA
    have HJ := hide hiB
    have HP := hide hpt
    have hesA := hiA.es
    have hesB := hiB.es
    clear S6 hiA hiB hpt
    by_cases hlt : k < acts.length
    · have hk0 : (0 : Int) ≤ (k : Int) := by omega
      have hk1 : (k : Int) < (acts.length : Int) := by omega
      obtain ⟨ad, x, rfl, hx, d0, d1, d2, d3, d4, d5⟩ := wact_at (HSRC.out S7 (by simp)).1 hlt
      have hmem := List.mem_of_getElem? hx
      have hps := HS0.out.2 x hmem
      have hp12 := HALL.out x hmem
      have HDA : Hid (∀ (w' : World) (L' : List Asn), Sat W w' (bookA ta A1 :: modelA ma A1 :: L') → oldA W ∈ L' → Calls Tryd.prog 12 #[ptr ta, ptr ma, actWV x, .int .i64 ((k : Int) + 1)] w' fun e w2 => e = .returned (.bool true) ∧ Sat W w2 (bookA ta (doW A1 x ((k : Int) + 1)) :: modelA ma (doW A1 x ((k : Int) + 1)) :: L')) := hide fun w' L' S' h => do_watch S' hG h x hps hp12 HI.out (by omega) ((k : Int) + 1)
      have HDB : Hid (∀ (w' : World) (L' : List Asn), Sat W w' (bookA tb B :: modelA mb B :: L') → oldA W ∈ L' → Calls Tryd.prog 12 #[ptr tb, ptr mb, actWV x, .int .i64 ((k : Int) + 1)] w' fun e w2 => e = .returned (.bool true) ∧ Sat W w2 (bookA tb (doW B x ((k : Int) + 1)) :: modelA mb (doW B x ((k : Int) + 1)) :: L')) := hide fun w' L' S' h => do_watch S' hG h x hps hp12 HJ.out (by omega) ((k : Int) + 1)
      have HI2 := hide (do_inv HI.out x ((k : Int) + 1))
      have HJ2 := hide (do_inv HJ.out x ((k : Int) + 1))
      have hA2l := do_len A1 x ((k : Int) + 1)
      have hB2l := do_len B x ((k : Int) + 1)
      obtain ⟨A2, hA2⟩ : ∃ A2, doW A1 x ((k : Int) + 1) = A2 := ⟨_, rfl⟩
      obtain ⟨B2, hB2⟩ : ∃ B2, doW B x ((k : Int) + 1) = B2 := ⟨_, rfl⟩
      rw [hA2] at HDA HI2 hA2l
      rw [hB2] at HDB HJ2 hB2l
      have HA2 := hide hA2
      have HB2 := hide hB2
      clear hA2 hB2 hps hx hmem
      have hact := actI_at x.k
      obtain ⟨kk0, kk7⟩ := actI_lt x.k
      have hsq : bits .and .i64 x.session 7 = sessF x := rfl
      obtain ⟨kk, hkk⟩ : ∃ kk, actI x.k = kk := ⟨_, rfl⟩
      obtain ⟨sn, hsn⟩ : ∃ sn, sessF x = sn := ⟨_, rfl⟩
      rw [hkk] at hact kk0 kk7
      rw [hsn] at hsq
      have HKK := hide hkk
      have HSN := hide hsn
      have hwk : IntKind.i64.wrap kk = kk := IntWalk.i64_in _ ⟨by omega, by omega⟩
      clear hkk hsn
      obtain ⟨a0, a1, a2, a3, a4, a5, a6, a7⟩ := x
      simp only at d0 d1 d2 d3 d4 d5 hact hsq
      go_upto_region 13 with fail
      have S8 := S7.box #[.int .i64 a0, .int .i64 a1, .int .i64 a2, .slice a3 a5.length a4, .bool a6, .bool a7] 35 rfl
      generalize wr.alloc (.cells #[.int .i64 a0, .int .i64 a1, .int .i64 a2, .slice a3 a5.length a4, .bool a6, .bool a7] 35) = w6 at *
      generalize wr.heap.size = xb at *
      have x0 := S8.cell 0 _ rfl
      have x1 := S8.cell 1 _ rfl
      have x2 := S8.cell 2 _ rfl
      have x3 := S8.cell 3 _ rfl
      have x4 := S8.cell 4 _ rfl
      have x5 := S8.cell 5 _ rfl
      clear S7 d0 d1 d2 d3 d4 d5
      go_wp2_with fail
      refine (HDA.out _ _ S8.b2 (by simp)).mono ?_
      rintro e w7 ⟨rfl, S7⟩
      clear S8 x0 x1 x2 x3 x4 x5
      have x0 := S7.p2.cell 0 _ rfl
      have x1 := S7.p2.cell 1 _ rfl
      have x2 := S7.p2.cell 2 _ rfl
      have x3 := S7.p2.cell 3 _ rfl
      have x4 := S7.p2.cell 4 _ rfl
      have x5 := S7.p2.cell 5 _ rfl
      by_cases hown : sn = s
      · by_cases hlo : kk < 2
        · skip
          have hob : (sn == s) = true := by simpa using hown
          have hk2 : decide ((2 : Int) ≤ kk) = false := by simp; omega
          have HPN : Hid (Part1 s A2 B2) := hide (by rw [← HA2.out, ← HB2.out]; exact (do_own HP.out HI.out.sorted HJ.out.sorted (by omega) (by omega) _ _ (by rw [HSN.out]; exact hown)))
          go_wp2_with fail
          refine (HDB.out _ _ S7.p4.p4 (by simp)).mono ?_
          rintro e w8 ⟨rfl, S8⟩
          have S9 := (S8.p4.drop).p3.p3
          clear S7 S8 x0 x1 x2 x3 x4 x5
          go_wp2_with fail
          go_roundw
          case rel => exact ⟨k + 1, by omega, by go_num, A2, B2, HI2.out, HJ2.out, by omega, by omega, HPN.out, S9⟩
          case measure => simp [RowKit.intOf]; omega
        · by_cases hmd : kk ≤ 4
          · skip
            have hob : (sn == s) = true := by simpa using hown
            have hk2 : decide ((2 : Int) ≤ kk) = true := by simp; omega
            have hk4 : decide (kk ≤ (4 : Int)) = true := by simp; omega
            have HPN : Hid (Part1 s A2 B2) := hide (by rw [← HA2.out, ← HB2.out]; exact (do_own HP.out HI.out.sorted HJ.out.sorted (by omega) (by omega) _ _ (by rw [HSN.out]; exact hown)))
            go_wp2_with fail
            refine (HDB.out _ _ S7.p4.p4 (by simp)).mono ?_
            rintro e w8 ⟨rfl, S8⟩
            have S9 := (S8.p4.drop).p3.p3
            clear S7 S8 x0 x1 x2 x3 x4 x5
            go_wp2_with fail
            go_roundw
            case rel => exact ⟨k + 1, by omega, by go_num, A2, B2, HI2.out, HJ2.out, by omega, by omega, HPN.out, S9⟩
            case measure => simp [RowKit.intOf]; omega
          · skip
            have hob : (sn == s) = true := by simpa using hown
            have hk2 : decide ((2 : Int) ≤ kk) = true := by simp; omega
            have hk4 : decide (kk ≤ (4 : Int)) = false := by simp; omega
            have HPN : Hid (Part1 s A2 B2) := hide (by rw [← HA2.out, ← HB2.out]; exact (do_own HP.out HI.out.sorted HJ.out.sorted (by omega) (by omega) _ _ (by rw [HSN.out]; exact hown)))
            go_wp2_with fail
            refine (HDB.out _ _ S7.p4.p4 (by simp)).mono ?_
            rintro e w8 ⟨rfl, S8⟩
            have S9 := (S8.p4.drop).p3.p3
            clear S7 S8 x0 x1 x2 x3 x4 x5
            go_wp2_with fail
            go_roundw
            case rel => exact ⟨k + 1, by omega, by go_num, A2, B2, HI2.out, HJ2.out, by omega, by omega, HPN.out, S9⟩
            case measure => simp [RowKit.intOf]; omega
      · by_cases hlo : kk < 2
        · skip
          have hob : (sn == s) = false := by simpa using hown
          have hk2 : decide ((2 : Int) ≤ kk) = false := by simp; omega
          have HPN : Hid (Part1 s A2 B) := hide (by rw [← HA2.out]; exact (do_other HP.out HI.out.sorted (by omega) _ _ (by rw [HSN.out]; exact hown) (by rw [HKK.out]; omega)))
          have S9 := S7.p2.drop
          go_wp2_with fail
          go_roundw
          case rel => exact ⟨k + 1, by omega, by go_num, A2, B, HI2.out, HJ.out.mono (by omega), by omega, by omega, HPN.out, S9⟩
          case measure => simp [RowKit.intOf]; omega
        · by_cases hmd : kk ≤ 4
          · skip
            have hob : (sn == s) = false := by simpa using hown
            have hk2 : decide ((2 : Int) ≤ kk) = true := by simp; omega
            have hk4 : decide (kk ≤ (4 : Int)) = true := by simp; omega
            have HPN : Hid (Part1 s A2 B2) := hide (by rw [← HA2.out, ← HB2.out]; exact (do_fires HP.out _ _ (by rw [HKK.out]; omega) (by rw [HKK.out]; omega)))
            go_wp2_with fail
            refine (HDB.out _ _ S7.p4.p4 (by simp)).mono ?_
            rintro e w8 ⟨rfl, S8⟩
            have S9 := (S8.p4.drop).p3.p3
            clear S7 S8 x0 x1 x2 x3 x4 x5
            go_wp2_with fail
            go_roundw
            case rel => exact ⟨k + 1, by omega, by go_num, A2, B2, HI2.out, HJ2.out, by omega, by omega, HPN.out, S9⟩
            case measure => simp [RowKit.intOf]; omega
          · skip
            have hob : (sn == s) = false := by simpa using hown
            have hk2 : decide ((2 : Int) ≤ kk) = true := by simp; omega
            have hk4 : decide (kk ≤ (4 : Int)) = false := by simp; omega
            have HPN : Hid (Part1 s A2 B) := hide (by rw [← HA2.out]; exact (do_other HP.out HI.out.sorted (by omega) _ _ (by rw [HSN.out]; exact hown) (by rw [HKK.out]; omega)))
            have S9 := S7.p2.drop
            go_wp2_with fail
            go_roundw
            case rel => exact ⟨k + 1, by omega, by go_num, A2, B, HI2.out, HJ.out.mono (by omega), by omega, by omega, HPN.out, S9⟩
            case measure => simp [RowKit.intOf]; omega
    · obtain rfl : k = acts.length := by omega
      have hesE : B.es = A1.es.filter fun x => decide (x.session = s) := HP.out.es
      have HESE := hide hesE
      clear hesE
      go_wp2_with fail
      refine (events_book S7 (by omega) s).mono ?_
      rintro e w8 ⟨v, rfl, S8⟩
      have S9 := S8.p3
      clear S7 S8
      go_wp2_with fail
      refine (events_book S9 (by omega) s).mono ?_
      rintro e w10 ⟨v2, rfl, S10⟩
      have hfe : (B.es.filter fun x => decide (x.session = s)) = A1.es.filter fun x => decide (x.session = s) := by
        rw [HESE.out, List.filter_filter]
        refine List.filter_congr fun x _ => ?_
        rw [Bool.and_self]
      rw [hfe] at S10
      have hfl : (A1.es.filter fun x => decide (x.session = s)).length ≤ 1000000 := Nat.le_trans (List.length_filter_le _ _) (by omega)
      generalize (A1.es.filter fun x => decide (x.session = s)) = fs at *
      clear hfe S9 HESE
      obtain ⟨A5, c5, rfl, -⟩ := S10.row.form
      have S11 : Sat W w10 (rowA 41 5 (.slice A5 fs.length c5) fs.length (fs.flatMap evC) :: rowA 41 5 v fs.length (fs.flatMap evC) :: bookA tb B :: bookA ta A1 :: modelA ma A1 :: modelA mb B :: [oldA W]) := S10.p2.p1
      obtain ⟨A6, c6, rfl, -⟩ := S11.p1.row.form
      clear S10
      go_wp2_with fail
      go_loopw [91] (fun i wr => ∃ k : Nat, k ≤ fs.length ∧ i = .int .i64 k ∧ Sat W wr (rowA 41 5 (.slice A5 fs.length c5) fs.length (fs.flatMap evC) :: rowA 41 5 (.slice A6 fs.length c6) fs.length (fs.flatMap evC) :: bookA tb B :: bookA ta A1 :: modelA ma A1 :: modelA mb B :: [oldA W])) (fun i _ => fs.length - (RowKit.intOf i).toNat)
      case atStart => exact ⟨0, by omega, rfl, S11⟩
      case round =>
        obtain ⟨q, hq, rfl, S12⟩ := hrel
        clear S11
        by_cases hlt2 : q < fs.length
        · have hq0 : (0 : Int) ≤ (q : Int) := by omega
          have hq1 : (q : Int) < (fs.length : Int) := by omega
          obtain ⟨ad1, x, rfl, hx, d0, d1, d2, d3, d4⟩ := ev_at S12.srcR hlt2
          obtain ⟨ad2, x', rfl, hx', f0, f1, f2, f3, f4⟩ := ev_at S12.p1.srcR hlt2
          obtain rfl : x' = x := by rw [hx] at hx'; injection hx' with h; exact h.symm
          have hneq : ∀ w', (binOp .neq 41 (evV x') (evV x')).run Tryd.prog w' = .ok (.bool false) w' := fun w' => by
            have := neq_ev w' x' x'
            rwa [decide_eq_true rfl] at this
          clear hx hx'
          obtain ⟨e0, e1, e2, e3, e4⟩ := x'
          simp only at d0 d1 d2 d3 d4 f0 f1 f2 f3 f4
          simp only [evV] at hneq
          go_upto_region 26 with fail
          go_region_held3 (fun v' => v'.cell? (ad1.add (q * 5)) = some (.int .i64 e0) ∧ v'.cell? ⟨(ad1.add (q * 5)).block, (ad1.add (q * 5)).off + 1, none⟩ = some (.int .i64 e1) ∧ v'.cell? ⟨(ad1.add (q * 5)).block, (ad1.add (q * 5)).off + 2, none⟩ = some (.string (Go.Proofs.YtmlnhiodabielaaDoor.S e2)) ∧ v'.cell? ⟨(ad1.add (q * 5)).block, (ad1.add (q * 5)).off + 3, none⟩ = some (.int .i64 e3) ∧ v'.cell? ⟨(ad1.add (q * 5)).block, (ad1.add (q * 5)).off + 4, none⟩ = some (.int .i64 e4) ∧ v'.cell? (ad2.add (q * 5)) = some (.int .i64 e0) ∧ v'.cell? ⟨(ad2.add (q * 5)).block, (ad2.add (q * 5)).off + 1, none⟩ = some (.int .i64 e1) ∧ v'.cell? ⟨(ad2.add (q * 5)).block, (ad2.add (q * 5)).off + 2, none⟩ = some (.string (Go.Proofs.YtmlnhiodabielaaDoor.S e2)) ∧ v'.cell? ⟨(ad2.add (q * 5)).block, (ad2.add (q * 5)).off + 3, none⟩ = some (.int .i64 e3) ∧ v'.cell? ⟨(ad2.add (q * 5)).block, (ad2.add (q * 5)).off + 4, none⟩ = some (.int .i64 e4)) (go_keep) (fail)
          go_wp2_with fail
          go_roundw
          case rel => exact ⟨q + 1, by omega, by go_num, by (repeat (first | exact S12 | refine Sat.drew ?_ | refine Sat.drewN ?_ _))⟩
          case measure => simp [RowKit.intOf]; omega
        · obtain rfl : q = fs.length := by omega
          have HK := hide (S12.drop.drop.drop.drop.drop.drop.keep_all)
          go_wp2_with fail
          go_ret
          exact ⟨rfl, HK.out⟩

end Go.Proofs.YtmlnhiodabielaaDoor
