/- The statement WatchOnce: its walk. No condition. -/
import Derived.Test.YtmlnhiodabielaaDoorWOnL
import Derived.Test.YtmlnhiodabielaaDoorWMany
set_option linter.unusedVariables false
set_option linter.unusedSimpArgs false
namespace Go.Proofs.YtmlnhiodabielaaDoor
open Go.RowKit

set_option maxRecDepth 100000 in
set_option maxHeartbeats 16000000 in
theorem once_walk (W : World) (hG : GL W) (A : Option Addr) (acts : List ActW) (c : Nat) (x : ActW) (hs : ActsSrc W A acts) (hl : acts.length ≤ 9223372036854775807) (hx : Src W 1 x.pa x.path.length (Is x.path)) :
    Calls Tryd.prog 5 #[.slice A acts.length c, actWV x] W fun e w' => e = .returned (.bool true) ∧ Keeps (fun _ => False) W w' := by
  have HGL : Hid (∀ {w : World} {L : List Asn}, Sat W w L → oldA W ∈ L → GL w) := fun S hm => hG.of S hm
  have HSRC : Hid (∀ {w : World} {L : List Asn}, Sat W w L → oldA W ∈ L → ActsSrc w A acts) := fun S hm => hs.of S hm
  have HS0 := hide hs
  have hfew : fewW acts = true → (∀ a ∈ acts, a.path.length ≤ 12) ∧ acts.length ≤ 60 := fun h => by
    simp only [fewW, Bool.and_eq_true, List.all_eq_true, decide_eq_true_eq] at h
    exact h
  have HFEW := hide hfew
  have HF : Hid (∀ w, ActsSrc w A acts → Calls Tryd.prog 10 #[.slice A acts.length c] w fun e w' => e = .returned (.bool (fewW acts)) ∧ Keeps (fun _ => False) w w') := fun w h => few_wacts w A c acts h hl
  generalize fewW acts = fw at *
  have HXS := hide hx
  clear hs hfew hx
  obtain ⟨wk, wss, wn, wpa, wpc, wpath, kd, on⟩ := x
  simp only at HXS
  go_enter Tryd.func5, Tryd.ntmps5
  go_upto_region 1 with fail
  have S0 := (Sat.start W).box #[.int .i64 wk, .int .i64 wss, .int .i64 wn, .slice wpa wpath.length wpc, .bool kd, .bool on] 35 rfl
  generalize W.alloc (.cells #[.int .i64 wk, .int .i64 wss, .int .i64 wn, .slice wpa wpath.length wpc, .bool kd, .bool on] 35) = w1 at *
  generalize W.heap.size = xb at *
  go_wp2_with fail
  refine (head_watch S0 hG (by simp)).mono ?_
  rintro e w0 ⟨rfl, S0⟩
  go_wp2_with fail
  refine (HF.out _ (HSRC.out S0 (by simp))).mono ?_
  rintro e w2 ⟨rfl, hk1⟩
  have S1 := S0.keep hk1
  have x3 := S1.cell 3 _ rfl
  clear S0 hk1 HF
  cases fw
  · have HK := hide S1.drop.keep_all
    clear S1
    go_wp2_with fail
    go_ret
    exact ⟨rfl, HK.out⟩
  obtain ⟨hall, h60⟩ := HFEW.out rfl
  have HALL := hide hall
  clear hall HFEW
  by_cases h12 : wpath.length ≤ 12
  case neg =>
    have h12b : decide ((12 : Int) < (wpath.length : Int)) = true := by simp; omega
    have HK := hide S1.drop.keep_all
    clear S1
    go_wp2_with fail
    go_ret
    exact ⟨rfl, HK.out⟩
  have h12b : decide ((12 : Int) < (wpath.length : Int)) = false := by simp; omega
  have hck := made_ok wpath h12
  have hml := madeP_le wpath
  have HMP : Hid (∀ w, Src w 1 wpa wpath.length (Is wpath) → Calls Tryd.prog 14 #[.slice wpa wpath.length wpc] w fun e w' => e = .returned (.string (Go.Proofs.YtmlnhiodabielaaDoor.S (madeP wpath))) ∧ Keeps (fun _ => False) w w') := fun w h => made_path w wpa wpath wpc h (by omega)
  generalize madeP wpath = p at *
  have hpl : p.length ≤ 140737488355328 := by omega
  have HCK := hide hck
  clear hck hml
  go_wp2_with fail
  refine (new_book S1).mono ?_
  rintro e w3 ⟨t, rfl, S2⟩
  have x3 := S2.p1.cell 3 _ rfl
  clear S1
  go_wp2_with fail
  refine (HMP.out _ (HXS.out.keepB (by decide) (S2.keepsOf (by simp)) (fun k hk h => by omega))).mono ?_
  rintro e w4 ⟨rfl, hk4⟩
  have S3 := S2.keep hk4
  have x4 := S3.p1.cell 4 _ rfl
  have x5 := S3.p1.cell 5 _ rfl
  clear S2 hk4 HMP x3
  have hadd := add_book S3 (HGL.out S3 (by simp)) ⟨3, p, kd, on⟩ hpl (parts_nil _) (by simp)
  rw [one_add ⟨3, p, kd, on⟩ (by show (1 : Int) ≤ 3; decide) (by show (3 : Int) ≤ 281474976710655; decide) HCK.out] at hadd
  have HAD := hide hadd
  clear hadd
  go_wp2_with fail
  refine HAD.out.mono ?_
  rintro e w5 ⟨rfl, S4⟩
  clear S3 x4 x5 HAD
  go_upto_region 10 with fail
  have S5 := (S4.box #[] 41 rfl).rowOf 5 0 rfl (Nat.zero_le _)
  generalize w5.alloc (.cells #[] 41) = w6 at *
  generalize w5.heap.size = rb at *
  clear S4
  obtain ⟨X, hX⟩ : ∃ X : WatT, X = ⟨3, p, kd, on⟩ := ⟨_, rfl⟩
  have HX := hide hX
  rw [← hX] at S5
  clear hX
  go_wp2_with fail
  go_loopw [7, 44] (fun v i wr => ∃ k : Nat, k ≤ acts.length ∧ i = .int .i64 k ∧ ∃ B want, Hid (OneW X B want ∧ ∀ e ∈ want, e.session = 3) ∧ want.length ≤ k ∧ Sat W wr (rowA 41 5 v want.length (want.flatMap evC) :: bookA t B :: cellsA xb 35 #[.int .i64 wk, .int .i64 wss, .int .i64 wn, .slice wpa wpath.length wpc, .bool kd, .bool on] :: [oldA W])) (fun _ i _ => acts.length - (RowKit.intOf i).toNat)
  case atStart => exact ⟨0, by omega, rfl, _, [], hide ⟨one_nil X, by simp⟩, by simp, S5⟩
  case round =>
    obtain ⟨k, hk, rfl, B, want, HO, hwl, S6⟩ := hrel
    clear S5
    obtain ⟨A2, c2, rfl, -⟩ := S6.row.form
    by_cases hlt : k < acts.length
    · have hk0 : (0 : Int) ≤ (k : Int) := by omega
      have hk1 : (k : Int) < (acts.length : Int) := by omega
      obtain ⟨ad, y, rfl, hy, d0, d1, d2, d3, d4, d5⟩ := wact_at (HSRC.out S6 (by simp)).1 hlt
      have hmem := List.mem_of_getElem? hy
      have HPS := hide (HS0.out.2 y hmem)
      have hp12 := HALL.out y hmem
      clear hy hmem
      obtain ⟨a0, a1, a2, a3, a4, a5, a6, a7⟩ := y
      simp only at d0 d1 d2 d3 d4 d5 HPS hp12
      have hsl := madeP_le a5
      have HMY : Hid (∀ w, Src w 1 a3 a5.length (Is a5) → Calls Tryd.prog 14 #[.slice a3 a5.length a4] w fun e w' => e = .returned (.string (Go.Proofs.YtmlnhiodabielaaDoor.S (madeP a5))) ∧ Keeps (fun _ => False) w w') := fun w h => made_path w a3 a5 a4 h (by omega)
      generalize madeP a5 = sp at *
      have hspl : sp.length ≤ 140737488355328 := by omega
      have hwh := what_le a2
      have hn3 : 0 ≤ bits .and .i64 a2 3 ∧ bits .and .i64 a2 3 ≤ 3 := and_le a2 3 (by decide)
      have hwf : whatF a2 = 1 + (bits .and .i64 a2 3) % 3 := rfl
      generalize whatF a2 = wh at *
      obtain ⟨n3, hn3e⟩ : ∃ n3, bits .and .i64 a2 3 = n3 := ⟨_, rfl⟩
      rw [hn3e] at hwf hn3
      have hr3 : n3.tmod 3 = wh - 1 := by rw [Int.tmod_eq_emod_of_nonneg hn3.1]; omega
      have hw3 : 1 + (wh - 1) = wh := by omega
      have hw4 : IntKind.i64.wrap wh = wh := IntWalk.i64_in _ ⟨by omega, by omega⟩
      have hw5 : IntKind.i64.wrap (1 + (wh - 1)) = wh := by rw [hw3]; exact hw4
      obtain ⟨hwh1, hwh2⟩ := hwh
      clear hn3 hwf
      have ho4 := one_ok HO.out.1 k hwl
      have HFI : Hid (∀ (w' : World) (L' : List Asn), Sat W w' (bookA t B :: L') → Calls Tryd.prog 16 #[ptr t, .string (Go.Proofs.YtmlnhiodabielaaDoor.S sp), .int .i64 wh, .int .i64 ((k : Int) + 1)] w' fun e w2 => e = .returned (.tuple #[]) ∧ Sat W w2 (bookA t (fireF B sp wh ((k : Int) + 1)) :: L')) := hide fun w' L' S' => fire_book S' (by omega) (by omega) (ho4.1.mono (by omega)) sp wh _ hspl
      have HO2 := hide (one_fire HO.out.1 sp wh ((k : Int) + 1))
      have HSE := hide (more_sess X sp wh ((k : Int) + 1) want (by rw [HX.out]; exact HO.out.2))
      have HUP : Hid (∀ w, Calls Tryd.prog 17 #[.string (Go.Proofs.YtmlnhiodabielaaDoor.S sp)] w fun e w' => e = .returned (.tuple #[.string (Go.Proofs.YtmlnhiodabielaaDoor.S (upF sp).1), .string (Go.Proofs.YtmlnhiodabielaaDoor.S (upF sp).2)]) ∧ Keeps (fun _ => False) w w') := fun w => up_path w sp hspl
      have HRx : Hid (hearsF X sp wh = if p = sp ∧ (kd = false ∨ wh = 2) then (wh, true) else if kd = true ∧ p = (upF sp).1 ∧ wh ≠ 3 then (4, true) else (0, false)) := by rw [HX.out]; rfl
      have HMO : Hid (moreF X sp wh ((k : Int) + 1) want = if (hearsF X sp wh).2 = true ∧ (on = false ∨ want = []) then want ++ [⟨3, (want.length : Int) + 1, p, (hearsF X sp wh).1, (k : Int) + 1⟩] else want) := by rw [HX.out]; rfl
      have hml2 := more_len X sp wh ((k : Int) + 1) want
      generalize fireF B sp wh ((k : Int) + 1) = B2 at *
      generalize (upF sp).1 = U at *
      generalize (upF sp).2 = U2 at *
      generalize moreF X sp wh ((k : Int) + 1) want = want2 at *
      obtain ⟨r, hr⟩ : ∃ r, hearsF X sp wh = r := ⟨_, rfl⟩
      rw [hr] at HRx HMO
      clear hr ho4 hsl
      obtain ⟨x1, x2⟩ := r
      go_upto_region 13 with fail
      have S7 := S6.box #[.int .i64 a0, .int .i64 a1, .int .i64 a2, .slice a3 a5.length a4, .bool a6, .bool a7] 35 rfl
      generalize wr.alloc (.cells #[.int .i64 a0, .int .i64 a1, .int .i64 a2, .slice a3 a5.length a4, .bool a6, .bool a7] 35) = w7 at *
      generalize wr.heap.size = yb at *
      have y2 := S7.cell 2 _ rfl
      have y3 := S7.cell 3 _ rfl
      clear S6 d0 d1 d2 d3 d4 d5
      go_wp2_with fail
      refine (HMY.out _ (HPS.out.keepB (by decide) (S7.keepsOf (by simp)) (fun k hk h => by omega))).mono ?_
      rintro e w8 ⟨rfl, hk8⟩
      have S8 := S7.keep hk8
      clear S7 hk8 y2 y3 HMY HPS
      go_wp2_with fail
      refine (HFI.out _ _ S8.p2).mono ?_
      rintro e w9 ⟨rfl, S9⟩
      clear S8 HFI
      go_wp2_with fail
      refine (HUP.out _).mono ?_
      rintro e wA ⟨rfl, hkA⟩
      have SA := S9.keep hkA
      have z4 := SA.p3.cell 4 _ rfl
      have z5 := SA.p3.cell 5 _ rfl
      clear S9 hkA HUP
      go_upto_block 2 with fail
      go_cut [14] (fun s14 wx => s14 = .int .i64 (if x2 = true then x1 else 0) ∧ wx = wA)
      case first =>
        have fin : ∀ r : Int × Bool, (x1, x2) = r → ((if x2 = true then x1 else 0) = if r.2 = true then r.1 else 0) := fun r h => by rw [← h]
        have hr := HRx.out
        clear SA HO HO2 HSE HRx HMO
        by_cases hp : p = sp
        · subst hp
          by_cases hw2 : kd = false ∨ wh = 2
          · rw [if_pos ⟨rfl, hw2⟩] at hr
            have HFIN := hide (fin _ hr)
            clear fin hr
            rcases hw2 with rfl | rfl
            · skip
              go_wp2_with fail
              go_meet
              case rel => exact ⟨by rw [HFIN.out]; rfl, rfl⟩
            · cases kd
              · skip
                go_wp2_with fail
                go_meet
                case rel => exact ⟨by rw [HFIN.out]; rfl, rfl⟩
              · skip
                go_wp2_with fail
                go_meet
                case rel => exact ⟨by rw [HFIN.out]; rfl, rfl⟩
          · have hw3 := hw2
            simp only [not_or] at hw3
            obtain ⟨h1, h2⟩ := hw3
            obtain rfl : kd = true := by simpa using h1
            rw [if_neg (by simp [h2])] at hr
            have h2b : (wh == 2) = false := by simpa using h2
            by_cases h3 : p = U ∧ wh ≠ 3
            · rw [if_pos ⟨rfl, h3⟩] at hr
              have HFIN := hide (fin _ hr)
              obtain ⟨rfl, h3⟩ := h3
              have h3b : (wh == 3) = false := by simpa using h3
              clear fin hr h1 hw2
              go_wp2_with fail
              go_meet
              case rel => exact ⟨by rw [HFIN.out]; rfl, rfl⟩
            · rw [if_neg (by simpa using h3)] at hr
              have HFIN := hide (fin _ hr)
              clear fin hr h1 hw2
              by_cases hu : p = U
              · subst hu
                obtain rfl : wh = 3 := by simpa using h3
                clear h3
                go_wp2_with fail
                go_meet
                case rel => exact ⟨by rw [HFIN.out]; rfl, rfl⟩
              · have hub : (U == p) = false := by simpa using Ne.symm hu
                clear h3
                go_wp2_with fail
                go_meet
                case rel => exact ⟨by rw [HFIN.out]; rfl, rfl⟩
        · have hpb : (sp == p) = false := by simpa using Ne.symm hp
          rw [if_neg (by simp [hp])] at hr
          by_cases h3 : kd = true ∧ p = U ∧ wh ≠ 3
          · rw [if_pos h3] at hr
            have HFIN := hide (fin _ hr)
            obtain ⟨rfl, rfl, h3⟩ := h3
            have h3b : (wh == 3) = false := by simpa using h3
            clear fin hr
            go_wp2_with fail
            go_meet
            case rel => exact ⟨by rw [HFIN.out]; rfl, rfl⟩
          · rw [if_neg h3] at hr
            have HFIN := hide (fin _ hr)
            clear fin hr
            cases kd
            · clear h3
              go_wp2_with fail
              go_meet
              case rel => exact ⟨by rw [HFIN.out]; rfl, rfl⟩
            · by_cases hu : p = U
              · subst hu
                obtain rfl : wh = 3 := by simpa using h3
                clear h3
                go_wp2_with fail
                go_meet
                case rel => exact ⟨by rw [HFIN.out]; rfl, rfl⟩
              · have hub : (U == p) = false := by simpa using Ne.symm hu
                clear h3
                go_wp2_with fail
                go_meet
                case rel => exact ⟨by rw [HFIN.out]; rfl, rfl⟩
      case rest =>
      obtain ⟨rfl, rfl⟩ := hcut
      cases x2
      · rw [show (if false = true then x1 else 0) = (0 : Int) from rfl]
        clear HRx
        have hm2 : want2 = want := by rw [HMO.out, if_neg (by simp)]
        have HM2 := hide hm2
        clear hm2
        go_wp2_with fail
        go_roundw
        case rel =>
          refine ⟨k + 1, by omega, by go_num, B2, want2, hide ⟨HO2.out, by have := HSE.out; rw [HX.out] at this; exact this⟩, by omega, ?_⟩
          rw [HM2.out]
          exact (SA.p2.p2).drop.p1.p1
        case measure => simp [RowKit.intOf]; omega
      · rw [show (if true = true then x1 else 0) = x1 from rfl]
        have hx1 : (x1 == 0) = false := by
          have h := HRx.out
          split at h
          · injection h with h1 h2
            subst h1
            simpa using (show ¬ x1 = 0 by omega)
          · split at h
            · injection h with h1 h2
              subst h1
              rfl
            · injection h with h1 h2
              cases h2
        have hx2 : (x1 != 0) = true := by simp [bne, hx1]
        have hx3 : ¬ x1 = 0 := by simpa using hx1
        clear HRx
        cases on
        · skip
          have hm2 : want2 = want ++ [(⟨3, (want.length : Int) + 1, p, x1, (k : Int) + 1⟩ : EvT)] := by rw [HMO.out, if_pos ⟨rfl, .inl rfl⟩]
          have HM2 := hide hm2
          clear hm2
          go_wp2_with (at_builtin; refine wpList_sapp slV rfl (.tmp 106) (.tmp 115) rfl (g := W) (S := (SA.box #[.int .i64 3, .int .i64 ((want.length : Int) + 1), .string (Go.Proofs.YtmlnhiodabielaaDoor.S p), .int .i64 x1, .int .i64 ((k : Int) + 1)] 41 rfl).p3) rfl (Src.block (heap_alloc_new _ _) 5 1 rfl) rfl (by simp [Value.oneCell']) (by unfold maxLen; omega) (by omega) ?_; intro A8 c8 w8 S8)
          go_roundw
          case rel =>
            refine ⟨k + 1, by omega, by go_num, B2, want2, hide ⟨HO2.out, by have := HSE.out; rw [HX.out] at this; exact this⟩, by omega, ?_⟩
            rw [HM2.out, List.length_append, List.length_singleton, List.flatMap_append, List.flatMap_singleton]
            exact (S8.p1.drop).p2.drop
          case measure => simp [RowKit.intOf]; omega
        · by_cases hw0 : want = []
          · have hlz : ((want.length : Int) == 0) = true := by rw [hw0]; rfl
            have HW0 := hide hw0
            clear hw0
            have hm2 : want2 = want ++ [(⟨3, (want.length : Int) + 1, p, x1, (k : Int) + 1⟩ : EvT)] := by rw [HMO.out, if_pos ⟨rfl, .inr HW0.out⟩]
            have HM2 := hide hm2
            clear hm2
            go_wp2_with (at_builtin; refine wpList_sapp slV rfl (.tmp 106) (.tmp 115) rfl (g := W) (S := (SA.box #[.int .i64 3, .int .i64 ((want.length : Int) + 1), .string (Go.Proofs.YtmlnhiodabielaaDoor.S p), .int .i64 x1, .int .i64 ((k : Int) + 1)] 41 rfl).p3) rfl (Src.block (heap_alloc_new _ _) 5 1 rfl) rfl (by simp [Value.oneCell']) (by unfold maxLen; omega) (by omega) ?_; intro A8 c8 w8 S8)
            go_roundw
            case rel =>
              refine ⟨k + 1, by omega, by go_num, B2, want2, hide ⟨HO2.out, by have := HSE.out; rw [HX.out] at this; exact this⟩, by omega, ?_⟩
              rw [HM2.out, List.length_append, List.length_singleton, List.flatMap_append, List.flatMap_singleton]
              exact (S8.p1.drop).p2.drop
            case measure => simp [RowKit.intOf]; omega
          · have hlz : ((want.length : Int) == 0) = false := by
              have : want.length ≠ 0 := fun h => hw0 (List.eq_nil_of_length_eq_zero h)
              simpa using hw0
            have HW0 := hide hw0
            clear hw0
            have hm2 : want2 = want := by rw [HMO.out, if_neg (fun h => h.2.elim (fun e => by cases e) HW0.out)]
            have HM2 := hide hm2
            clear hm2
            go_wp2_with fail
            go_roundw
            case rel =>
              refine ⟨k + 1, by omega, by go_num, B2, want2, hide ⟨HO2.out, by have := HSE.out; rw [HX.out] at this; exact this⟩, by omega, ?_⟩
              rw [HM2.out]
              exact (SA.p2.p2).drop.p1.p1
            case measure => simp [RowKit.intOf]; omega
    · obtain rfl : k = acts.length := by omega
      have hoe := HO.out.1.es
      have how := HO.out.1.ws
      have hos := HO.out.2
      rw [HX.out] at how
      simp only at how
      have hfl : (B.es.filter fun x => decide (x.session = 3)) = want := by
        rw [hoe, List.filter_eq_self]
        intro e he
        exact decide_eq_true (hos e he)
      have HFL := hide hfl
      have HOW := hide how
      have hes : B.es.length ≤ 1000000 := by rw [hoe]; omega
      clear hoe how hos hfl HO
      go_wp2_with fail
      refine (events_book S6.p1 hes 3).mono ?_
      rintro e w8 ⟨v, rfl, S8⟩
      rw [HFL.out] at S8
      obtain ⟨A5, c5, rfl, -⟩ := S8.row.form
      have x5 := S8.p3.cell 5 _ rfl
      clear S6
      have S11 : Sat W w8 (rowA 41 5 (.slice A5 want.length c5) want.length (want.flatMap evC) :: rowA 41 5 (.slice A2 want.length c2) want.length (want.flatMap evC) :: bookA t B :: cellsA xb 35 #[.int .i64 wk, .int .i64 wss, .int .i64 wn, .slice wpa wpath.length wpc, .bool kd, .bool on] :: [oldA W]) := S8.p2.p1
      clear S8
      go_upto_region 26 with fail
      go_cut [138] (fun s138 wx => s138 = .bool false ∧ Sat W wx (rowA 41 5 (.slice A5 want.length c5) want.length (want.flatMap evC) :: rowA 41 5 (.slice A2 want.length c2) want.length (want.flatMap evC) :: bookA t B :: cellsA xb 35 #[.int .i64 wk, .int .i64 wss, .int .i64 wn, .slice wpa wpath.length wpc, .bool kd, .bool on] :: [oldA W]))
      case first =>
        cases on
        · go_wp2_with fail
          go_meet
          case rel => exact ⟨rfl, S11⟩
        · by_cases hw0 : want = []
          · have hwl0 : B.ws.length = 1 := by rw [HOW.out, if_neg (fun h => h.2 hw0)]; rfl
            have hlz : decide ((0 : Int) < (want.length : Int)) = false := by rw [hw0]; rfl
            have HW0 := hide hw0
            clear hw0
            go_wp2_with fail
            refine (watches_len S11.p2 hwl0 (by decide)).mono ?_
            rintro e w9 ⟨A7, c7, rfl, S12⟩
            have S13 := S12.p2.p2
            clear S11 S12
            go_wp2_with fail
            go_meet
            case rel => exact ⟨by simp [HW0.out], S13⟩
          · have hwl0 : B.ws.length = 0 := by rw [HOW.out, if_pos ⟨rfl, hw0⟩]; rfl
            have hlz : decide ((0 : Int) < (want.length : Int)) = true := by
              have : want.length ≠ 0 := fun h => hw0 (List.eq_nil_of_length_eq_zero h)
              simp
              omega
            have HW0 := hide hw0
            clear hw0
            go_wp2_with fail
            refine (watches_len S11.p2 hwl0 (by decide)).mono ?_
            rintro e w9 ⟨A7, c7, rfl, S12⟩
            have S13 := S12.p2.p2
            clear S11 S12
            go_wp2_with fail
            go_meet
            case rel => exact ⟨by simp; exact List.length_pos_iff.2 HW0.out, S13⟩
      case rest =>
      obtain ⟨rfl, S14⟩ := hcut
      clear S11 x5
      go_wp2_with fail
      go_loopw [141] (fun i wr => ∃ k : Nat, k ≤ want.length ∧ i = .int .i64 k ∧ Sat W wr (rowA 41 5 (.slice A5 want.length c5) want.length (want.flatMap evC) :: rowA 41 5 (.slice A2 want.length c2) want.length (want.flatMap evC) :: bookA t B :: cellsA xb 35 #[.int .i64 wk, .int .i64 wss, .int .i64 wn, .slice wpa wpath.length wpc, .bool kd, .bool on] :: [oldA W])) (fun i _ => want.length - (RowKit.intOf i).toNat)
      case atStart => exact ⟨0, by omega, rfl, S14⟩
      case round =>
        obtain ⟨q, hq, rfl, S12⟩ := hrel
        clear S14
        by_cases hlt2 : q < want.length
        · have hq0 : (0 : Int) ≤ (q : Int) := by omega
          have hq1 : (q : Int) < (want.length : Int) := by omega
          obtain ⟨ad1, y, rfl, hy, d0, d1, d2, d3, d4⟩ := ev_at S12.srcR hlt2
          obtain ⟨ad2, y', rfl, hy', f0, f1, f2, f3, f4⟩ := ev_at S12.p1.srcR hlt2
          obtain rfl : y' = y := by rw [hy] at hy'; injection hy' with h; exact h.symm
          have hneq : ∀ w', (binOp .neq 41 (evV y') (evV y')).run Tryd.prog w' = .ok (.bool false) w' := fun w' => by
            have := neq_ev w' y' y'
            rwa [decide_eq_true rfl] at this
          clear hy hy'
          obtain ⟨e0, e1, e2, e3, e4⟩ := y'
          simp only at d0 d1 d2 d3 d4 f0 f1 f2 f3 f4
          simp only [evV] at hneq
          go_upto_region 31 with fail
          go_region_held3 (fun v' => v'.cell? (ad1.add (q * 5)) = some (.int .i64 e0) ∧ v'.cell? ⟨(ad1.add (q * 5)).block, (ad1.add (q * 5)).off + 1, none⟩ = some (.int .i64 e1) ∧ v'.cell? ⟨(ad1.add (q * 5)).block, (ad1.add (q * 5)).off + 2, none⟩ = some (.string (Go.Proofs.YtmlnhiodabielaaDoor.S e2)) ∧ v'.cell? ⟨(ad1.add (q * 5)).block, (ad1.add (q * 5)).off + 3, none⟩ = some (.int .i64 e3) ∧ v'.cell? ⟨(ad1.add (q * 5)).block, (ad1.add (q * 5)).off + 4, none⟩ = some (.int .i64 e4) ∧ v'.cell? (ad2.add (q * 5)) = some (.int .i64 e0) ∧ v'.cell? ⟨(ad2.add (q * 5)).block, (ad2.add (q * 5)).off + 1, none⟩ = some (.int .i64 e1) ∧ v'.cell? ⟨(ad2.add (q * 5)).block, (ad2.add (q * 5)).off + 2, none⟩ = some (.string (Go.Proofs.YtmlnhiodabielaaDoor.S e2)) ∧ v'.cell? ⟨(ad2.add (q * 5)).block, (ad2.add (q * 5)).off + 3, none⟩ = some (.int .i64 e3) ∧ v'.cell? ⟨(ad2.add (q * 5)).block, (ad2.add (q * 5)).off + 4, none⟩ = some (.int .i64 e4)) (go_keep) (fail)
          go_wp2_with fail
          go_roundw
          case rel => exact ⟨q + 1, by omega, by go_num, by (repeat (first | exact S12 | refine Sat.drew ?_ | refine Sat.drewN ?_ _))⟩
          case measure => simp [RowKit.intOf]; omega
        · obtain rfl : q = want.length := by omega
          have HK := hide (S12.drop.drop.drop.drop.keep_all)
          go_wp2_with fail
          go_ret
          exact ⟨rfl, HK.out⟩

end Go.Proofs.YtmlnhiodabielaaDoor
