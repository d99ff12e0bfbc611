/- The model of the statements of layer 11: Fire. No condition. -/
import Derived.Test.YtbfogieeiobpdaaGreatDoorWModA
set_option linter.unusedVariables false
set_option linter.unusedSimpArgs false
namespace Go.Proofs.YtbfogieeiobpdaaGreatDoor
open Go.RowKit

theorem left_step (s : List UInt8) (what : Int) (ws : List WatT) (k : Nat) (x : WatT) (h : ws[k]? = some x) :
    (ws.take (k + 1)).filter (fun x => !firesP s what x) = (ws.take k).filter (fun x => !firesP s what x) ++ if firesP s what x = true then [] else [x] := filt_step h
theorem note_step (s : List UInt8) (what when_ : Int) (ws : List WatT) (st : Nts) (k : Nat) (x : WatT) (h : ws[k]? = some x) :
    (ws.take (k + 1)).foldl (noteF s what when_) st = noteF s what when_ ((ws.take k).foldl (noteF s what when_) st) x := by
  obtain ⟨hk, rfl⟩ := List.getElem?_eq_some_iff.1 h
  rw [List.take_succ_eq_append_getElem hk, List.foldl_append]
  rfl
theorem zeroI (w : World) : (zeroValue 3).run Tryz.prog w = .ok (.int .i64 0) w := by kernel_rfl

set_option maxRecDepth 100000 in
set_option maxHeartbeats 16000000 in
theorem mfire_model {g w : World} {L : List Asn} {b : Nat} {B : BookT} (S : Sat g w (modelA b B :: L)) (hl : B.es.length ≤ 500000) (hl2 : B.ws.length ≤ 1000) (hn : NosOk B.nos 500000) (s : List UInt8) (what when_ : Int) (hs : s.length ≤ 140737488355328) (hw : 1 ≤ what) :
    Calls Tryz.prog 47 #[ptr b, .string (Go.Proofs.YtbfogieeiobpdaaGreatDoor.S s), .int .i64 what, .int .i64 when_] w fun e w' => e = .returned (.tuple #[]) ∧ Sat g w' (modelA b (fireF B s what when_) :: L) := by
  obtain ⟨wv, S1⟩ := S.modelOpen
  obtain ⟨ws, es, nos⟩ := B
  simp only at hl hl2 hn S1
  obtain ⟨A, c, rfl, -⟩ := S1.p1.row.form
  clear S
  have HU : Hid (∀ w, Calls Tryz.prog 86 #[.string (Go.Proofs.YtbfogieeiobpdaaGreatDoor.S s)] w fun e w' => e = .returned (.tuple #[.string (Go.Proofs.YtbfogieeiobpdaaGreatDoor.S (upF s).1), .string (Go.Proofs.YtbfogieeiobpdaaGreatDoor.S (upF s).2)]) ∧ Keeps (fun _ => False) w w') := fun w => up_path w s hs
  have HR : Hid (∀ x : WatT, hearsF x s what = if x.path = s ∧ (x.kids = false ∨ what = 2) then (what, true) else if x.kids = true ∧ x.path = (upF s).1 ∧ what ≠ 3 then (4, true) else (0, false)) := fun x => rfl
  have HLS := hide (left_step s what ws)
  have HNS := hide (note_step s what when_ ws (es, nos))
  have HFI : Hid (∀ x : WatT, firesP s what x = ((hearsF x s what).2 && x.once)) := fun x => rfl
  have HNF : Hid (∀ (st : Nts) (x : WatT), noteF s what when_ st x = if (hearsF x s what).2 = true then (st.1 ++ [⟨x.session, (mget st.2 x.session).getD 0 + 1, x.path, (hearsF x s what).1, when_⟩], mput st.2 x.session ((mget st.2 x.session).getD 0 + 1)) else st) := fun st x => rfl
  have HB : Hid (∀ k, NosOk ((ws.take k).foldl (noteF s what when_) (es, nos)).2 1000000 ∧ ((ws.take k).foldl (noteF s what when_) (es, nos)).1.length ≤ 1000000 ∧ ((ws.take k).filter fun x => !firesP s what x).length ≤ 1000) := hide fun k => by
    obtain ⟨h1, h2⟩ := notes_ok s what when_ (ws.take k) (es, nos) hn
    have h3 : (ws.take k).length ≤ ws.length := by rw [List.length_take]; omega
    have h4 := List.length_filter_le (fun x => !firesP s what x) (ws.take k)
    simp only at h2
    exact ⟨h1.mono (by omega), by omega, by omega⟩
  have HFF : Hid (fireF ⟨ws, es, nos⟩ s what when_ = ⟨ws.filter fun x => !firesP s what x, (ws.foldl (noteF s what when_) (es, nos)).1, (ws.foldl (noteF s what when_) (es, nos)).2⟩) := rfl
  generalize fireF ⟨ws, es, nos⟩ s what when_ = B2 at *
  generalize (upF s).1 = U at *
  generalize (upF s).2 = U2 at *
  obtain ⟨fp, hfp⟩ : ∃ fp : WatT → Bool, (fun x => !firesP s what x) = fp := ⟨_, rfl⟩
  obtain ⟨nf, hnf⟩ : ∃ nf : Nts → WatT → Nts, noteF s what when_ = nf := ⟨_, rfl⟩
  obtain ⟨fi, hfi⟩ : ∃ fi : WatT → Bool, firesP s what = fi := ⟨_, rfl⟩
  obtain ⟨hf, hhf⟩ : ∃ hf : WatT → Int × Bool, (fun x => hearsF x s what) = hf := ⟨_, rfl⟩
  have hhf2 : ∀ x, hearsF x s what = hf x := fun x => congrFun hhf x
  simp only [hfp] at HLS HB HFF
  simp only [hnf, hfi] at HLS HNS HFI HNF HB HFF
  simp only [hhf2] at HR HFI HNF
  clear hfp hnf hfi hhf hhf2 hn
  go_enter Tryz.func47, Tryz.ntmps47
  go_wp2_with fail
  refine (HU.out _).mono ?_
  rintro e w2 ⟨rfl, hk2⟩
  have S2 := S1.keep hk2
  clear S1 hk2 HU
  go_upto_region 2 with fail
  have S3 := (S2.box #[] 96 rfl).rowOf 4 0 rfl (Nat.zero_le _)
  generalize w2.alloc (.cells #[] 96) = w3 at *
  generalize w2.heap.size = rb at *
  obtain ⟨ev, nv, SO⟩ := S3.p1.mnotesOpen
  have c0 := SO.cell 0 _ rfl
  clear SO S2
  go_wp2_with fail
  go_loopw [10, 25] (fun v i wr => ∃ k : Nat, k ≤ ws.length ∧ i = .int .i64 k ∧ Sat g wr (rowA 96 4 v ((ws.take k).filter fp).length (((ws.take k).filter fp).flatMap watC) :: mnotesA b (.slice A ws.length c) ((ws.take k).foldl nf (es, nos)).1 ((ws.take k).foldl nf (es, nos)).2 :: rowA 96 4 (.slice A ws.length c) ws.length (ws.flatMap watC) :: L)) (fun _ i _ => ws.length - (RowKit.intOf i).toNat)
  case atStart => exact ⟨0, by omega, rfl, by simpa using S3⟩
  case round =>
    obtain ⟨k, hk, rfl, S4⟩ := hrel
    clear S3 c0 ev nv
    by_cases hlt : k < ws.length
    · have hk0 : (0 : Int) ≤ (k : Int) := by omega
      have hk1 : (k : Int) < (ws.length : Int) := by omega
      obtain ⟨ad, x, rfl, hx, d0, d1, d2, d3⟩ := wat_at S4.p2.srcR hlt
      obtain ⟨hb1, hb2, hb3⟩ := HB.out k
      have hls := HLS.out k x hx
      have hns := HNS.out k x hx
      have HLSx := hide hls
      have HNSx := hide hns
      clear hls hns hx
      generalize (ws.take k).filter fp = wl at *
      generalize (ws.take k).foldl nf (es, nos) = st at *
      obtain ⟨es1, nos1⟩ := st
      simp only at hb1 hb2 S4
      have HRx := hide (HR.out x)
      have HFIx := hide (HFI.out x)
      have HNFx := hide (HNF.out (es1, nos1) x)
      generalize hf x = r at *
      obtain ⟨x1, x2⟩ := r
      obtain ⟨hno0, hno1⟩ := hb1 x.session
      have HB1 := hide hb1
      rw [HFIx.out] at HLSx
      rw [HNFx.out] at HNSx
      clear hb1 HFIx HNFx
      obtain ⟨ss, p, kd, on⟩ := x
      simp only at HRx HLSx HNSx hno0 hno1 d0 d1 d2 d3
      obtain ⟨B3, c3, rfl, -⟩ := S4.row.form
      have SB := S4.box #[.int .i64 ss, .string (Go.Proofs.YtbfogieeiobpdaaGreatDoor.S p), .bool kd, .bool on] 96 rfl
      go_upto_region 5 with fail
      generalize wr.alloc (.cells #[.int .i64 ss, .string (Go.Proofs.YtbfogieeiobpdaaGreatDoor.S p), .bool kd, .bool on] 96) = w5 at *
      generalize wr.heap.size = xb at *
      have x0 := SB.cell 0 _ rfl
      have y1 := SB.cell 1 _ rfl
      have y2 := SB.cell 2 _ rfl
      have y3 := SB.cell 3 _ rfl
      clear S4 d0 d1 d2 d3
      go_upto_region 6 with fail
      obtain ⟨C1, hC1⟩ : ∃ C1, decide (p = s ∧ (kd = false ∨ what = 2)) = C1 := ⟨_, rfl⟩
      have HC1 := hide hC1
      clear hC1
      go_cut [41] (fun s41 wx => s41 = .bool C1 ∧ wx = w5)
      case first =>
        have hc := HC1.out
        clear HLSx HNSx SB HB1 HRx HC1
        by_cases hp : p = s
        · subst hp
          cases kd
          · obtain rfl : C1 = true := by rw [← hc]; simp
            clear hc
            go_wp2_with fail
            go_meet
            case rel => exact ⟨rfl, rfl⟩
          · by_cases h2 : what = 2
            · subst h2
              obtain rfl : C1 = true := by rw [← hc]; simp
              clear hc
              go_wp2_with fail
              go_meet
              case rel => exact ⟨rfl, rfl⟩
            · have h2b : (what == 2) = false := by simpa using h2
              obtain rfl : C1 = false := by rw [← hc]; simp [h2]
              clear hc
              go_wp2_with fail
              go_meet
              case rel => exact ⟨rfl, rfl⟩
        · have hpb : (p == s) = false := by simpa using hp
          obtain rfl : C1 = false := by rw [← hc]; simp [hp]
          clear hc
          go_wp2_with fail
          go_meet
          case rel => exact ⟨rfl, rfl⟩
      case rest =>
      obtain ⟨rfl, rfl⟩ := hcut
      go_upto_if 41 with fail
      go_cut [13] (fun s13 wx => s13 = .int .i64 (if x2 = true then x1 else 0) ∧ wx = wc)
      case first =>
        have fin : ∀ r : Int × Bool, (x1, x2) = r → ((if x2 = true then x1 else 0) = if r.2 = true then r.1 else 0) := fun r h => by rw [← h]
        have hr := HRx.out
        have hc := HC1.out
        clear HLSx HNSx SB HB1 HRx HC1
        cases C1
        · rw [if_neg (of_decide_eq_false hc)] at hr
          by_cases h3 : kd = true ∧ p = U ∧ what ≠ 3
          · rw [if_pos h3] at hr
            have HFIN := hide (fin _ hr)
            obtain ⟨rfl, rfl, h3⟩ := h3
            have h3b : (what == 3) = false := by simpa using h3
            clear fin hr hc
            go_wp2_with fail
            go_meet
            case rel => exact ⟨by rw [HFIN.out]; rfl, rfl⟩
          · rw [if_neg h3] at hr
            have HFIN := hide (fin _ hr)
            clear fin hr hc
            cases kd
            · clear h3
              go_wp2_with fail
              go_meet
              case rel => exact ⟨by rw [HFIN.out]; rfl, rfl⟩
            · by_cases hu : p = U
              · subst hu
                obtain rfl : what = 3 := by simpa using h3
                clear h3
                go_wp2_with fail
                go_meet
                case rel => exact ⟨by rw [HFIN.out]; rfl, rfl⟩
              · have hub : (p == U) = false := by simpa using hu
                clear h3
                go_wp2_with fail
                go_meet
                case rel => exact ⟨by rw [HFIN.out]; rfl, rfl⟩
        · rw [if_pos (of_decide_eq_true hc)] at hr
          have HFIN := hide (fin _ hr)
          clear fin hr hc
          go_wp2_with fail
          go_meet
          case rel => exact ⟨by rw [HFIN.out]; rfl, rfl⟩
      case rest =>
        obtain ⟨rfl, rfl⟩ := hcut
        cases x2
        · rw [if_neg (by simp)] at HNSx
          rw [show (false && on) = false from rfl, if_neg (by simp)] at HLSx
          rw [show (if false = true then x1 else 0) = (0 : Int) from rfl]
          clear HRx HC1
          go_wp2_with (at_builtin; refine wpList_sapp slW rfl (.tmp 57) (.tmp 59) rfl (g := g) (S := (SB.box #[.int .i64 ss, .string (Go.Proofs.YtbfogieeiobpdaaGreatDoor.S p), .bool kd, .bool on] 96 rfl).p2) rfl (Src.block (heap_alloc_new _ _) 4 1 rfl) rfl (by simp [Value.oneCell']) (by unfold maxLen; omega) (by omega) ?_; intro A5 c5 w5 S5)
          go_roundw
          case rel =>
            refine ⟨k + 1, by omega, by go_num, ?_⟩
            rw [HLSx.out, HNSx.out, List.length_append, List.length_singleton, List.flatMap_append, List.flatMap_singleton]
            exact S5.p1.drop.p1.drop
          case measure => simp [RowKit.intOf]; omega
        · rw [if_pos rfl] at HNSx
          rw [show (true && on) = on from rfl] at HLSx
          rw [show (if true = true then x1 else 0) = x1 from rfl]
          have hx1 : (x1 == 0) = false := by
            have h := HRx.out
            split at h
            · injection h with h1 h2
              subst h1
              simpa using (show ¬ x1 = 0 by omega)
            · split at h
              · injection h with h1 h2
                subst h1
                rfl
              · injection h with h1 h2
                cases h2
          clear HRx HC1
          obtain ⟨ev, nv, SO⟩ := SB.p2.mnotesOpen
          obtain ⟨A4, c4, rfl, -⟩ := SO.p1.row.form
          clear SB x0 y1 y2 y3
          rcases SO.p2.nosForm with ⟨rfl, rfl, SP⟩ | ⟨m, rfl, SP⟩
          · clear SO
            have hmm := @run_makeMap Tryz.prog
            have b0 := SP.cell 2 _ rfl
            have hnil : ∀ w, (Go.binOp .eql 30 (.map none) (.map none)).run Tryz.prog w = .ok (.bool true) w := fun w => by kernel_rfl
            have SQ : Sat g (wc.alloc (.map #[] 0)) (mapA kW kW wc.heap.size [] :: _) := SP.mapNew ((Keeps.refl _ wc).alloc _) (Nat.le_refl _) (MapOf.made kW kW wc)
            have b1 := SQ.p1.cell 2 _ rfl
            have f1 := SQ.p1.cells_fz 2
            have SR := SQ.p1.setc 2 (.map (some wc.heap.size))
            go_upto_region 14 with fail
            generalize (wc.alloc (.map #[] 0)).setCell ⟨b, 2, none⟩ (.map (some wc.heap.size)) = w6 at *
            generalize wc.heap.size = m at *
            have S6 : Sat g w6 (cellsA b 32 #[.slice (some ad) ws.length c, .slice A4 es1.length c4, .map (some m)] :: rowA 74 5 (.slice A4 es1.length c4) es1.length (es1.flatMap evC) :: mapA kW kW m [] :: cellsA xb 96 #[.int .i64 ss, .string (Go.Proofs.YtbfogieeiobpdaaGreatDoor.S p), .bool kd, .bool on] :: rowA 96 4 (.slice B3 wl.length c3) wl.length (wl.flatMap watC) :: rowA 96 4 (.slice (some ad) ws.length c) ws.length (ws.flatMap watC) :: L) := SR.p2.p1
            clear SP SQ SR b0 b1 f1 hmm hnil
            obtain ⟨nos1, hnos⟩ : ∃ l : List (Int × Int), l = [] := ⟨_, rfl⟩
            rw [← hnos] at S6 HNSx hno0 hno1 HB1
            clear hnos
            obtain ⟨n0, hn0⟩ : ∃ n0, (mget nos1 ss).getD 0 = n0 := ⟨_, rfl⟩
            rw [hn0] at hno0 hno1
            have HN0 := hide hn0
            clear hn0
            have S7 := S6.drew
            have a0 := S6.p3.cell 0 _ rfl
            have b0 := S6.cell 2 _ rfl
            have a0' := S7.p3.cell 0 _ rfl
            have b0' := S7.cell 2 _ rfl
            have hlk := look_no S6.p2 ss
            have hlk' := look_no S7.p2 ss
            rw [HN0.out] at hlk hlk'
            have hw1 : IntKind.i64.wrap (n0 + 1) = n0 + 1 := IntWalk.i64_in _ ⟨by omega, by omega⟩
            obtain ⟨w8, hup, hm8, hk8⟩ := S7.p2.mapOf.update kWT Tryz.underlying30 ss (n0 + 1)
            have hup' : (Instr.mapUpdate 30 (.map (some m)) (.int .i64 ss) (.int .i64 (n0 + 1))).run Tryz.prog w6.drew = .ok () w8 := hup
            have S8 := S7.p2.mapPut hk8 hm8
            clear hup hm8 hk8 S7
            go_still_tail 8, (by kernel_rfl)
            change wpList _ _ _ _ _ w6.drew
            go_upto_region 15 with fail
            clear hlk hlk' b0 b0' a0 a0' hup' S6
            have S9 : Sat g w8 (cellsA b 32 #[.slice (some ad) ws.length c, .slice A4 es1.length c4, .map (some m)] :: rowA 74 5 (.slice A4 es1.length c4) es1.length (es1.flatMap evC) :: mapA kW kW m (mput nos1 ss (n0 + 1)) :: cellsA xb 96 #[.int .i64 ss, .string (Go.Proofs.YtbfogieeiobpdaaGreatDoor.S p), .bool kd, .bool on] :: rowA 96 4 (.slice B3 wl.length c3) wl.length (wl.flatMap watC) :: rowA 96 4 (.slice (some ad) ws.length c) ws.length (ws.flatMap watC) :: L) := S8.p2.p2
            clear S8
            have HS : Hid (∀ (w' : World) (ev' : Value), Sat g w' (cellsA b 32 #[.slice (some ad) ws.length c, ev', .map (some m)] :: mapA kW kW m (mput nos1 ss (n0 + 1)) :: cellsA xb 96 #[.int .i64 ss, .string (Go.Proofs.YtbfogieeiobpdaaGreatDoor.S p), .bool kd, .bool on] :: rowA 96 4 (.slice B3 wl.length c3) wl.length (wl.flatMap watC) :: rowA 96 4 (.slice (some ad) ws.length c) ws.length (ws.flatMap watC) :: L) → w'.cell? ⟨b, 2, none⟩ = some (.map (some m)) ∧ w'.cell? ⟨xb, 0, none⟩ = some (.int .i64 ss) ∧ w'.cell? ⟨xb, 1, none⟩ = some (.string (Go.Proofs.YtbfogieeiobpdaaGreatDoor.S p)) ∧ (Instr.lookup 30 (.map (some m)) (.int .i64 ss) false).run Tryz.prog w' = .ok (.int .i64 (n0 + 1)) w') := hide fun w' ev' S' =>
              ⟨S'.cell 2 _ rfl, S'.p2.cell 0 _ rfl, S'.p2.cell 1 _ rfl, by have := look_no S'.p1 ss; rwa [mget_mput, if_pos rfl] at this⟩
            have q7d : w8.drew.cell? ⟨b, 1, none⟩ = some (.slice A4 es1.length c4) := S9.drew.cell 1 _ rfl
            have q7a : (w8.alloc (.cells #[.int .i64 ss, .int .i64 (n0 + 1), .string (Go.Proofs.YtbfogieeiobpdaaGreatDoor.S p), .int .i64 x1, .int .i64 when_] 74)).drew.cell? ⟨b, 1, none⟩ = some (.slice A4 es1.length c4) := (S9.box #[.int .i64 ss, .int .i64 (n0 + 1), .string (Go.Proofs.YtbfogieeiobpdaaGreatDoor.S p), .int .i64 x1, .int .i64 when_] 74 rfl).drew.p1.cell 1 _ rfl
            refine wp_region_held_drew (S := fun w' => w'.cell? ⟨b, 2, none⟩ = some (.map (some m)) ∧ w'.cell? ⟨xb, 0, none⟩ = some (.int .i64 ss) ∧ w'.cell? ⟨xb, 1, none⟩ = some (.string (Go.Proofs.YtbfogieeiobpdaaGreatDoor.S p)) ∧ (Instr.lookup 30 (.map (some m)) (.int .i64 ss) false).run Tryz.prog w' = .ok (.int .i64 (n0 + 1)) w') (by kernel_rfl) ?_ (fun hHeld => ?_)
            · exact HS.out _ _ ((S9.p1.drop).keep (by (repeat (first | exact Keeps.refl _ _ | refine Keeps.alloc ?_ _ | refine Keeps.drew ?_ | refine Keeps.drewN ?_ _))))
            refine wpAnyH_take (i := 0) (oi := _) (v := ?_) rfl (by kernel_rfl) (by kernel_rfl) (by kernel_rfl) (fun _ _ _ h => h) (Or.inl ⟨by rfl, ?_⟩) hHeld ?_
            rotate_left
            · intro w' hSw
              (try dsimp only at hSw)
              go_simp
              try with_reducible rfl
            try simp only [Act.put, List.setIfInBounds_toArray, List.set_cons_zero, List.set_cons_succ]
            refine wpAnyH_take (i := 1) (oi := _) (v := ?_) rfl (by kernel_rfl) (by kernel_rfl) (by kernel_rfl) (fun _ _ _ h => h) (Or.inl ⟨by rfl, ?_⟩) hHeld ?_
            rotate_left
            · intro w' hSw
              (try dsimp only at hSw)
              go_simp
              try with_reducible rfl
            try simp only [Act.put, List.setIfInBounds_toArray, List.set_cons_zero, List.set_cons_succ]
            refine wpAnyH_take (i := 2) (oi := _) (v := ?_) rfl (by kernel_rfl) (by kernel_rfl) (by kernel_rfl) (fun _ _ _ h => h) (Or.inl ⟨by rfl, ?_⟩) hHeld ?_
            rotate_left
            · intro w' hSw
              (try dsimp only at hSw)
              go_simp
              try with_reducible rfl
            try simp only [Act.put, List.setIfInBounds_toArray, List.set_cons_zero, List.set_cons_succ]
            refine wpAnyH_take (i := 3) (oi := _) (v := ?_) rfl (by kernel_rfl) (by kernel_rfl) (by kernel_rfl) (fun _ _ _ h => h) (Or.inl ⟨by rfl, ?_⟩) hHeld ?_
            rotate_left
            · intro w' hSw
              (try dsimp only at hSw)
              go_simp
              try with_reducible rfl
            try simp only [Act.put, List.setIfInBounds_toArray, List.set_cons_zero, List.set_cons_succ]
            refine wpAnyH_take (i := 5) (oi := _) (v := ?_) rfl (by kernel_rfl) (by kernel_rfl) (by kernel_rfl) (fun _ _ _ h => h) (Or.inl ⟨by rfl, ?_⟩) hHeld ?_
            rotate_left
            · intro w' hSw
              (try dsimp only at hSw)
              go_simp
              try with_reducible rfl
            try simp only [Act.put, List.setIfInBounds_toArray, List.set_cons_zero, List.set_cons_succ]
            refine wpAnyH_take (i := 6) (oi := _) (v := ?_) rfl (by kernel_rfl) (by kernel_rfl) (by kernel_rfl) (fun _ _ _ h => h) (Or.inl ⟨by rfl, ?_⟩) hHeld ?_
            rotate_left
            · intro w' hSw
              (try dsimp only at hSw)
              go_simp
              try with_reducible rfl
            try simp only [Act.put, List.setIfInBounds_toArray, List.set_cons_zero, List.set_cons_succ]
            refine wpAnyH_take (i := 7) (oi := _) (v := ?_) rfl (by kernel_rfl) (by kernel_rfl) (by kernel_rfl) (fun _ _ _ h => h) (Or.inl ⟨by rfl, ?_⟩) hHeld ?_
            rotate_left
            · intro w' hSw
              (try dsimp only at hSw)
              go_simp
              try with_reducible rfl
            try simp only [Act.put, List.setIfInBounds_toArray, List.set_cons_zero, List.set_cons_succ]
            refine wpAnyH_take (i := 8) (oi := _) (v := ?_) rfl (by kernel_rfl) (by kernel_rfl) (by kernel_rfl) (fun _ _ _ h => h) (Or.inl ⟨by rfl, ?_⟩) hHeld ?_
            rotate_left
            · intro w' hSw
              (try dsimp only at hSw)
              go_simp
              try with_reducible rfl
            try simp only [Act.put, List.setIfInBounds_toArray, List.set_cons_zero, List.set_cons_succ]
            refine wpAnyH_take (i := 9) (oi := _) (v := ?_) rfl (by kernel_rfl) (by kernel_rfl) (by kernel_rfl) (fun _ _ _ h => h) (Or.inl ⟨by rfl, ?_⟩) hHeld ?_
            rotate_left
            · intro w' hSw
              (try dsimp only at hSw)
              go_simp
              try with_reducible rfl
            try simp only [Act.put, List.setIfInBounds_toArray, List.set_cons_zero, List.set_cons_succ]
            refine wpAnyH_take (i := 10) (oi := _) (v := ?_) rfl (by kernel_rfl) (by kernel_rfl) (by kernel_rfl) (fun _ _ _ h => h) (Or.inl ⟨by rfl, ?_⟩) hHeld ?_
            rotate_left
            · intro w' hSw
              (try dsimp only at hSw)
              go_simp
              try with_reducible rfl
            try simp only [Act.put, List.setIfInBounds_toArray, List.set_cons_zero, List.set_cons_succ]
            refine wpAnyH_take (i := 11) (oi := _) (v := ?_) rfl (by kernel_rfl) (by kernel_rfl) (by kernel_rfl) (fun _ _ _ h => h) (Or.inl ⟨by rfl, ?_⟩) hHeld ?_
            rotate_left
            · intro w' hSw
              (try dsimp only at hSw)
              go_simp
              try with_reducible rfl
            try simp only [Act.put, List.setIfInBounds_toArray, List.set_cons_zero, List.set_cons_succ]
            refine wpAnyH_take (i := 12) (oi := _) (v := ?_) rfl (by kernel_rfl) (by kernel_rfl) (by kernel_rfl) (fun _ _ _ h => h) (Or.inl ⟨by rfl, ?_⟩) hHeld ?_
            rotate_left
            · intro w' hSw
              (try dsimp only at hSw)
              go_simp
              try with_reducible rfl
            try simp only [Act.put, List.setIfInBounds_toArray, List.set_cons_zero, List.set_cons_succ]
            refine wpAnyH_take (i := 13) (oi := _) (v := ?_) rfl (by kernel_rfl) (by kernel_rfl) (by kernel_rfl) (fun _ _ _ h => h) (Or.inl ⟨by rfl, ?_⟩) hHeld ?_
            rotate_left
            · intro w' hSw
              (try dsimp only at hSw)
              go_simp
              try with_reducible rfl
            try simp only [Act.put, List.setIfInBounds_toArray, List.set_cons_zero, List.set_cons_succ]
            refine wpAnyH_take (i := 14) (oi := _) (v := ?_) rfl (by kernel_rfl) (by kernel_rfl) (by kernel_rfl) (fun _ _ _ h => h) (Or.inl ⟨by rfl, ?_⟩) hHeld ?_
            rotate_left
            · intro w' hSw
              (try dsimp only at hSw)
              go_simp
              try with_reducible rfl
            try simp only [Act.put, List.setIfInBounds_toArray, List.set_cons_zero, List.set_cons_succ]
            refine wpAnyH_take (i := 15) (oi := _) (v := ?_) rfl (by kernel_rfl) (by kernel_rfl) (by kernel_rfl) (fun _ _ _ h => h) (Or.inl ⟨by rfl, ?_⟩) hHeld ?_
            rotate_left
            · intro w' hSw
              (try dsimp only at hSw)
              go_simp
              try with_reducible rfl
            try simp only [Act.put, List.setIfInBounds_toArray, List.set_cons_zero, List.set_cons_succ]
            refine wpAnyH_take (i := 16) (oi := _) (v := ?_) rfl (by kernel_rfl) (by kernel_rfl) (by kernel_rfl) (fun _ _ _ h => h) (Or.inl ⟨by rfl, ?_⟩) hHeld ?_
            rotate_left
            · intro w' hSw
              (try dsimp only at hSw)
              go_simp
              try with_reducible rfl
            try simp only [Act.put, List.setIfInBounds_toArray, List.set_cons_zero, List.set_cons_succ]
            refine wpAnyH_take (i := 17) (oi := _) (v := ?_) rfl (by kernel_rfl) (by kernel_rfl) (by kernel_rfl) (fun _ _ _ h => h) (Or.inl ⟨by rfl, ?_⟩) hHeld ?_
            rotate_left
            · intro w' hSw
              (try dsimp only at hSw)
              go_simp
              try with_reducible rfl
            try simp only [Act.put, List.setIfInBounds_toArray, List.set_cons_zero, List.set_cons_succ]
            refine wpAnyH_take (i := 18) (oi := _) (v := ?_) rfl (by kernel_rfl) (by kernel_rfl) (by kernel_rfl) (fun _ _ _ h => h) (Or.inl ⟨by rfl, ?_⟩) hHeld ?_
            rotate_left
            · intro w' hSw
              (try dsimp only at hSw)
              go_simp
              try with_reducible rfl
            try simp only [Act.put, List.setIfInBounds_toArray, List.set_cons_zero, List.set_cons_succ]
            refine wpAnyH_ready (rs := [4, 19]) (by kernel_rfl) (by simp) ?_
            refine AllReadyH.cons rfl (fun K hK => ?_) ?_
            · go_simp
              refine hK.out _ _ ?_ (fun hHeld => ?_)
              · exact HS.out _ _ ((S9.p1.drop).keep (by (repeat (first | exact Keeps.refl _ _ | refine Keeps.alloc ?_ _ | refine Keeps.drew ?_ | refine Keeps.drewN ?_ _))))
              clear hK K
              try simp only [Act.put, List.setIfInBounds_toArray, List.set_cons_zero, List.set_cons_succ]
              refine wpAnyH_ready (rs := [19]) (by kernel_rfl) (by simp) ?_
              refine AllReadyH.cons rfl (fun K hK => ?_) ?_
              · go_simp
                refine hK.out _ _ ?_ (fun hHeld => ?_)
                · exact HS.out _ _ ((S9.p1.drop).keep (by (repeat (first | exact Keeps.refl _ _ | refine Keeps.alloc ?_ _ | refine Keeps.drew ?_ | refine Keeps.drewN ?_ _))))
                clear hK K
                try simp only [Act.put, List.setIfInBounds_toArray, List.set_cons_zero, List.set_cons_succ]
                refine wpAnyH_ready (rs := [20]) (by kernel_rfl) (by simp) ?_
                refine AllReadyH.cons rfl (fun K hK => ?_) ?_
                · refine step_app slV rfl (.tmp 82) (.tmp 97) rfl (g := g) (S := (S9.drew.box #[.int .i64 ss, .int .i64 (n0 + 1), .string (Go.Proofs.YtbfogieeiobpdaaGreatDoor.S p), .int .i64 x1, .int .i64 when_] 74 rfl).p2) rfl (Src.block (heap_alloc_new _ _) 5 1 rfl) rfl (by simp [Value.oneCell']) (by unfold maxLen; omega) (by omega) ?_
                  intro A8 c8 wA S10
                  have r7 : wA.cell? ⟨b, 1, none⟩ = some (.slice A4 es1.length c4) := S10.p2.cell 1 _ rfl
                  have r8 := S10.p2.cells_fz 1
                  refine hK.out _ _ ?_ (fun hHeld => ?_)
                  · exact HS.out _ _ (S10.drop.drop)
                  clear hK K
                  try simp only [Act.put, List.setIfInBounds_toArray, List.set_cons_zero, List.set_cons_succ]
                  refine wpAnyH_take (i := 21) (oi := _) (v := ?_) rfl (by kernel_rfl) (by kernel_rfl) (by kernel_rfl) (fun _ _ _ h => h) (Or.inl ⟨by rfl, ?_⟩) hHeld ?_
                  rotate_left
                  · intro w' hSw
                    (try dsimp only at hSw)
                    go_simp
                    try with_reducible rfl
                  try simp only [Act.put, List.setIfInBounds_toArray, List.set_cons_zero, List.set_cons_succ]
                  refine wpAnyH_take (i := 22) (oi := _) (v := ?_) rfl (by kernel_rfl) (by kernel_rfl) (by kernel_rfl) (fun _ _ _ h => h) (Or.inl ⟨by rfl, ?_⟩) hHeld ?_
                  rotate_left
                  · intro w' hSw
                    (try dsimp only at hSw)
                    go_simp
                    try with_reducible rfl
                  try simp only [Act.put, List.setIfInBounds_toArray, List.set_cons_zero, List.set_cons_succ]
                  refine wpAnyH_ready (rs := [23]) (by kernel_rfl) (by simp) ?_
                  refine AllReadyH.cons rfl (fun K hK => ?_) ?_
                  · go_simp
                    refine hK.out _ _ ?_ (fun hHeld => ?_)
                    · exact HS.out _ _ ((S10.drop.drop).setc 1 _)
                    clear hK K
                    try simp only [Act.put, List.setIfInBounds_toArray, List.set_cons_zero, List.set_cons_succ]
                    refine wpAnyH_done (by kernel_rfl) ?_ _
                    have S11 := (S10.p2).setc 1 (.slice A8 (es1.length + 1) c8)
                    clear r7 r8 q7d q7a HS hHeld
                    generalize wA.setCell ⟨b, 1, none⟩ (.slice A8 (es1.length + 1) c8) = wB at *
                    have SC : Sat g wB (cellsA b 32 #[.slice (some ad) ws.length c, .slice A8 (es1.length + 1) c8, .map (some m)] :: rowA 74 5 (.slice A8 (es1.length + 1) c8) (es1 ++ [(⟨ss, n0 + 1, p, x1, when_⟩ : EvT)]).length ((es1 ++ [(⟨ss, n0 + 1, p, x1, when_⟩ : EvT)]).flatMap evC) :: nosA (.map (some m)) (mput nos1 ss (n0 + 1)) :: cellsA xb 96 #[.int .i64 ss, .string (Go.Proofs.YtbfogieeiobpdaaGreatDoor.S p), .bool kd, .bool on] :: rowA 96 4 (.slice B3 wl.length c3) wl.length (wl.flatMap watC) :: rowA 96 4 (.slice (some ad) ws.length c) ws.length (ws.flatMap watC) :: L) := by
                      rw [List.length_append, List.length_singleton, List.flatMap_append, List.flatMap_singleton]
                      exact ((S11.p2.drop).p2.nosSome).p2.p2
                    have SD := (SC.mnotesShut)
                    clear SC S11 S10 S9
                    have y0 := SD.p1.cell 0 _ rfl
                    have y1 := SD.p1.cell 1 _ rfl
                    have y2 := SD.p1.cell 2 _ rfl
                    have y3 := SD.p1.cell 3 _ rfl
                    rw [HN0.out] at HNSx
                    cases on
                    · rw [if_neg (by simp)] at HLSx
                      have hone := watC_one (⟨ss, p, kd, false⟩ : WatT)
                      simp only [watC] at hone
                      have HONE := hide hone
                      clear hone
                      go_wp2_with (at_builtin; refine wpList_sapp slW rfl (.tmp 104) (.tmp 106) rfl (g := g) (S := (SD.box #[.int .i64 ss, .string (Go.Proofs.YtbfogieeiobpdaaGreatDoor.S p), .bool kd, .bool false] 96 rfl).p3) rfl (Src.block (heap_alloc_new _ _) 4 1 rfl) rfl (by simp [Value.oneCell']) (by unfold maxLen; omega) (by omega) ?_; intro AF cF wF SF)
                      go_roundw
                      case rel =>
                        refine ⟨k + 1, by omega, by go_num, ?_⟩
                        rw [HLSx.out, HNSx.out, List.length_append, List.length_singleton, List.flatMap_append, List.flatMap_singleton]
                        exact ((SF.p1.drop).p2.drop).p1.p1
                      case measure => simp [RowKit.intOf]; omega
                    · rw [if_pos (by simp)] at HLSx
                      go_wp2_with fail
                      go_roundw
                      case rel =>
                        refine ⟨k + 1, by omega, by go_num, ?_⟩
                        rw [HLSx.out, HNSx.out, List.append_nil]
                        exact (SD.p1.drop).p1
                      case measure => simp [RowKit.intOf]; omega
                  exact AllReadyH.nil
                exact AllReadyH.nil
              exact AllReadyH.nil
            refine AllReadyH.cons rfl (fun K hK => ?_) ?_
            · go_simp
              refine hK.out _ _ ?_ (fun hHeld => ?_)
              · exact HS.out _ _ ((S9.p1.drop).keep (by (repeat (first | exact Keeps.refl _ _ | refine Keeps.alloc ?_ _ | refine Keeps.drew ?_ | refine Keeps.drewN ?_ _))))
              clear hK K
              try simp only [Act.put, List.setIfInBounds_toArray, List.set_cons_zero, List.set_cons_succ]
              refine wpAnyH_ready (rs := [4]) (by kernel_rfl) (by simp) ?_
              refine AllReadyH.cons rfl (fun K hK => ?_) ?_
              · go_simp
                refine hK.out _ _ ?_ (fun hHeld => ?_)
                · exact HS.out _ _ ((S9.p1.drop).keep (by (repeat (first | exact Keeps.refl _ _ | refine Keeps.alloc ?_ _ | refine Keeps.drew ?_ | refine Keeps.drewN ?_ _))))
                clear hK K
                try simp only [Act.put, List.setIfInBounds_toArray, List.set_cons_zero, List.set_cons_succ]
                refine wpAnyH_ready (rs := [20]) (by kernel_rfl) (by simp) ?_
                refine AllReadyH.cons rfl (fun K hK => ?_) ?_
                · refine step_app slV rfl (.tmp 82) (.tmp 97) rfl (g := g) (S := (S9.drew.box #[.int .i64 ss, .int .i64 (n0 + 1), .string (Go.Proofs.YtbfogieeiobpdaaGreatDoor.S p), .int .i64 x1, .int .i64 when_] 74 rfl).p2) rfl (Src.block (heap_alloc_new _ _) 5 1 rfl) rfl (by simp [Value.oneCell']) (by unfold maxLen; omega) (by omega) ?_
                  intro A8 c8 wA S10
                  have r7 : wA.cell? ⟨b, 1, none⟩ = some (.slice A4 es1.length c4) := S10.p2.cell 1 _ rfl
                  have r8 := S10.p2.cells_fz 1
                  refine hK.out _ _ ?_ (fun hHeld => ?_)
                  · exact HS.out _ _ (S10.drop.drop)
                  clear hK K
                  try simp only [Act.put, List.setIfInBounds_toArray, List.set_cons_zero, List.set_cons_succ]
                  refine wpAnyH_take (i := 21) (oi := _) (v := ?_) rfl (by kernel_rfl) (by kernel_rfl) (by kernel_rfl) (fun _ _ _ h => h) (Or.inl ⟨by rfl, ?_⟩) hHeld ?_
                  rotate_left
                  · intro w' hSw
                    (try dsimp only at hSw)
                    go_simp
                    try with_reducible rfl
                  try simp only [Act.put, List.setIfInBounds_toArray, List.set_cons_zero, List.set_cons_succ]
                  refine wpAnyH_take (i := 22) (oi := _) (v := ?_) rfl (by kernel_rfl) (by kernel_rfl) (by kernel_rfl) (fun _ _ _ h => h) (Or.inl ⟨by rfl, ?_⟩) hHeld ?_
                  rotate_left
                  · intro w' hSw
                    (try dsimp only at hSw)
                    go_simp
                    try with_reducible rfl
                  try simp only [Act.put, List.setIfInBounds_toArray, List.set_cons_zero, List.set_cons_succ]
                  refine wpAnyH_ready (rs := [23]) (by kernel_rfl) (by simp) ?_
                  refine AllReadyH.cons rfl (fun K hK => ?_) ?_
                  · go_simp
                    refine hK.out _ _ ?_ (fun hHeld => ?_)
                    · exact HS.out _ _ ((S10.drop.drop).setc 1 _)
                    clear hK K
                    try simp only [Act.put, List.setIfInBounds_toArray, List.set_cons_zero, List.set_cons_succ]
                    refine wpAnyH_done (by kernel_rfl) ?_ _
                    have S11 := (S10.p2).setc 1 (.slice A8 (es1.length + 1) c8)
                    clear r7 r8 q7d q7a HS hHeld
                    generalize wA.setCell ⟨b, 1, none⟩ (.slice A8 (es1.length + 1) c8) = wB at *
                    have SC : Sat g wB (cellsA b 32 #[.slice (some ad) ws.length c, .slice A8 (es1.length + 1) c8, .map (some m)] :: rowA 74 5 (.slice A8 (es1.length + 1) c8) (es1 ++ [(⟨ss, n0 + 1, p, x1, when_⟩ : EvT)]).length ((es1 ++ [(⟨ss, n0 + 1, p, x1, when_⟩ : EvT)]).flatMap evC) :: nosA (.map (some m)) (mput nos1 ss (n0 + 1)) :: cellsA xb 96 #[.int .i64 ss, .string (Go.Proofs.YtbfogieeiobpdaaGreatDoor.S p), .bool kd, .bool on] :: rowA 96 4 (.slice B3 wl.length c3) wl.length (wl.flatMap watC) :: rowA 96 4 (.slice (some ad) ws.length c) ws.length (ws.flatMap watC) :: L) := by
                      rw [List.length_append, List.length_singleton, List.flatMap_append, List.flatMap_singleton]
                      exact ((S11.p2.drop).p2.nosSome).p2.p2
                    have SD := (SC.mnotesShut)
                    clear SC S11 S10 S9
                    have y0 := SD.p1.cell 0 _ rfl
                    have y1 := SD.p1.cell 1 _ rfl
                    have y2 := SD.p1.cell 2 _ rfl
                    have y3 := SD.p1.cell 3 _ rfl
                    rw [HN0.out] at HNSx
                    cases on
                    · rw [if_neg (by simp)] at HLSx
                      have hone := watC_one (⟨ss, p, kd, false⟩ : WatT)
                      simp only [watC] at hone
                      have HONE := hide hone
                      clear hone
                      go_wp2_with (at_builtin; refine wpList_sapp slW rfl (.tmp 104) (.tmp 106) rfl (g := g) (S := (SD.box #[.int .i64 ss, .string (Go.Proofs.YtbfogieeiobpdaaGreatDoor.S p), .bool kd, .bool false] 96 rfl).p3) rfl (Src.block (heap_alloc_new _ _) 4 1 rfl) rfl (by simp [Value.oneCell']) (by unfold maxLen; omega) (by omega) ?_; intro AF cF wF SF)
                      go_roundw
                      case rel =>
                        refine ⟨k + 1, by omega, by go_num, ?_⟩
                        rw [HLSx.out, HNSx.out, List.length_append, List.length_singleton, List.flatMap_append, List.flatMap_singleton]
                        exact ((SF.p1.drop).p2.drop).p1.p1
                      case measure => simp [RowKit.intOf]; omega
                    · rw [if_pos (by simp)] at HLSx
                      go_wp2_with fail
                      go_roundw
                      case rel =>
                        refine ⟨k + 1, by omega, by go_num, ?_⟩
                        rw [HLSx.out, HNSx.out, List.append_nil]
                        exact (SD.p1.drop).p1
                      case measure => simp [RowKit.intOf]; omega
                  exact AllReadyH.nil
                exact AllReadyH.nil
              exact AllReadyH.nil
            exact AllReadyH.nil
          · clear SO
            have b0 := SP.p1.cell 2 _ rfl
            have S6 : Sat g wc (cellsA b 32 #[.slice (some ad) ws.length c, .slice A4 es1.length c4, .map (some m)] :: rowA 74 5 (.slice A4 es1.length c4) es1.length (es1.flatMap evC) :: mapA kW kW m nos1 :: cellsA xb 96 #[.int .i64 ss, .string (Go.Proofs.YtbfogieeiobpdaaGreatDoor.S p), .bool kd, .bool on] :: rowA 96 4 (.slice B3 wl.length c3) wl.length (wl.flatMap watC) :: rowA 96 4 (.slice (some ad) ws.length c) ws.length (ws.flatMap watC) :: L) := SP.p2.p2
            clear SP
            generalize wc = w6 at *
            have hnil : ∀ w, (Go.binOp .eql 30 (.map (some m)) (.map none)).run Tryz.prog w = .ok (.bool false) w := fun w => by kernel_rfl
            go_upto_region 14 with fail
            clear b0 hnil
            obtain ⟨n0, hn0⟩ : ∃ n0, (mget nos1 ss).getD 0 = n0 := ⟨_, rfl⟩
            rw [hn0] at hno0 hno1
            have HN0 := hide hn0
            clear hn0
            have S7 := S6.drew
            have a0 := S6.p3.cell 0 _ rfl
            have b0 := S6.cell 2 _ rfl
            have a0' := S7.p3.cell 0 _ rfl
            have b0' := S7.cell 2 _ rfl
            have hlk := look_no S6.p2 ss
            have hlk' := look_no S7.p2 ss
            rw [HN0.out] at hlk hlk'
            have hw1 : IntKind.i64.wrap (n0 + 1) = n0 + 1 := IntWalk.i64_in _ ⟨by omega, by omega⟩
            obtain ⟨w8, hup, hm8, hk8⟩ := S7.p2.mapOf.update kWT Tryz.underlying30 ss (n0 + 1)
            have hup' : (Instr.mapUpdate 30 (.map (some m)) (.int .i64 ss) (.int .i64 (n0 + 1))).run Tryz.prog w6.drew = .ok () w8 := hup
            have S8 := S7.p2.mapPut hk8 hm8
            clear hup hm8 hk8 S7
            go_still_tail 8, (by kernel_rfl)
            change wpList _ _ _ _ _ w6.drew
            go_upto_region 15 with fail
            clear hlk hlk' b0 b0' a0 a0' hup' S6
            have S9 : Sat g w8 (cellsA b 32 #[.slice (some ad) ws.length c, .slice A4 es1.length c4, .map (some m)] :: rowA 74 5 (.slice A4 es1.length c4) es1.length (es1.flatMap evC) :: mapA kW kW m (mput nos1 ss (n0 + 1)) :: cellsA xb 96 #[.int .i64 ss, .string (Go.Proofs.YtbfogieeiobpdaaGreatDoor.S p), .bool kd, .bool on] :: rowA 96 4 (.slice B3 wl.length c3) wl.length (wl.flatMap watC) :: rowA 96 4 (.slice (some ad) ws.length c) ws.length (ws.flatMap watC) :: L) := S8.p2.p2
            clear S8
            have HS : Hid (∀ (w' : World) (ev' : Value), Sat g w' (cellsA b 32 #[.slice (some ad) ws.length c, ev', .map (some m)] :: mapA kW kW m (mput nos1 ss (n0 + 1)) :: cellsA xb 96 #[.int .i64 ss, .string (Go.Proofs.YtbfogieeiobpdaaGreatDoor.S p), .bool kd, .bool on] :: rowA 96 4 (.slice B3 wl.length c3) wl.length (wl.flatMap watC) :: rowA 96 4 (.slice (some ad) ws.length c) ws.length (ws.flatMap watC) :: L) → w'.cell? ⟨b, 2, none⟩ = some (.map (some m)) ∧ w'.cell? ⟨xb, 0, none⟩ = some (.int .i64 ss) ∧ w'.cell? ⟨xb, 1, none⟩ = some (.string (Go.Proofs.YtbfogieeiobpdaaGreatDoor.S p)) ∧ (Instr.lookup 30 (.map (some m)) (.int .i64 ss) false).run Tryz.prog w' = .ok (.int .i64 (n0 + 1)) w') := hide fun w' ev' S' =>
              ⟨S'.cell 2 _ rfl, S'.p2.cell 0 _ rfl, S'.p2.cell 1 _ rfl, by have := look_no S'.p1 ss; rwa [mget_mput, if_pos rfl] at this⟩
            have q7d : w8.drew.cell? ⟨b, 1, none⟩ = some (.slice A4 es1.length c4) := S9.drew.cell 1 _ rfl
            have q7a : (w8.alloc (.cells #[.int .i64 ss, .int .i64 (n0 + 1), .string (Go.Proofs.YtbfogieeiobpdaaGreatDoor.S p), .int .i64 x1, .int .i64 when_] 74)).drew.cell? ⟨b, 1, none⟩ = some (.slice A4 es1.length c4) := (S9.box #[.int .i64 ss, .int .i64 (n0 + 1), .string (Go.Proofs.YtbfogieeiobpdaaGreatDoor.S p), .int .i64 x1, .int .i64 when_] 74 rfl).drew.p1.cell 1 _ rfl
            refine wp_region_held_drew (S := fun w' => w'.cell? ⟨b, 2, none⟩ = some (.map (some m)) ∧ w'.cell? ⟨xb, 0, none⟩ = some (.int .i64 ss) ∧ w'.cell? ⟨xb, 1, none⟩ = some (.string (Go.Proofs.YtbfogieeiobpdaaGreatDoor.S p)) ∧ (Instr.lookup 30 (.map (some m)) (.int .i64 ss) false).run Tryz.prog w' = .ok (.int .i64 (n0 + 1)) w') (by kernel_rfl) ?_ (fun hHeld => ?_)
            · exact HS.out _ _ ((S9.p1.drop).keep (by (repeat (first | exact Keeps.refl _ _ | refine Keeps.alloc ?_ _ | refine Keeps.drew ?_ | refine Keeps.drewN ?_ _))))
            refine wpAnyH_take (i := 0) (oi := _) (v := ?_) rfl (by kernel_rfl) (by kernel_rfl) (by kernel_rfl) (fun _ _ _ h => h) (Or.inl ⟨by rfl, ?_⟩) hHeld ?_
            rotate_left
            · intro w' hSw
              (try dsimp only at hSw)
              go_simp
              try with_reducible rfl
            try simp only [Act.put, List.setIfInBounds_toArray, List.set_cons_zero, List.set_cons_succ]
            refine wpAnyH_take (i := 1) (oi := _) (v := ?_) rfl (by kernel_rfl) (by kernel_rfl) (by kernel_rfl) (fun _ _ _ h => h) (Or.inl ⟨by rfl, ?_⟩) hHeld ?_
            rotate_left
            · intro w' hSw
              (try dsimp only at hSw)
              go_simp
              try with_reducible rfl
            try simp only [Act.put, List.setIfInBounds_toArray, List.set_cons_zero, List.set_cons_succ]
            refine wpAnyH_take (i := 2) (oi := _) (v := ?_) rfl (by kernel_rfl) (by kernel_rfl) (by kernel_rfl) (fun _ _ _ h => h) (Or.inl ⟨by rfl, ?_⟩) hHeld ?_
            rotate_left
            · intro w' hSw
              (try dsimp only at hSw)
              go_simp
              try with_reducible rfl
            try simp only [Act.put, List.setIfInBounds_toArray, List.set_cons_zero, List.set_cons_succ]
            refine wpAnyH_take (i := 3) (oi := _) (v := ?_) rfl (by kernel_rfl) (by kernel_rfl) (by kernel_rfl) (fun _ _ _ h => h) (Or.inl ⟨by rfl, ?_⟩) hHeld ?_
            rotate_left
            · intro w' hSw
              (try dsimp only at hSw)
              go_simp
              try with_reducible rfl
            try simp only [Act.put, List.setIfInBounds_toArray, List.set_cons_zero, List.set_cons_succ]
            refine wpAnyH_take (i := 5) (oi := _) (v := ?_) rfl (by kernel_rfl) (by kernel_rfl) (by kernel_rfl) (fun _ _ _ h => h) (Or.inl ⟨by rfl, ?_⟩) hHeld ?_
            rotate_left
            · intro w' hSw
              (try dsimp only at hSw)
              go_simp
              try with_reducible rfl
            try simp only [Act.put, List.setIfInBounds_toArray, List.set_cons_zero, List.set_cons_succ]
            refine wpAnyH_take (i := 6) (oi := _) (v := ?_) rfl (by kernel_rfl) (by kernel_rfl) (by kernel_rfl) (fun _ _ _ h => h) (Or.inl ⟨by rfl, ?_⟩) hHeld ?_
            rotate_left
            · intro w' hSw
              (try dsimp only at hSw)
              go_simp
              try with_reducible rfl
            try simp only [Act.put, List.setIfInBounds_toArray, List.set_cons_zero, List.set_cons_succ]
            refine wpAnyH_take (i := 7) (oi := _) (v := ?_) rfl (by kernel_rfl) (by kernel_rfl) (by kernel_rfl) (fun _ _ _ h => h) (Or.inl ⟨by rfl, ?_⟩) hHeld ?_
            rotate_left
            · intro w' hSw
              (try dsimp only at hSw)
              go_simp
              try with_reducible rfl
            try simp only [Act.put, List.setIfInBounds_toArray, List.set_cons_zero, List.set_cons_succ]
            refine wpAnyH_take (i := 8) (oi := _) (v := ?_) rfl (by kernel_rfl) (by kernel_rfl) (by kernel_rfl) (fun _ _ _ h => h) (Or.inl ⟨by rfl, ?_⟩) hHeld ?_
            rotate_left
            · intro w' hSw
              (try dsimp only at hSw)
              go_simp
              try with_reducible rfl
            try simp only [Act.put, List.setIfInBounds_toArray, List.set_cons_zero, List.set_cons_succ]
            refine wpAnyH_take (i := 9) (oi := _) (v := ?_) rfl (by kernel_rfl) (by kernel_rfl) (by kernel_rfl) (fun _ _ _ h => h) (Or.inl ⟨by rfl, ?_⟩) hHeld ?_
            rotate_left
            · intro w' hSw
              (try dsimp only at hSw)
              go_simp
              try with_reducible rfl
            try simp only [Act.put, List.setIfInBounds_toArray, List.set_cons_zero, List.set_cons_succ]
            refine wpAnyH_take (i := 10) (oi := _) (v := ?_) rfl (by kernel_rfl) (by kernel_rfl) (by kernel_rfl) (fun _ _ _ h => h) (Or.inl ⟨by rfl, ?_⟩) hHeld ?_
            rotate_left
            · intro w' hSw
              (try dsimp only at hSw)
              go_simp
              try with_reducible rfl
            try simp only [Act.put, List.setIfInBounds_toArray, List.set_cons_zero, List.set_cons_succ]
            refine wpAnyH_take (i := 11) (oi := _) (v := ?_) rfl (by kernel_rfl) (by kernel_rfl) (by kernel_rfl) (fun _ _ _ h => h) (Or.inl ⟨by rfl, ?_⟩) hHeld ?_
            rotate_left
            · intro w' hSw
              (try dsimp only at hSw)
              go_simp
              try with_reducible rfl
            try simp only [Act.put, List.setIfInBounds_toArray, List.set_cons_zero, List.set_cons_succ]
            refine wpAnyH_take (i := 12) (oi := _) (v := ?_) rfl (by kernel_rfl) (by kernel_rfl) (by kernel_rfl) (fun _ _ _ h => h) (Or.inl ⟨by rfl, ?_⟩) hHeld ?_
            rotate_left
            · intro w' hSw
              (try dsimp only at hSw)
              go_simp
              try with_reducible rfl
            try simp only [Act.put, List.setIfInBounds_toArray, List.set_cons_zero, List.set_cons_succ]
            refine wpAnyH_take (i := 13) (oi := _) (v := ?_) rfl (by kernel_rfl) (by kernel_rfl) (by kernel_rfl) (fun _ _ _ h => h) (Or.inl ⟨by rfl, ?_⟩) hHeld ?_
            rotate_left
            · intro w' hSw
              (try dsimp only at hSw)
              go_simp
              try with_reducible rfl
            try simp only [Act.put, List.setIfInBounds_toArray, List.set_cons_zero, List.set_cons_succ]
            refine wpAnyH_take (i := 14) (oi := _) (v := ?_) rfl (by kernel_rfl) (by kernel_rfl) (by kernel_rfl) (fun _ _ _ h => h) (Or.inl ⟨by rfl, ?_⟩) hHeld ?_
            rotate_left
            · intro w' hSw
              (try dsimp only at hSw)
              go_simp
              try with_reducible rfl
            try simp only [Act.put, List.setIfInBounds_toArray, List.set_cons_zero, List.set_cons_succ]
            refine wpAnyH_take (i := 15) (oi := _) (v := ?_) rfl (by kernel_rfl) (by kernel_rfl) (by kernel_rfl) (fun _ _ _ h => h) (Or.inl ⟨by rfl, ?_⟩) hHeld ?_
            rotate_left
            · intro w' hSw
              (try dsimp only at hSw)
              go_simp
              try with_reducible rfl
            try simp only [Act.put, List.setIfInBounds_toArray, List.set_cons_zero, List.set_cons_succ]
            refine wpAnyH_take (i := 16) (oi := _) (v := ?_) rfl (by kernel_rfl) (by kernel_rfl) (by kernel_rfl) (fun _ _ _ h => h) (Or.inl ⟨by rfl, ?_⟩) hHeld ?_
            rotate_left
            · intro w' hSw
              (try dsimp only at hSw)
              go_simp
              try with_reducible rfl
            try simp only [Act.put, List.setIfInBounds_toArray, List.set_cons_zero, List.set_cons_succ]
            refine wpAnyH_take (i := 17) (oi := _) (v := ?_) rfl (by kernel_rfl) (by kernel_rfl) (by kernel_rfl) (fun _ _ _ h => h) (Or.inl ⟨by rfl, ?_⟩) hHeld ?_
            rotate_left
            · intro w' hSw
              (try dsimp only at hSw)
              go_simp
              try with_reducible rfl
            try simp only [Act.put, List.setIfInBounds_toArray, List.set_cons_zero, List.set_cons_succ]
            refine wpAnyH_take (i := 18) (oi := _) (v := ?_) rfl (by kernel_rfl) (by kernel_rfl) (by kernel_rfl) (fun _ _ _ h => h) (Or.inl ⟨by rfl, ?_⟩) hHeld ?_
            rotate_left
            · intro w' hSw
              (try dsimp only at hSw)
              go_simp
              try with_reducible rfl
            try simp only [Act.put, List.setIfInBounds_toArray, List.set_cons_zero, List.set_cons_succ]
            refine wpAnyH_ready (rs := [4, 19]) (by kernel_rfl) (by simp) ?_
            refine AllReadyH.cons rfl (fun K hK => ?_) ?_
            · go_simp
              refine hK.out _ _ ?_ (fun hHeld => ?_)
              · exact HS.out _ _ ((S9.p1.drop).keep (by (repeat (first | exact Keeps.refl _ _ | refine Keeps.alloc ?_ _ | refine Keeps.drew ?_ | refine Keeps.drewN ?_ _))))
              clear hK K
              try simp only [Act.put, List.setIfInBounds_toArray, List.set_cons_zero, List.set_cons_succ]
              refine wpAnyH_ready (rs := [19]) (by kernel_rfl) (by simp) ?_
              refine AllReadyH.cons rfl (fun K hK => ?_) ?_
              · go_simp
                refine hK.out _ _ ?_ (fun hHeld => ?_)
                · exact HS.out _ _ ((S9.p1.drop).keep (by (repeat (first | exact Keeps.refl _ _ | refine Keeps.alloc ?_ _ | refine Keeps.drew ?_ | refine Keeps.drewN ?_ _))))
                clear hK K
                try simp only [Act.put, List.setIfInBounds_toArray, List.set_cons_zero, List.set_cons_succ]
                refine wpAnyH_ready (rs := [20]) (by kernel_rfl) (by simp) ?_
                refine AllReadyH.cons rfl (fun K hK => ?_) ?_
                · refine step_app slV rfl (.tmp 82) (.tmp 97) rfl (g := g) (S := (S9.drew.box #[.int .i64 ss, .int .i64 (n0 + 1), .string (Go.Proofs.YtbfogieeiobpdaaGreatDoor.S p), .int .i64 x1, .int .i64 when_] 74 rfl).p2) rfl (Src.block (heap_alloc_new _ _) 5 1 rfl) rfl (by simp [Value.oneCell']) (by unfold maxLen; omega) (by omega) ?_
                  intro A8 c8 wA S10
                  have r7 : wA.cell? ⟨b, 1, none⟩ = some (.slice A4 es1.length c4) := S10.p2.cell 1 _ rfl
                  have r8 := S10.p2.cells_fz 1
                  refine hK.out _ _ ?_ (fun hHeld => ?_)
                  · exact HS.out _ _ (S10.drop.drop)
                  clear hK K
                  try simp only [Act.put, List.setIfInBounds_toArray, List.set_cons_zero, List.set_cons_succ]
                  refine wpAnyH_take (i := 21) (oi := _) (v := ?_) rfl (by kernel_rfl) (by kernel_rfl) (by kernel_rfl) (fun _ _ _ h => h) (Or.inl ⟨by rfl, ?_⟩) hHeld ?_
                  rotate_left
                  · intro w' hSw
                    (try dsimp only at hSw)
                    go_simp
                    try with_reducible rfl
                  try simp only [Act.put, List.setIfInBounds_toArray, List.set_cons_zero, List.set_cons_succ]
                  refine wpAnyH_take (i := 22) (oi := _) (v := ?_) rfl (by kernel_rfl) (by kernel_rfl) (by kernel_rfl) (fun _ _ _ h => h) (Or.inl ⟨by rfl, ?_⟩) hHeld ?_
                  rotate_left
                  · intro w' hSw
                    (try dsimp only at hSw)
                    go_simp
                    try with_reducible rfl
                  try simp only [Act.put, List.setIfInBounds_toArray, List.set_cons_zero, List.set_cons_succ]
                  refine wpAnyH_ready (rs := [23]) (by kernel_rfl) (by simp) ?_
                  refine AllReadyH.cons rfl (fun K hK => ?_) ?_
                  · go_simp
                    refine hK.out _ _ ?_ (fun hHeld => ?_)
                    · exact HS.out _ _ ((S10.drop.drop).setc 1 _)
                    clear hK K
                    try simp only [Act.put, List.setIfInBounds_toArray, List.set_cons_zero, List.set_cons_succ]
                    refine wpAnyH_done (by kernel_rfl) ?_ _
                    have S11 := (S10.p2).setc 1 (.slice A8 (es1.length + 1) c8)
                    clear r7 r8 q7d q7a HS hHeld
                    generalize wA.setCell ⟨b, 1, none⟩ (.slice A8 (es1.length + 1) c8) = wB at *
                    have SC : Sat g wB (cellsA b 32 #[.slice (some ad) ws.length c, .slice A8 (es1.length + 1) c8, .map (some m)] :: rowA 74 5 (.slice A8 (es1.length + 1) c8) (es1 ++ [(⟨ss, n0 + 1, p, x1, when_⟩ : EvT)]).length ((es1 ++ [(⟨ss, n0 + 1, p, x1, when_⟩ : EvT)]).flatMap evC) :: nosA (.map (some m)) (mput nos1 ss (n0 + 1)) :: cellsA xb 96 #[.int .i64 ss, .string (Go.Proofs.YtbfogieeiobpdaaGreatDoor.S p), .bool kd, .bool on] :: rowA 96 4 (.slice B3 wl.length c3) wl.length (wl.flatMap watC) :: rowA 96 4 (.slice (some ad) ws.length c) ws.length (ws.flatMap watC) :: L) := by
                      rw [List.length_append, List.length_singleton, List.flatMap_append, List.flatMap_singleton]
                      exact ((S11.p2.drop).p2.nosSome).p2.p2
                    have SD := (SC.mnotesShut)
                    clear SC S11 S10 S9
                    have y0 := SD.p1.cell 0 _ rfl
                    have y1 := SD.p1.cell 1 _ rfl
                    have y2 := SD.p1.cell 2 _ rfl
                    have y3 := SD.p1.cell 3 _ rfl
                    rw [HN0.out] at HNSx
                    cases on
                    · rw [if_neg (by simp)] at HLSx
                      have hone := watC_one (⟨ss, p, kd, false⟩ : WatT)
                      simp only [watC] at hone
                      have HONE := hide hone
                      clear hone
                      go_wp2_with (at_builtin; refine wpList_sapp slW rfl (.tmp 104) (.tmp 106) rfl (g := g) (S := (SD.box #[.int .i64 ss, .string (Go.Proofs.YtbfogieeiobpdaaGreatDoor.S p), .bool kd, .bool false] 96 rfl).p3) rfl (Src.block (heap_alloc_new _ _) 4 1 rfl) rfl (by simp [Value.oneCell']) (by unfold maxLen; omega) (by omega) ?_; intro AF cF wF SF)
                      go_roundw
                      case rel =>
                        refine ⟨k + 1, by omega, by go_num, ?_⟩
                        rw [HLSx.out, HNSx.out, List.length_append, List.length_singleton, List.flatMap_append, List.flatMap_singleton]
                        exact ((SF.p1.drop).p2.drop).p1.p1
                      case measure => simp [RowKit.intOf]; omega
                    · rw [if_pos (by simp)] at HLSx
                      go_wp2_with fail
                      go_roundw
                      case rel =>
                        refine ⟨k + 1, by omega, by go_num, ?_⟩
                        rw [HLSx.out, HNSx.out, List.append_nil]
                        exact (SD.p1.drop).p1
                      case measure => simp [RowKit.intOf]; omega
                  exact AllReadyH.nil
                exact AllReadyH.nil
              exact AllReadyH.nil
            refine AllReadyH.cons rfl (fun K hK => ?_) ?_
            · go_simp
              refine hK.out _ _ ?_ (fun hHeld => ?_)
              · exact HS.out _ _ ((S9.p1.drop).keep (by (repeat (first | exact Keeps.refl _ _ | refine Keeps.alloc ?_ _ | refine Keeps.drew ?_ | refine Keeps.drewN ?_ _))))
              clear hK K
              try simp only [Act.put, List.setIfInBounds_toArray, List.set_cons_zero, List.set_cons_succ]
              refine wpAnyH_ready (rs := [4]) (by kernel_rfl) (by simp) ?_
              refine AllReadyH.cons rfl (fun K hK => ?_) ?_
              · go_simp
                refine hK.out _ _ ?_ (fun hHeld => ?_)
                · exact HS.out _ _ ((S9.p1.drop).keep (by (repeat (first | exact Keeps.refl _ _ | refine Keeps.alloc ?_ _ | refine Keeps.drew ?_ | refine Keeps.drewN ?_ _))))
                clear hK K
                try simp only [Act.put, List.setIfInBounds_toArray, List.set_cons_zero, List.set_cons_succ]
                refine wpAnyH_ready (rs := [20]) (by kernel_rfl) (by simp) ?_
                refine AllReadyH.cons rfl (fun K hK => ?_) ?_
                · refine step_app slV rfl (.tmp 82) (.tmp 97) rfl (g := g) (S := (S9.drew.box #[.int .i64 ss, .int .i64 (n0 + 1), .string (Go.Proofs.YtbfogieeiobpdaaGreatDoor.S p), .int .i64 x1, .int .i64 when_] 74 rfl).p2) rfl (Src.block (heap_alloc_new _ _) 5 1 rfl) rfl (by simp [Value.oneCell']) (by unfold maxLen; omega) (by omega) ?_
                  intro A8 c8 wA S10
                  have r7 : wA.cell? ⟨b, 1, none⟩ = some (.slice A4 es1.length c4) := S10.p2.cell 1 _ rfl
                  have r8 := S10.p2.cells_fz 1
                  refine hK.out _ _ ?_ (fun hHeld => ?_)
                  · exact HS.out _ _ (S10.drop.drop)
                  clear hK K
                  try simp only [Act.put, List.setIfInBounds_toArray, List.set_cons_zero, List.set_cons_succ]
                  refine wpAnyH_take (i := 21) (oi := _) (v := ?_) rfl (by kernel_rfl) (by kernel_rfl) (by kernel_rfl) (fun _ _ _ h => h) (Or.inl ⟨by rfl, ?_⟩) hHeld ?_
                  rotate_left
                  · intro w' hSw
                    (try dsimp only at hSw)
                    go_simp
                    try with_reducible rfl
                  try simp only [Act.put, List.setIfInBounds_toArray, List.set_cons_zero, List.set_cons_succ]
                  refine wpAnyH_take (i := 22) (oi := _) (v := ?_) rfl (by kernel_rfl) (by kernel_rfl) (by kernel_rfl) (fun _ _ _ h => h) (Or.inl ⟨by rfl, ?_⟩) hHeld ?_
                  rotate_left
                  · intro w' hSw
                    (try dsimp only at hSw)
                    go_simp
                    try with_reducible rfl
                  try simp only [Act.put, List.setIfInBounds_toArray, List.set_cons_zero, List.set_cons_succ]
                  refine wpAnyH_ready (rs := [23]) (by kernel_rfl) (by simp) ?_
                  refine AllReadyH.cons rfl (fun K hK => ?_) ?_
                  · go_simp
                    refine hK.out _ _ ?_ (fun hHeld => ?_)
                    · exact HS.out _ _ ((S10.drop.drop).setc 1 _)
                    clear hK K
                    try simp only [Act.put, List.setIfInBounds_toArray, List.set_cons_zero, List.set_cons_succ]
                    refine wpAnyH_done (by kernel_rfl) ?_ _
                    have S11 := (S10.p2).setc 1 (.slice A8 (es1.length + 1) c8)
                    clear r7 r8 q7d q7a HS hHeld
                    generalize wA.setCell ⟨b, 1, none⟩ (.slice A8 (es1.length + 1) c8) = wB at *
                    have SC : Sat g wB (cellsA b 32 #[.slice (some ad) ws.length c, .slice A8 (es1.length + 1) c8, .map (some m)] :: rowA 74 5 (.slice A8 (es1.length + 1) c8) (es1 ++ [(⟨ss, n0 + 1, p, x1, when_⟩ : EvT)]).length ((es1 ++ [(⟨ss, n0 + 1, p, x1, when_⟩ : EvT)]).flatMap evC) :: nosA (.map (some m)) (mput nos1 ss (n0 + 1)) :: cellsA xb 96 #[.int .i64 ss, .string (Go.Proofs.YtbfogieeiobpdaaGreatDoor.S p), .bool kd, .bool on] :: rowA 96 4 (.slice B3 wl.length c3) wl.length (wl.flatMap watC) :: rowA 96 4 (.slice (some ad) ws.length c) ws.length (ws.flatMap watC) :: L) := by
                      rw [List.length_append, List.length_singleton, List.flatMap_append, List.flatMap_singleton]
                      exact ((S11.p2.drop).p2.nosSome).p2.p2
                    have SD := (SC.mnotesShut)
                    clear SC S11 S10 S9
                    have y0 := SD.p1.cell 0 _ rfl
                    have y1 := SD.p1.cell 1 _ rfl
                    have y2 := SD.p1.cell 2 _ rfl
                    have y3 := SD.p1.cell 3 _ rfl
                    rw [HN0.out] at HNSx
                    cases on
                    · rw [if_neg (by simp)] at HLSx
                      have hone := watC_one (⟨ss, p, kd, false⟩ : WatT)
                      simp only [watC] at hone
                      have HONE := hide hone
                      clear hone
                      go_wp2_with (at_builtin; refine wpList_sapp slW rfl (.tmp 104) (.tmp 106) rfl (g := g) (S := (SD.box #[.int .i64 ss, .string (Go.Proofs.YtbfogieeiobpdaaGreatDoor.S p), .bool kd, .bool false] 96 rfl).p3) rfl (Src.block (heap_alloc_new _ _) 4 1 rfl) rfl (by simp [Value.oneCell']) (by unfold maxLen; omega) (by omega) ?_; intro AF cF wF SF)
                      go_roundw
                      case rel =>
                        refine ⟨k + 1, by omega, by go_num, ?_⟩
                        rw [HLSx.out, HNSx.out, List.length_append, List.length_singleton, List.flatMap_append, List.flatMap_singleton]
                        exact ((SF.p1.drop).p2.drop).p1.p1
                      case measure => simp [RowKit.intOf]; omega
                    · rw [if_pos (by simp)] at HLSx
                      go_wp2_with fail
                      go_roundw
                      case rel =>
                        refine ⟨k + 1, by omega, by go_num, ?_⟩
                        rw [HLSx.out, HNSx.out, List.append_nil]
                        exact (SD.p1.drop).p1
                      case measure => simp [RowKit.intOf]; omega
                  exact AllReadyH.nil
                exact AllReadyH.nil
              exact AllReadyH.nil
            exact AllReadyH.nil
    · obtain rfl : k = ws.length := by omega
      rw [List.take_length] at S4
      obtain ⟨A2, c2, rfl, -⟩ := S4.row.form
      obtain ⟨ev, nv, S5⟩ := S4.p1.mnotesOpen
      have c0 := S5.cell 0 _ rfl
      have f0 := S5.cells_fz 0
      have S6 := S5.setc 0 (.slice A2 (ws.filter fp).length c2)
      have S7 : Sat g (wr.setCell ⟨b, 0, none⟩ (.slice A2 (ws.filter fp).length c2)) (cellsA b 32 #[.slice A2 (ws.filter fp).length c2, ev, nv] :: rowA 74 5 ev (ws.foldl nf (es, nos)).1.length ((ws.foldl nf (es, nos)).1.flatMap evC) :: nosA nv (ws.foldl nf (es, nos)).2 :: rowA 96 4 (.slice A2 (ws.filter fp).length c2) (ws.filter fp).length ((ws.filter fp).flatMap watC) :: rowA 96 4 (.slice A ws.length c) ws.length (ws.flatMap watC) :: L) := S6
      have HS8 := hide (Sat.modelShut (B := ⟨ws.filter fp, (ws.foldl nf (es, nos)).1, (ws.foldl nf (es, nos)).2⟩) (S7.p4.drop).mnotesShut)
      clear S7 S6 S5 S4
      generalize ws.filter fp = wl at *
      generalize (ws.foldl nf (es, nos)) = st at *
      go_wp2_with fail
      go_end0
      refine ⟨rfl, ?_⟩
      rw [HFF.out]
      exact HS8.out

end Go.Proofs.YtbfogieeiobpdaaGreatDoor
