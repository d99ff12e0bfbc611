/- JudgeAnswers: walked. No condition. -/
import Derived.Test.YtanlobdidjednaaGreatDoorJuB
import Derived.Test.YtanlobdidjednaaGreatDoorJuL
set_option linter.unusedVariables false
set_option linter.unusedSimpArgs false
namespace Go.Proofs.YtanlobdidjednaaGreatDoor
open Go.RowKit

theorem answOk_good {s : StT} {t : List UInt8} {c : CmdT} {r : ResT} (h1 : readF t = (c, 0)) (h2 : keptSt s c.session c.req = (r, true, 0)) : answOk s t c r = true := by
  have h3 : c.session ∈ keys s.tab := keptSt_has (rq := c.req) (by rw [h2])
  unfold answOk
  rw [h1, h2, if_pos h3]
  simp
theorem answOk_res {s : StT} {t : List UInt8} {c : CmdT} {r r2 : ResT} (h2 : keptSt s c.session c.req = (r, true, 0)) (hr : r ≠ r2) : answOk s t c r2 = false := by
  have h3 : c.session ∈ keys s.tab := keptSt_has (rq := c.req) (by rw [h2])
  unfold answOk
  rw [h2, if_pos h3]
  simp [hr]
theorem answOk_cmd {s : StT} {t : List UInt8} {c c2 : CmdT} {r : ResT} (h1 : readF t = (c, 0)) (hr : c ≠ c2) : answOk s t c2 r = false := by
  unfold answOk
  rw [h1]
  simp [hr]
set_option maxRecDepth 100000 in
set_option maxHeartbeats 32000000 in
theorem janswers_walk (W : World) (hG : GL W) (hT : TabE W) (A0 : Option Addr) (q0 : List CQ) (c0 : Nat) (wh how : Int) (hs0 : Src W 8 A0 q0.length (q0.flatMap cqL)) (hk0 : ∀ q ∈ q0, CqOk W q) (hl0 : q0.length ≤ 9223372036854775807) :
    Calls Tryz.prog 3 #[.slice A0 q0.length c0, .int .i64 wh, .int .i64 how] W fun e W' => e = .returned (.bool true) ∧ Keeps (fun _ => False) W W' := by
  have HG0 := hide hG
  have HT0 := hide hT
  have HF0 := hide fun (w' : World) (L' : List Asn) (S' : Sat W w' L') (h : oldA W ∈ L') => s_fewq S' h q0 A0 c0 hs0 hk0 hl0
  have HFX := hide fun (w' : World) (L' : List Asn) (S' : Sat W w' L') (h : oldA W ∈ L') (hl : q0.length ≤ 40) => fixed_walk S' h hG hT A0 q0 c0 hs0 hk0 hl
  clear hs0 hk0 hG hT
  go_enter Tryz.func3, Tryz.ntmps3
  go_wp2_with fail
  refine (head_judge (Sat.start W) HG0.out (by simp) HT0.out).mono ?_
  rintro e w1 ⟨rfl, S1⟩
  go_wp2_with fail
  refine (HF0.out _ _ S1 (by simp)).mono ?_
  rintro e w2 ⟨he, S2⟩
  clear S1 HF0
  rcases he with rfl | ⟨rfl, h40⟩
  · have HS := hide S2.keep_all
    clear S2
    go_wp2_with fail
    go_ret
    exact ⟨rfl, HS.out⟩
  go_wp2_with fail
  refine (HFX.out _ _ S2 (by simp) (by omega)).mono ?_
  rintro e w3 ⟨T, A5, A6, c5, c6, ps, rfl, hTl, hF, S3⟩
  have HF := hide hF
  have hTb : T.length ≤ 43 := by omega
  have hTp : 3 ≤ T.length := by omega
  have hTp1 : 1 ≤ T.length := by omega
  have hpl := hF.len
  have hpb : ps.length ≤ 44 := by omega
  have HPL := hide hpl
  clear S2 HFX hF hTl hpl
  go_wp2_with fail
  refine (new_j S3).mono ?_
  rintro e w4 ⟨b, rfl, S4⟩
  clear S3
  go_wp2_with fail
  go_loopw [32] (fun i wr => ∃ k : Nat, k ≤ T.length ∧ i = .int .i64 (k : Int) ∧ ∃ (sn1 : List Bool) (m1 : JTx) (ss1 : List StT), JOk m1 ss1 ∧ mget m1 (ss1.length : Int) = none ∧ SeenOk T sn1 m1 ∧ (∀ i, i < T.length → sn1[i + 1]? = some (decide (i < k))) ∧ Sat W wr (judgeA b m1 ss1 0 0 :: rowA 9 1 (.slice A5 T.length c5) T.length (Ss T) :: jR (.slice A6 ps.length c6) ps :: jS ps :: [oldA W])) (fun i _ => T.length - (RowKit.intOf i).toNat)
  case atStart => exact ⟨0, by omega, rfl, _, [], [st0], JOk.init, rfl, SeenOk.init T, fun i hi => by simp [List.getElem?_replicate]; omega, S4⟩
  case round =>
    obtain ⟨k, hk, rfl, sn1, m1, ss1, hJ, hfull, hSN, hP, S6⟩ := hrel
    clear S4
    have HJ1 := hide hJ
    have HFU1 := hide hfull
    have HSN1 := hide hSN
    have HP1 := hide hP
    clear hJ hfull hSN hP
    by_cases hlt : k < T.length
    · have hlt3 : (k : Int) < (T.length : Int) := by omega
      obtain ⟨adx, u, eadx, hu, zt⟩ := Src.at_ (S6.bring 1).srcOf (k := k) (by omega)
      subst eadx
      obtain ⟨t, ht, rfl⟩ : ∃ t, T[k]? = some t ∧ u = .string (S t) := by
        rw [show Ss T = T.map fun s => Value.string (S s) from rfl, List.getElem?_map] at hu
        cases h3 : T[k]? with
        | none => rw [h3] at hu; cases hu
        | some t2 => rw [h3] at hu; injection hu with hu; exact ⟨t2, rfl, hu.symm⟩
      have hw5 : IntKind.i64.wrap ((k : Int) + 1) = (k : Int) + 1 := IntWalk.i64_in _ ⟨by omega, by omega⟩
      have hco := commit_seen S6 HG0.out (by simp) HT0.out HJ1.out HFU1.out HSN1.out HF.out.tl hTb ht
      clear hu ht
      go_wp2_with fail
      refine hco.mono ?_
      rintro e w7 ⟨m2, ss2, rfl, hJ2, hF2, hSN2, S7⟩
      have HJ2 := hide hJ2
      have HF2 := hide hF2
      have HS2 := hide hSN2
      clear S6 hco zt hJ2 hF2 hSN2
      go_wp2_with fail
      go_roundw
      case rel => exact ⟨k + 1, by omega, by go_num, sn1.set (k + 1) true, m2, ss2, HJ2.out, HF2.out, HS2.out, fun i hi => by
          have hln := HSN1.out.len
          by_cases e : i = k
          · subst e
            rw [List.getElem?_set_self (by omega)]
            simp
          · rw [List.getElem?_set_ne (by omega), HP1.out i hi]
            congr 1
            rw [decide_eq_decide]
            omega, S7⟩
      case measure => simp [RowKit.intOf]; omega
    · obtain rfl : k = T.length := by omega
      have hsl1 : ss1.length = T.length + 1 := HSN1.out.known HJ1.out HFU1.out (Nat.le_refl _) (fun i hi => by rw [HP1.out i hi]; simp [hi]) HSN1.out.last

      have hKq : 0 ≤ bits .and .i64 wh 255 ∧ bits .and .i64 wh 255 ≤ 255 := and_le wh 255 (by decide)
      have hKq1 := hKq.1
      obtain ⟨q, hq⟩ : ∃ q : Nat, (bits .and .i64 wh 255).tmod (T.length : Int) = (q : Int) := ⟨(bits .and .i64 wh 255 % (T.length : Int)).toNat, by
        rw [Int.tmod_eq_emod_of_nonneg hKq.1]
        have := Int.emod_nonneg (bits .and .i64 wh 255) (b := (T.length : Int)) (by omega)
        omega⟩
      have hq2 : (q : Int) < (T.length : Int) := by
        have := Int.emod_lt_of_pos (bits .and .i64 wh 255) (b := (T.length : Int)) (by omega)
        rw [← Int.tmod_eq_emod_of_nonneg hKq.1, hq] at this
        omega

      have hqn : q < T.length := by omega
      have hq0 : (0 : Int) ≤ (q : Int) := by omega
      obtain ⟨k, hk⟩ : ∃ k : Nat, k = q + 1 := ⟨_, rfl⟩
      have hk1 : k ≤ q + 1 := by omega
      have hk2 : q + 1 ≤ k := by omega
      clear hk
      have hw1 : IntKind.i64.wrap (1 + (q : Int)) = (k : Int) := by
        rw [show (1 + (q : Int)) = (k : Int) by omega]
        exact IntWalk.i64_in _ ⟨by omega, by omega⟩
      have hw2 : IntKind.i64.wrap ((k : Int) - 1) = (q : Int) := by
        rw [show (k : Int) - 1 = (q : Int) by omega]
        exact IntWalk.i64_in _ ⟨by omega, by omega⟩
      obtain ⟨adx, u, eadx, hu, zt⟩ := Src.at_ (S6.bring 1).srcOf (k := q) (by omega)
      subst eadx
      obtain ⟨t, ht, rfl⟩ : ∃ t, T[q]? = some t ∧ u = .string (S t) := by
        rw [show Ss T = T.map fun s => Value.string (S s) from rfl, List.getElem?_map] at hu
        cases h3 : T[q]? with
        | none => rw [h3] at hu; cases hu
        | some t2 => rw [h3] at hu; injection hu with hu; exact ⟨t2, rfl, hu.symm⟩
      have htl : t.length ≤ 488 := HF.out.tl t (List.mem_of_getElem? ht)
      have HT := hide ht
      clear ht hu
      have hread := read_row wr t (by omega)
      have HRF := hide (rfl : readF t = readF t)
      generalize hRF : readF t = RF at *
      have HRD := hide hRF
      clear hRF HRF
      obtain ⟨⟨kd, ses, rq, nt, ops, pa, ki, oc⟩, de⟩ := RF
      simp only at hread
      go_wp2_with fail
      refine hread.mono ?_
      rintro e w7 ⟨A3, c3, rfl, hrow, hk7⟩
      have S7 := S6.newRow hk7 hrow
      clear S6 hrow hk7 zt hread
      have S8 := S7.box #[.int .i64 kd, .int .i64 ses, .int .i64 rq, .int .i64 nt, .slice A3 ops.length c3, .string (S pa), .bool ki, .bool oc] 35 rfl
      go_upto_region 15 with fail
      generalize w7.alloc (.cells #[.int .i64 kd, .int .i64 ses, .int .i64 rq, .int .i64 nt, .slice A3 ops.length c3, .string (S pa), .bool ki, .bool oc] 35) = w8 at *
      generalize w7.heap.size = cb at *
      clear S7
      have d0 := S8.cell 0 _ rfl
      by_cases hde : de = 0
      rotate_left
      · have hde2 : (de != 0) = true := by simpa using hde
        have HS := hide (Sat.keep_all S8.drop.drop.drop.drop.drop.drop)
        clear S8
        go_wp2_with fail
        go_ret
        exact ⟨rfl, HS.out⟩
      subst hde
      by_cases hkd : kd = 3 ∨ kd = 4 ∨ kd = 5
      rotate_left
      · have hd3 : (kd != 3) = true := by simp; omega
        have hd4 : (kd != 4) = true := by simp; omega
        have hd5 : (kd != 5) = true := by simp; omega
        have HS := hide (Sat.keep_all S8.drop.drop.drop.drop.drop.drop)
        clear S8 hkd
        go_wp2_with fail
        go_ret
        exact ⟨rfl, HS.out⟩
      have HKD := hide hkd
      clear hkd
      go_cut [75] (fun s75 wx => s75 = .bool false ∧ wx = w8)
      case first =>
        have hc := HKD.out
        clear HKD S8
        rcases hc with rfl | rfl | rfl
        · go_wp2_with fail
          go_meet
          case rel => exact ⟨rfl, rfl⟩
        · go_wp2_with fail
          go_meet
          case rel => exact ⟨rfl, rfl⟩
        · go_wp2_with fail
          go_meet
          case rel => exact ⟨rfl, rfl⟩
      case rest =>
        obtain ⟨rfl, rfl⟩ := hcut
        clear d0
        have hkp : k < ps.length := by have := HPL.out; omega
        obtain ⟨⟨sb, sq⟩, hp⟩ : ∃ p, ps[k]? = some p := ⟨_, List.getElem?_eq_getElem hkp⟩
        obtain ⟨hr1, hf1⟩ : RelS (chainF (listF T) k) sq ∧ FitS sq (1 + 8 * k) k := HF.out.st k _ hp
        have hqs : k < ss1.length := by omega
        obtain ⟨sj, hsj⟩ : ∃ s, ss1[k]? = some s := ⟨_, List.getElem?_eq_getElem hqs⟩
        have hrj : RelS sq sj := by
          have h1 := (HJ1.out.st k sj hsj).1
          have e1 : chainS m1 k = chainF (listF T) k := chainF_eq k fun j hj => by
            have hj2 : j < T.length := by omega
            have := HSN1.out.got j hj2 (by rw [HP1.out j hj2]; simp [hj2])
            rw [show (((j + 1 : Nat)) : Int) = (j : Int) + 1 by omega] at this
            simp only [mapF, listF, this]
          rw [e1] at h1
          exact hr1.symm.trans h1
        have HSJ := hide hsj
        have HTK : Hid (mget m1 (k : Int) = some t) := hide (by
          have := HSN1.out.got q hqn (by rw [HP1.out q hqn]; simp [hqn])
          rw [show (((q + 1 : Nat)) : Int) = (k : Int) by omega] at this
          rw [this, HT.out])
        have HFJ := hide (fun id rq => (HJ1.out.st k sj hsj).2.seen_le id rq)
        have HKR := hide (fun id rq => hrj.kept id rq)
        have S9 := (S8.bring 5).jAt hp
        have HKEPT := hide fun (w' : World) (L' : List Asn) (S' : Sat W w' (stateA sb sq :: L')) => kept_state S' ses rq (hf1.seen_le ses rq)
        obtain ⟨adp, u, eadp, hu, zp⟩ := Src.at_ (S9.bring 6).srcOf (k := k) hkp
        subst eadp
        have HX : Hid (∀ (w' : World) (L' : List Asn), Sat W w' L' → jR (.slice (some adp) ps.length c6) ps ∈ L' → cellsA cb 35 #[.int .i64 kd, .int .i64 ses, .int .i64 rq, .int .i64 nt, .slice A3 ops.length c3, .string (S pa), .bool ki, .bool oc] ∈ L' → w'.cell? (adp.add k) = some (ptr sb) ∧ w'.cell? ⟨cb, 1, none⟩ = some (.int .i64 ses) ∧ w'.cell? ⟨cb, 2, none⟩ = some (.int .i64 rq)) := hide fun w' L' S' h2 h3 => ⟨(by
          obtain ⟨L3, S3⟩ := S'.mem_ h2
          obtain ⟨ad2, u2, e2, hu2, z2⟩ := Src.at_ S3.srcOf (k := k) hkp
          cases e2
          rw [List.getElem?_map, hp] at hu2
          cases hu2
          exact z2), S'.cell_of h3 1 _ rfl, S'.cell_of h3 2 _ rfl⟩
        generalize hKS : keptSt sq ses rq = KS at *
        have HKS := hide hKS
        clear hKS
        obtain ⟨⟨re, ra, outs, rwh⟩, th, f⟩ := KS
        simp only at HKEPT
        have hk0 : (0 : Int) ≤ (k : Int) := by omega
        have hkpi : (k : Int) < (ps.length : Int) := by omega
        clear S8 hu zp hp hr1 hf1 hsj hrj
        go_upto_region 17 with fail
        go_cut [15, 16, 17] (fun s15 s16 s17 wx => ∃ (kb : Nat) (A4 : Option Addr) (c4 : Nat), s15 = ptr kb ∧ s16 = .bool th ∧ s17 = .int .i64 f ∧ Sat W wx (cellsA kb 41 #[.int .i64 re, .int .i64 ra, .slice A4 outs.length c4, .int .i64 rwh] :: rowA 109 2 (.slice A4 outs.length c4) outs.length (outs.flatMap outC) :: stateA sb sq :: stars ((ps.eraseIdx k).map stp) :: cellsA cb 35 #[.int .i64 kd, .int .i64 ses, .int .i64 rq, .int .i64 nt, .slice A3 ops.length c3, .string (S pa), .bool ki, .bool oc] :: rowA 71 6 (.slice A3 ops.length c3) ops.length (ops.flatMap opC) :: judgeA b m1 ss1 0 0 :: rowA 9 1 (.slice (some adx) T.length c5) T.length (Ss T) :: jR (.slice (some adp) ps.length c6) ps :: [oldA W]))
        case first =>
          refine wp_region_held_drew (S := (fun w' => w'.cell? (adp.add k) = some (ptr sb) ∧ w'.cell? ⟨cb, 1, none⟩ = some (.int .i64 ses) ∧ w'.cell? ⟨cb, 2, none⟩ = some (.int .i64 rq))) (by kernel_rfl) ?_ (fun hHeld => ?_)
          · exact HX.out _ _ S9.drew (by simp) (by simp)
          refine wpAnyH_take (i := 0) (oi := _) (v := ?_) rfl (by kernel_rfl) (by kernel_rfl) (by kernel_rfl) (fun _ _ _ h => h) (Or.inl ⟨by rfl, ?_⟩) hHeld ?_
          rotate_left
          · intro w' hSw
            (try dsimp only at hSw)
            go_simp
            try with_reducible rfl
          try simp only [Act.put, List.setIfInBounds_toArray, List.set_cons_zero, List.set_cons_succ, List.getElem_toArray, List.getElem_cons_zero, List.getElem_cons_succ]
          refine wpAnyH_take (i := 1) (oi := _) (v := ?_) rfl (by kernel_rfl) (by kernel_rfl) (by kernel_rfl) (fun _ _ _ h => h) (Or.inl ⟨by rfl, ?_⟩) hHeld ?_
          rotate_left
          · intro w' hSw
            (try dsimp only at hSw)
            go_simp
            try with_reducible rfl
          try simp only [Act.put, List.setIfInBounds_toArray, List.set_cons_zero, List.set_cons_succ, List.getElem_toArray, List.getElem_cons_zero, List.getElem_cons_succ]
          refine wpAnyH_take (i := 2) (oi := _) (v := ?_) rfl (by kernel_rfl) (by kernel_rfl) (by kernel_rfl) (fun _ _ _ h => h) (Or.inl ⟨by rfl, ?_⟩) hHeld ?_
          rotate_left
          · intro w' hSw
            (try dsimp only at hSw)
            go_simp
            try with_reducible rfl
          try simp only [Act.put, List.setIfInBounds_toArray, List.set_cons_zero, List.set_cons_succ, List.getElem_toArray, List.getElem_cons_zero, List.getElem_cons_succ]
          refine wpAnyH_take (i := 3) (oi := _) (v := ?_) rfl (by kernel_rfl) (by kernel_rfl) (by kernel_rfl) (fun _ _ _ h => h) (Or.inl ⟨by rfl, ?_⟩) hHeld ?_
          rotate_left
          · intro w' hSw
            (try dsimp only at hSw)
            go_simp
            try with_reducible rfl
          try simp only [Act.put, List.setIfInBounds_toArray, List.set_cons_zero, List.set_cons_succ, List.getElem_toArray, List.getElem_cons_zero, List.getElem_cons_succ]
          refine wpAnyH_take (i := 4) (oi := _) (v := ?_) rfl (by kernel_rfl) (by kernel_rfl) (by kernel_rfl) (fun _ _ _ h => h) (Or.inl ⟨by rfl, ?_⟩) hHeld ?_
          rotate_left
          · intro w' hSw
            (try dsimp only at hSw)
            go_simp
            try with_reducible rfl
          try simp only [Act.put, List.setIfInBounds_toArray, List.set_cons_zero, List.set_cons_succ, List.getElem_toArray, List.getElem_cons_zero, List.getElem_cons_succ]
          refine wpAnyH_take (i := 5) (oi := _) (v := ?_) rfl (by kernel_rfl) (by kernel_rfl) (by kernel_rfl) (fun _ _ _ h => h) (Or.inl ⟨by rfl, ?_⟩) hHeld ?_
          rotate_left
          · intro w' hSw
            (try dsimp only at hSw)
            go_simp
            try with_reducible rfl
          try simp only [Act.put, List.setIfInBounds_toArray, List.set_cons_zero, List.set_cons_succ, List.getElem_toArray, List.getElem_cons_zero, List.getElem_cons_succ]
          refine wpAnyH_take (i := 6) (oi := _) (v := ?_) rfl (by kernel_rfl) (by kernel_rfl) (by kernel_rfl) (fun _ _ _ h => h) (Or.inl ⟨by rfl, ?_⟩) hHeld ?_
          rotate_left
          · intro w' hSw
            (try dsimp only at hSw)
            go_simp
            try with_reducible rfl
          try simp only [Act.put, List.setIfInBounds_toArray, List.set_cons_zero, List.set_cons_succ, List.getElem_toArray, List.getElem_cons_zero, List.getElem_cons_succ]
          refine wpAnyH_take (i := 7) (oi := _) (v := ?_) rfl (by kernel_rfl) (by kernel_rfl) (by kernel_rfl) (fun _ _ _ h => h) (Or.inl ⟨by rfl, ?_⟩) hHeld ?_
          rotate_left
          · intro w' hSw
            (try dsimp only at hSw)
            go_simp
            try with_reducible rfl
          try simp only [Act.put, List.setIfInBounds_toArray, List.set_cons_zero, List.set_cons_succ, List.getElem_toArray, List.getElem_cons_zero, List.getElem_cons_succ]
          refine wpAnyH_ready (rs := [8, 13]) (by kernel_rfl) (by simp) ?_
          refine AllReadyH.cons rfl (fun K hK => ?_) ?_
          · go_simp
            go_at_call 10
            refine (HKEPT.out _ _ (by (repeat (first | refine Sat.drew ?_ | refine Sat.drewN ?_ _)); exact S9)).mono ?_
            rintro e w10 ⟨A4, c4, rfl, S10⟩
            refine hK.out _ _ ?_ (fun hHeld => ?_)
            · exact HX.out _ _ S10 (by simp) (by simp)
            clear hK K
            try simp only [Act.put, List.setIfInBounds_toArray, List.set_cons_zero, List.set_cons_succ, List.getElem_toArray, List.getElem_cons_zero, List.getElem_cons_succ]
            refine wpAnyH_take (i := 9) (oi := _) (v := ?_) rfl (by kernel_rfl) (by kernel_rfl) (by kernel_rfl) (fun _ _ _ h => h) (Or.inl ⟨by rfl, ?_⟩) hHeld ?_
            rotate_left
            · intro w' hSw
              (try dsimp only at hSw)
              go_simp
              try with_reducible rfl
            try simp only [Act.put, List.setIfInBounds_toArray, List.set_cons_zero, List.set_cons_succ, List.getElem_toArray, List.getElem_cons_zero, List.getElem_cons_succ]
            refine wpAnyH_take (i := 10) (oi := _) (v := ?_) rfl (by kernel_rfl) (by kernel_rfl) (by kernel_rfl) (fun _ _ _ h => h) (Or.inl ⟨by rfl, ?_⟩) hHeld ?_
            rotate_left
            · intro w' hSw
              (try dsimp only at hSw)
              go_simp
              try with_reducible rfl
            try simp only [Act.put, List.setIfInBounds_toArray, List.set_cons_zero, List.set_cons_succ, List.getElem_toArray, List.getElem_cons_zero, List.getElem_cons_succ]
            refine wpAnyH_take (i := 11) (oi := _) (v := ?_) rfl (by kernel_rfl) (by kernel_rfl) (by kernel_rfl) (fun _ _ _ h => h) (Or.inl ⟨by rfl, ?_⟩) hHeld ?_
            rotate_left
            · intro w' hSw
              (try dsimp only at hSw)
              go_simp
              try with_reducible rfl
            try simp only [Act.put, List.setIfInBounds_toArray, List.set_cons_zero, List.set_cons_succ, List.getElem_toArray, List.getElem_cons_zero, List.getElem_cons_succ]
            refine wpAnyH_take (i := 12) (oi := _) (v := ?_) rfl (by kernel_rfl) (by kernel_rfl) (by kernel_rfl) (fun _ _ _ h => h) (Or.inl ⟨by rfl, ?_⟩) hHeld ?_
            rotate_left
            · intro w' hSw
              (try dsimp only at hSw)
              go_simp
              try with_reducible rfl
            try simp only [Act.put, List.setIfInBounds_toArray, List.set_cons_zero, List.set_cons_succ, List.getElem_toArray, List.getElem_cons_zero, List.getElem_cons_succ]
            refine wpAnyH_ready (rs := [13]) (by kernel_rfl) (by simp) ?_
            refine AllReadyH.cons rfl (fun K hK => ?_) ?_
            · go_simp
              refine hK.out _ _ ?_ (fun hHeld => ?_)
              · exact HX.out _ _ (S10.box #[.int .i64 0, .int .i64 0, .slice none 0 0, .int .i64 0] 41 rfl) (by simp) (by simp)
              clear hK K
              try simp only [Act.put, List.setIfInBounds_toArray, List.set_cons_zero, List.set_cons_succ, List.getElem_toArray, List.getElem_cons_zero, List.getElem_cons_succ]
              refine wpAnyH_ready (rs := [14]) (by kernel_rfl) (by simp) ?_
              refine AllReadyH.cons rfl (fun K hK => ?_) ?_
              · refine step_sstore rfl _ (.tmp 15) (.tmp 86) rfl (g := W) (S := (S10.box #[.int .i64 0, .int .i64 0, .slice none 0 0, .int .i64 0] 41 rfl)) _ rfl rfl (by kernel_rfl) rfl (by simp [Value.oneCell']) ?_
                intro S11
                refine hK.out _ _ ?_ (fun hHeld => ?_)
                · exact HX.out _ _ S11 (by simp) (by simp)
                clear hK K
                try simp only [Act.put, List.setIfInBounds_toArray, List.set_cons_zero, List.set_cons_succ, List.getElem_toArray, List.getElem_cons_zero, List.getElem_cons_succ]
                refine wpAnyH_take (i := 15) (oi := _) (v := ?_) rfl (by kernel_rfl) (by kernel_rfl) (by kernel_rfl) (fun _ _ _ h => h) (Or.inl ⟨by rfl, ?_⟩) hHeld ?_
                rotate_left
                · intro w' hSw
                  (try dsimp only at hSw)
                  go_simp
                  try with_reducible rfl
                try simp only [Act.put, List.setIfInBounds_toArray, List.set_cons_zero, List.set_cons_succ, List.getElem_toArray, List.getElem_cons_zero, List.getElem_cons_succ]
                refine wpAnyH_take (i := 16) (oi := _) (v := ?_) rfl (by kernel_rfl) (by kernel_rfl) (by kernel_rfl) (fun _ _ _ h => h) (Or.inl ⟨by rfl, ?_⟩) hHeld ?_
                rotate_left
                · intro w' hSw
                  (try dsimp only at hSw)
                  go_simp
                  try with_reducible rfl
                try simp only [Act.put, List.setIfInBounds_toArray, List.set_cons_zero, List.set_cons_succ, List.getElem_toArray, List.getElem_cons_zero, List.getElem_cons_succ]
                refine wpAnyH_done (by kernel_rfl) ?_ _
                go_wp2_with fail
                go_meet
                case rel => exact ⟨_, A4, c4, rfl, rfl, rfl, S11⟩
              exact AllReadyH.nil
            exact AllReadyH.nil
          refine AllReadyH.cons rfl (fun K hK => ?_) ?_
          · go_simp
            refine hK.out _ _ ?_ (fun hHeld => ?_)
            · exact HX.out _ _ (S9.box #[.int .i64 0, .int .i64 0, .slice none 0 0, .int .i64 0] 41 rfl).drew (by simp) (by simp)
            clear hK K
            try simp only [Act.put, List.setIfInBounds_toArray, List.set_cons_zero, List.set_cons_succ, List.getElem_toArray, List.getElem_cons_zero, List.getElem_cons_succ]
            refine wpAnyH_ready (rs := [8]) (by kernel_rfl) (by simp) ?_
            refine AllReadyH.cons rfl (fun K hK => ?_) ?_
            · go_simp
              go_at_call 10
              refine (HKEPT.out _ _ (by (repeat (first | refine Sat.drew ?_ | refine Sat.drewN ?_ _)); exact ((S9.box #[.int .i64 0, .int .i64 0, .slice none 0 0, .int .i64 0] 41 rfl).bring 1))).mono ?_
              rintro e w10 ⟨A4, c4, rfl, S10⟩
              refine hK.out _ _ ?_ (fun hHeld => ?_)
              · exact HX.out _ _ S10 (by simp) (by simp)
              clear hK K
              try simp only [Act.put, List.setIfInBounds_toArray, List.set_cons_zero, List.set_cons_succ, List.getElem_toArray, List.getElem_cons_zero, List.getElem_cons_succ]
              refine wpAnyH_take (i := 9) (oi := _) (v := ?_) rfl (by kernel_rfl) (by kernel_rfl) (by kernel_rfl) (fun _ _ _ h => h) (Or.inl ⟨by rfl, ?_⟩) hHeld ?_
              rotate_left
              · intro w' hSw
                (try dsimp only at hSw)
                go_simp
                try with_reducible rfl
              try simp only [Act.put, List.setIfInBounds_toArray, List.set_cons_zero, List.set_cons_succ, List.getElem_toArray, List.getElem_cons_zero, List.getElem_cons_succ]
              refine wpAnyH_take (i := 10) (oi := _) (v := ?_) rfl (by kernel_rfl) (by kernel_rfl) (by kernel_rfl) (fun _ _ _ h => h) (Or.inl ⟨by rfl, ?_⟩) hHeld ?_
              rotate_left
              · intro w' hSw
                (try dsimp only at hSw)
                go_simp
                try with_reducible rfl
              try simp only [Act.put, List.setIfInBounds_toArray, List.set_cons_zero, List.set_cons_succ, List.getElem_toArray, List.getElem_cons_zero, List.getElem_cons_succ]
              refine wpAnyH_take (i := 11) (oi := _) (v := ?_) rfl (by kernel_rfl) (by kernel_rfl) (by kernel_rfl) (fun _ _ _ h => h) (Or.inl ⟨by rfl, ?_⟩) hHeld ?_
              rotate_left
              · intro w' hSw
                (try dsimp only at hSw)
                go_simp
                try with_reducible rfl
              try simp only [Act.put, List.setIfInBounds_toArray, List.set_cons_zero, List.set_cons_succ, List.getElem_toArray, List.getElem_cons_zero, List.getElem_cons_succ]
              refine wpAnyH_take (i := 12) (oi := _) (v := ?_) rfl (by kernel_rfl) (by kernel_rfl) (by kernel_rfl) (fun _ _ _ h => h) (Or.inl ⟨by rfl, ?_⟩) hHeld ?_
              rotate_left
              · intro w' hSw
                (try dsimp only at hSw)
                go_simp
                try with_reducible rfl
              try simp only [Act.put, List.setIfInBounds_toArray, List.set_cons_zero, List.set_cons_succ, List.getElem_toArray, List.getElem_cons_zero, List.getElem_cons_succ]
              refine wpAnyH_ready (rs := [14]) (by kernel_rfl) (by simp) ?_
              refine AllReadyH.cons rfl (fun K hK => ?_) ?_
              · refine step_sstore rfl _ (.tmp 15) (.tmp 86) rfl (g := W) (S := (S10.bring 2)) _ rfl rfl (by kernel_rfl) rfl (by simp [Value.oneCell']) ?_
                intro S11
                refine hK.out _ _ ?_ (fun hHeld => ?_)
                · exact HX.out _ _ S11 (by simp) (by simp)
                clear hK K
                try simp only [Act.put, List.setIfInBounds_toArray, List.set_cons_zero, List.set_cons_succ, List.getElem_toArray, List.getElem_cons_zero, List.getElem_cons_succ]
                refine wpAnyH_take (i := 15) (oi := _) (v := ?_) rfl (by kernel_rfl) (by kernel_rfl) (by kernel_rfl) (fun _ _ _ h => h) (Or.inl ⟨by rfl, ?_⟩) hHeld ?_
                rotate_left
                · intro w' hSw
                  (try dsimp only at hSw)
                  go_simp
                  try with_reducible rfl
                try simp only [Act.put, List.setIfInBounds_toArray, List.set_cons_zero, List.set_cons_succ, List.getElem_toArray, List.getElem_cons_zero, List.getElem_cons_succ]
                refine wpAnyH_take (i := 16) (oi := _) (v := ?_) rfl (by kernel_rfl) (by kernel_rfl) (by kernel_rfl) (fun _ _ _ h => h) (Or.inl ⟨by rfl, ?_⟩) hHeld ?_
                rotate_left
                · intro w' hSw
                  (try dsimp only at hSw)
                  go_simp
                  try with_reducible rfl
                try simp only [Act.put, List.setIfInBounds_toArray, List.set_cons_zero, List.set_cons_succ, List.getElem_toArray, List.getElem_cons_zero, List.getElem_cons_succ]
                refine wpAnyH_done (by kernel_rfl) ?_ _
                go_wp2_with fail
                go_meet
                case rel => exact ⟨_, A4, c4, rfl, rfl, rfl, S11⟩
              exact AllReadyH.nil
            exact AllReadyH.nil
          exact AllReadyH.nil

        case rest =>
          obtain ⟨kb, A4, c4, rfl, rfl, rfl, S11⟩ := hcut
          clear S9 HKEPT HX
          have q0 := S11.cell 0 _ rfl
          have q1 := S11.cell 1 _ rfl
          have q2 := S11.cell 2 _ rfl
          have q3 := S11.cell 3 _ rfl
          by_cases hf : f = 0
          rotate_left
          · have hf2 : (f != 0) = true := by simpa using hf
            have HS := hide (Sat.keep_all S11.drop.drop.drop.drop.drop.drop.drop.drop.drop)
            clear S11
            go_wp2_with fail
            go_ret
            exact ⟨rfl, HS.out⟩
          subst hf
          cases th
          · have HS := hide (Sat.keep_all S11.drop.drop.drop.drop.drop.drop.drop.drop.drop)
            clear S11
            go_wp2_with fail
            go_ret
            exact ⟨rfl, HS.out⟩
          by_cases hrw : rwh = (k : Int)
          rotate_left
          · have hrw2 : (rwh != (k : Int)) = true := by simpa using hrw
            have HS := hide (Sat.keep_all S11.drop.drop.drop.drop.drop.drop.drop.drop.drop)
            clear S11
            go_wp2_with fail
            go_ret
            exact ⟨rfl, HS.out⟩
          subst hrw
          have S12 := S11.box #[.int .i64 0, .int .i64 re, .int .i64 ra, .slice A4 outs.length c4, .int .i64 (k : Int), .string ⟨#[]⟩, .int .i64 0, .int .i64 0, .int .i64 0, .int .i64 0, .int .i64 0, .int .i64 0, .slice none 0 0, .slice none 0 0, .int .i64 (T.length : Int), .int .i64 0] 49 rfl
          go_upto_region 21 with fail
          generalize wc.alloc (.cells #[.int .i64 0, .int .i64 re, .int .i64 ra, .slice A4 outs.length c4, .int .i64 (k : Int), .string ⟨#[]⟩, .int .i64 0, .int .i64 0, .int .i64 0, .int .i64 0, .int .i64 0, .int .i64 0, .slice none 0 0, .slice none 0 0, .int .i64 (T.length : Int), .int .i64 0] 49) = w12 at *
          generalize wc.heap.size = ab at *
          clear S11 q0 q1 q2 q3
          have HK1 : Hid (kd ≠ 1) := hide (by have := HKD.out; omega)
          have HK2 : Hid (kd ≠ 2) := hide (by have := HKD.out; omega)
          have HKJ : Hid (keptSt sj ses rq = (⟨re, ra, outs, (k : Int)⟩, true, 0)) := hide (by rw [HKR.out, HKS.out])
          have S13 := S12.bring 7
          have hA := answer_near S13 HJ1.out HSJ.out HTK.out (at_ := (T.length : Int)) (ah := (q : Int)) (kd := kd) (ses := ses) (rq := rq) (nt := nt) (ops := ops) (pa := pa) (ki := ki) (oc := oc) (e2 := re) (a2 := ra) (outs := outs) (n0 := .string ⟨#[]⟩) (n1 := .int .i64 0) (n2 := .int .i64 0) (n3 := .int .i64 0) (n4 := .int .i64 0) (n5 := .int .i64 0) (n6 := .int .i64 0) (kv := .slice none 0 0) (ev := .slice none 0 0) (ld := .int .i64 0) (show rowA 71 6 (.slice A3 ops.length c3) ops.length (ops.flatMap opC) ∈ _ by simp) (show rowA 109 2 (.slice A4 outs.length c4) outs.length (outs.flatMap outC) ∈ _ by simp) HK1.out HK2.out (by omega) (by omega) (HFJ.out ses rq)
          rw [answOk_good (c := ⟨kd, ses, rq, nt, ops, pa, ki, oc⟩) HRD.out HKJ.out, if_pos rfl, show max (0 : Int) (k : Int) = (k : Int) by omega] at hA
          have y0 := (S13.bring 1).cell 0 _ rfl
          have y1 := (S13.bring 1).cell 1 _ rfl
          have y2 := (S13.bring 1).cell 2 _ rfl
          have y3 := (S13.bring 1).cell 3 _ rfl
          have y4 := (S13.bring 1).cell 4 _ rfl
          have y5 := (S13.bring 1).cell 5 _ rfl
          have y6 := (S13.bring 1).cell 6 _ rfl
          have y7 := (S13.bring 1).cell 7 _ rfl
          have y8 := (S13.bring 1).cell 8 _ rfl
          have y9 := (S13.bring 1).cell 9 _ rfl
          have y10 := (S13.bring 1).cell 10 _ rfl
          have y11 := (S13.bring 1).cell 11 _ rfl
          have y12 := (S13.bring 1).cell 12 _ rfl
          have y13 := (S13.bring 1).cell 13 _ rfl
          have y14 := (S13.bring 1).cell 14 _ rfl
          have y15 := (S13.bring 1).cell 15 _ rfl
          have x0 := (S13.bring 6).cell 0 _ rfl
          have x1 := (S13.bring 6).cell 1 _ rfl
          have x2 := (S13.bring 6).cell 2 _ rfl
          have x3 := (S13.bring 6).cell 3 _ rfl
          have x4 := (S13.bring 6).cell 4 _ rfl
          have x5 := (S13.bring 6).cell 5 _ rfl
          have x6 := (S13.bring 6).cell 6 _ rfl
          have x7 := (S13.bring 6).cell 7 _ rfl
          clear S12
          go_wp2_with fail
          refine hA.mono ?_
          rintro e w14 ⟨rfl, S14⟩
          clear hA S13 x0 x1 x2 x3 x4 x5 x6 x7 y0 y1 y2 y3 y4 y5 y6 y7 y8 y9 y10 y11 y12 y13 y14 y15
          go_wp2_with fail
          refine (j_told S14).mono ?_
          rintro e w15 ⟨rfl, S15⟩
          clear S14
          go_wp2_with fail
          refine (j_wrong S15).mono ?_
          rintro e w16 ⟨rfl, S16⟩
          clear S15
          obtain ⟨K0, K3⟩ : 0 ≤ bits .and .i64 how 3 ∧ bits .and .i64 how 3 ≤ 3 := and_le how 3 (by decide)
          have hcase : bits .and .i64 how 3 = 0 ∨ bits .and .i64 how 3 = 1 ∨ bits .and .i64 how 3 = 2 ∨ bits .and .i64 how 3 = 3 := by omega
          clear K0 K3
          rcases hcase with hb | hb | hb | hb
          · as_aux_lemma =>
            have y0 := (S16.bring 1).cell 0 _ rfl
            have y1 := (S16.bring 1).cell 1 _ rfl
            have y2 := (S16.bring 1).cell 2 _ rfl
            have y3 := (S16.bring 1).cell 3 _ rfl
            have y4 := (S16.bring 1).cell 4 _ rfl
            have y5 := (S16.bring 1).cell 5 _ rfl
            have y6 := (S16.bring 1).cell 6 _ rfl
            have y7 := (S16.bring 1).cell 7 _ rfl
            have y8 := (S16.bring 1).cell 8 _ rfl
            have y9 := (S16.bring 1).cell 9 _ rfl
            have y10 := (S16.bring 1).cell 10 _ rfl
            have y11 := (S16.bring 1).cell 11 _ rfl
            have y12 := (S16.bring 1).cell 12 _ rfl
            have y13 := (S16.bring 1).cell 13 _ rfl
            have y14 := (S16.bring 1).cell 14 _ rfl
            have y15 := (S16.bring 1).cell 15 _ rfl
            have x0 := (S16.bring 6).cell 0 _ rfl
            have x1 := (S16.bring 6).cell 1 _ rfl
            have x2 := (S16.bring 6).cell 2 _ rfl
            have x3 := (S16.bring 6).cell 3 _ rfl
            have x4 := (S16.bring 6).cell 4 _ rfl
            have x5 := (S16.bring 6).cell 5 _ rfl
            have x6 := (S16.bring 6).cell 6 _ rfl
            have x7 := (S16.bring 6).cell 7 _ rfl
            go_wp2_with fail
            refine (answer_bad S16 HK1.out HK2.out rfl (k : Int) (.inl (Int.le_refl _))).mono ?_
            rintro e w17 ⟨rfl, S17⟩
            clear S16 x0 x1 x2 x3 x4 x5 x6 x7 y0 y1 y2 y3 y4 y5 y6 y7 y8 y9 y10 y11 y12 y13 y14 y15
            go_wp2_with fail
            refine (j_wrong S17).mono ?_
            rintro e w18 ⟨rfl, S18⟩
            have HS := hide (Sat.keep_all S18.drop.drop.drop.drop.drop.drop.drop.drop.drop.drop)
            clear S17 S18
            go_wp2_with fail
            go_ret
            exact ⟨rfl, HS.out⟩
          · as_aux_lemma =>
            have y14 := (S16.bring 1).cell 14 _ rfl
            have yf := (S16.bring 1).cells_fz 14
            have S20 := ((S16.bring 1).setc 14 (.int .i64 (q : Int))).bring 1
            go_upto_region 28 with fail
            generalize w16.setCell ⟨ab, 14, none⟩ (.int .i64 (q : Int)) = w20 at *
            clear S16 y14 yf
            have y0 := (S20.bring 1).cell 0 _ rfl
            have y1 := (S20.bring 1).cell 1 _ rfl
            have y2 := (S20.bring 1).cell 2 _ rfl
            have y3 := (S20.bring 1).cell 3 _ rfl
            have y4 := (S20.bring 1).cell 4 _ rfl
            have y5 := (S20.bring 1).cell 5 _ rfl
            have y6 := (S20.bring 1).cell 6 _ rfl
            have y7 := (S20.bring 1).cell 7 _ rfl
            have y8 := (S20.bring 1).cell 8 _ rfl
            have y9 := (S20.bring 1).cell 9 _ rfl
            have y10 := (S20.bring 1).cell 10 _ rfl
            have y11 := (S20.bring 1).cell 11 _ rfl
            have y12 := (S20.bring 1).cell 12 _ rfl
            have y13 := (S20.bring 1).cell 13 _ rfl
            have y14 := (S20.bring 1).cell 14 _ rfl
            have y15 := (S20.bring 1).cell 15 _ rfl
            have x0 := (S20.bring 6).cell 0 _ rfl
            have x1 := (S20.bring 6).cell 1 _ rfl
            have x2 := (S20.bring 6).cell 2 _ rfl
            have x3 := (S20.bring 6).cell 3 _ rfl
            have x4 := (S20.bring 6).cell 4 _ rfl
            have x5 := (S20.bring 6).cell 5 _ rfl
            have x6 := (S20.bring 6).cell 6 _ rfl
            have x7 := (S20.bring 6).cell 7 _ rfl
            go_wp2_with fail
            refine (answer_bad S20 HK1.out HK2.out rfl 0 (.inr (by omega))).mono ?_
            rintro e w17 ⟨rfl, S17⟩
            have HS := hide (Sat.keep_all S17.drop.drop.drop.drop.drop.drop.drop.drop.drop.drop)
            clear S20 S17 x0 x1 x2 x3 x4 x5 x6 x7 y0 y1 y2 y3 y4 y5 y6 y7 y8 y9 y10 y11 y12 y13 y14 y15
            go_wp2_with fail
            go_ret
            exact ⟨rfl, HS.out⟩
          · as_aux_lemma =>
            have y1 := (S16.bring 1).cell 1 _ rfl
            have yf := (S16.bring 1).cells_fz 1
            obtain ⟨re2, hre⟩ : ∃ x, IntKind.i64.wrap (re + 1) = x := ⟨_, rfl⟩
            have HNE : Hid (re2 ≠ re) := hide (hre ▸ wrap_ne re)
            have S20 := ((S16.bring 1).setc 1 (.int .i64 re2)).bring 1
            go_upto_region 31 with fail
            generalize w16.setCell ⟨ab, 1, none⟩ (.int .i64 re2) = w20 at *
            clear S16 y1 yf hre
            have hA := answer_near S20 HJ1.out HSJ.out HTK.out (at_ := (T.length : Int)) (ah := 0) (kd := kd) (ses := ses) (nt := nt) (ops := ops) (pa := pa) (ki := ki) (oc := oc) (outs := outs) (n0 := .string ⟨#[]⟩) (n1 := .int .i64 0) (n2 := .int .i64 0) (n3 := .int .i64 0) (n4 := .int .i64 0) (n5 := .int .i64 0) (n6 := .int .i64 0) (kv := .slice none 0 0) (ev := .slice none 0 0) (ld := .int .i64 0) (e2 := re2) (a2 := ra) (rq := rq) (show rowA 71 6 (.slice A3 ops.length c3) ops.length (ops.flatMap opC) ∈ _ by simp) (show rowA 109 2 (.slice A4 outs.length c4) outs.length (outs.flatMap outC) ∈ _ by simp) HK1.out HK2.out (by omega) (by omega) (HFJ.out ses rq)
            rw [answOk_res (c := ⟨kd, ses, rq, nt, ops, pa, ki, oc⟩) HKJ.out (by intro h; injection h with h; exact HNE.out h.symm), if_neg (by simp)] at hA
            have y0 := (S20.bring 1).cell 0 _ rfl
            have y1 := (S20.bring 1).cell 1 _ rfl
            have y2 := (S20.bring 1).cell 2 _ rfl
            have y3 := (S20.bring 1).cell 3 _ rfl
            have y4 := (S20.bring 1).cell 4 _ rfl
            have y5 := (S20.bring 1).cell 5 _ rfl
            have y6 := (S20.bring 1).cell 6 _ rfl
            have y7 := (S20.bring 1).cell 7 _ rfl
            have y8 := (S20.bring 1).cell 8 _ rfl
            have y9 := (S20.bring 1).cell 9 _ rfl
            have y10 := (S20.bring 1).cell 10 _ rfl
            have y11 := (S20.bring 1).cell 11 _ rfl
            have y12 := (S20.bring 1).cell 12 _ rfl
            have y13 := (S20.bring 1).cell 13 _ rfl
            have y14 := (S20.bring 1).cell 14 _ rfl
            have y15 := (S20.bring 1).cell 15 _ rfl
            have x0 := (S20.bring 6).cell 0 _ rfl
            have x1 := (S20.bring 6).cell 1 _ rfl
            have x2 := (S20.bring 6).cell 2 _ rfl
            have x3 := (S20.bring 6).cell 3 _ rfl
            have x4 := (S20.bring 6).cell 4 _ rfl
            have x5 := (S20.bring 6).cell 5 _ rfl
            have x6 := (S20.bring 6).cell 6 _ rfl
            have x7 := (S20.bring 6).cell 7 _ rfl
            go_wp2_with fail
            refine hA.mono ?_
            rintro e w17 ⟨rfl, S17⟩
            have HS := hide (Sat.keep_all S17.drop.drop.drop.drop.drop.drop.drop.drop.drop.drop)
            clear S20 S17 hA x0 x1 x2 x3 x4 x5 x6 x7 y0 y1 y2 y3 y4 y5 y6 y7 y8 y9 y10 y11 y12 y13 y14 y15
            go_wp2_with fail
            go_ret
            exact ⟨rfl, HS.out⟩
          · as_aux_lemma =>
            have x2 := (S16.bring 6).cell 2 _ rfl
            have xf := (S16.bring 6).cells_fz 2
            obtain ⟨rq2, hre⟩ : ∃ x, IntKind.i64.wrap (rq + 1) = x := ⟨_, rfl⟩
            have HNE : Hid (rq2 ≠ rq) := hide (hre ▸ wrap_ne rq)
            have S19 := (S16.bring 6).setc 2 (.int .i64 rq2)
            have S20 : Sat W _ (judgeA b m1 ss1 (k : Int) 0 :: cellsA ab 49 #[.int .i64 0, .int .i64 re, .int .i64 ra, .slice A4 outs.length c4, .int .i64 (k : Int), .string ⟨#[]⟩, .int .i64 0, .int .i64 0, .int .i64 0, .int .i64 0, .int .i64 0, .int .i64 0, .slice none 0 0, .slice none 0 0, .int .i64 (T.length : Int), .int .i64 0] :: cellsA kb 41 #[.int .i64 re, .int .i64 ra, .slice A4 outs.length c4, .int .i64 (k : Int)] :: rowA 109 2 (.slice A4 outs.length c4) outs.length (outs.flatMap outC) :: stateA sb sq :: stars ((ps.eraseIdx k).map stp) :: cellsA cb 35 #[.int .i64 kd, .int .i64 ses, .int .i64 rq2, .int .i64 nt, .slice A3 ops.length c3, .string (S pa), .bool ki, .bool oc] :: rowA 71 6 (.slice A3 ops.length c3) ops.length (ops.flatMap opC) :: rowA 9 1 (.slice (some adx) T.length c5) T.length (Ss T) :: jR (.slice (some adp) ps.length c6) ps :: [oldA W]) := ((((((S19.bring 6).bring 6).bring 6).bring 6).bring 6).bring 6)
            clear S19
            go_upto_region 33 with fail
            generalize w16.setCell ⟨cb, 2, none⟩ (.int .i64 rq2) = w20 at *
            clear S16 x2 xf hre
            have hA := answer_near S20 HJ1.out HSJ.out HTK.out (at_ := (T.length : Int)) (ah := 0) (kd := kd) (ses := ses) (nt := nt) (ops := ops) (pa := pa) (ki := ki) (oc := oc) (outs := outs) (n0 := .string ⟨#[]⟩) (n1 := .int .i64 0) (n2 := .int .i64 0) (n3 := .int .i64 0) (n4 := .int .i64 0) (n5 := .int .i64 0) (n6 := .int .i64 0) (kv := .slice none 0 0) (ev := .slice none 0 0) (ld := .int .i64 0) (e2 := re) (a2 := ra) (rq := rq2) (show rowA 71 6 (.slice A3 ops.length c3) ops.length (ops.flatMap opC) ∈ _ by simp) (show rowA 109 2 (.slice A4 outs.length c4) outs.length (outs.flatMap outC) ∈ _ by simp) HK1.out HK2.out (by omega) (by omega) (HFJ.out ses rq2)
            rw [answOk_cmd (c := ⟨kd, ses, rq, nt, ops, pa, ki, oc⟩) HRD.out (by intro h; injection h with h1 h2 h3; exact HNE.out h3.symm), if_neg (by simp)] at hA
            have y0 := (S20.bring 1).cell 0 _ rfl
            have y1 := (S20.bring 1).cell 1 _ rfl
            have y2 := (S20.bring 1).cell 2 _ rfl
            have y3 := (S20.bring 1).cell 3 _ rfl
            have y4 := (S20.bring 1).cell 4 _ rfl
            have y5 := (S20.bring 1).cell 5 _ rfl
            have y6 := (S20.bring 1).cell 6 _ rfl
            have y7 := (S20.bring 1).cell 7 _ rfl
            have y8 := (S20.bring 1).cell 8 _ rfl
            have y9 := (S20.bring 1).cell 9 _ rfl
            have y10 := (S20.bring 1).cell 10 _ rfl
            have y11 := (S20.bring 1).cell 11 _ rfl
            have y12 := (S20.bring 1).cell 12 _ rfl
            have y13 := (S20.bring 1).cell 13 _ rfl
            have y14 := (S20.bring 1).cell 14 _ rfl
            have y15 := (S20.bring 1).cell 15 _ rfl
            have x0 := (S20.bring 6).cell 0 _ rfl
            have x1 := (S20.bring 6).cell 1 _ rfl
            have x2 := (S20.bring 6).cell 2 _ rfl
            have x3 := (S20.bring 6).cell 3 _ rfl
            have x4 := (S20.bring 6).cell 4 _ rfl
            have x5 := (S20.bring 6).cell 5 _ rfl
            have x6 := (S20.bring 6).cell 6 _ rfl
            have x7 := (S20.bring 6).cell 7 _ rfl
            go_wp2_with fail
            refine hA.mono ?_
            rintro e w17 ⟨rfl, S17⟩
            have HS := hide (Sat.keep_all S17.drop.drop.drop.drop.drop.drop.drop.drop.drop.drop)
            clear S20 S17 hA x0 x1 x2 x3 x4 x5 x6 x7 y0 y1 y2 y3 y4 y5 y6 y7 y8 y9 y10 y11 y12 y13 y14 y15
            go_wp2_with fail
            go_ret
            exact ⟨rfl, HS.out⟩
end Go.Proofs.YtanlobdidjednaaGreatDoor
