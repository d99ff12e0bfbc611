/- The law StateOrders, walked. No condition. -/
import Derived.Test.YtbfogieeiobpdaaGreatDoorStOrC
set_option linter.unusedVariables false
set_option linter.unusedSimpArgs false
namespace Go.Proofs.YtbfogieeiobpdaaGreatDoor
open Go.RowKit

theorem say_take {s : StT} {cs : List CmdT} {j : Nat} {c : CmdT} (h : cs[j]? = some c) : sayS s (cs.take (j + 1)) = (applyC (sayS s (cs.take j)) c).2 := by
  obtain ⟨hk, e⟩ := List.getElem?_eq_some_iff.1 h
  rw [List.take_succ_eq_append_getElem hk, e, say_app]
  rfl
theorem say_at {W w : World} {L : List Asn} {b : Nat} (hG : GL W) {cs : List CmdT} (hR : ∀ c ∈ cs, cmdR c = true ∧ c.ops.length ≤ 1) (hl : cs.length ≤ 40) {j : Nat} {c : CmdT} (hc : cs[j]? = some c) (S0 : Sat W w (stateA b (sayS (openS 2) (cs.take j)) :: L)) (hm : oldA W ∈ L) :
    Calls Tryz.prog 23 #[ptr b, .string (S (bytesF c).1)] w fun e w' => ∃ (x1 x2 x4 : Int) (x3 : List OutT) (A : Option Addr) (cap : Nat), e = .returned (.agg #[.int .i64 x1, .int .i64 x2, .slice A x3.length cap, .int .i64 x4]) ∧ Sat W w' (stateA b (sayS (openS 2) (cs.take (j + 1))) :: L) := by
  have hj := (List.getElem?_eq_some_iff.1 hc).1
  have hrun := say_run (cs.take j) (openS_run 2 (by omega)) (fun c' h' => hR c' (List.mem_of_mem_take h')) (by have := List.length_take_le j cs; omega) (by have := List.length_take_le j cs; omega)
  have hjl := List.length_take_le j cs
  obtain ⟨h1, h2⟩ := hR c (List.mem_of_getElem? hc)
  refine (s_say3 S0 hG hm hrun (by omega) (by omega) h1 h2).mono ?_
  rintro e w' ⟨x1, x2, x4, x3, A, cap, rfl, S1⟩
  refine ⟨x1, x2, x4, x3, A, cap, rfl, ?_⟩
  rw [say_take hc]
  exact S1.drop
theorem ones_S (l : List (List UInt8)) : ∀ u ∈ Ss l, u.oneCell' = true := by
  intro u hu
  obtain ⟨s, _, rfl⟩ := List.mem_map.1 hu
  rfl
theorem Ss_app (a b : List (List UInt8)) : Ss (a ++ b) = Ss a ++ Ss b := by simp [Ss]
theorem textB_app (a b : List CmdT) : textB (a ++ b) = textB a ++ textB b := by simp [textB]
theorem textB_at {cs : List CmdT} {j : Nat} {t : List UInt8} (h : (textB cs)[j]? = some t) : ∃ c, cs[j]? = some c ∧ t = (bytesF c).1 := by
  unfold textB at h
  rw [List.getElem?_map] at h
  cases hc : cs[j]? with
  | none => rw [hc] at h; cases h
  | some c => rw [hc] at h; exact ⟨c, rfl, by injection h with h; exact h.symm⟩
theorem or_get (la lb : List (List UInt8)) (ha : la.length ≤ 8) (hb : lb.length ≤ 8) (p : List UInt8) (hp : p = P1 ∨ p = P2) :
    ∃ n m, getF (sayS (openS 2) (orL 1 P1 la ++ orL 2 P2 lb)).tree p = (n, 0) ∧ getF (sayS (openS 2) (orL 2 P2 lb ++ orL 1 P1 la)).tree p = (m, 0) ∧ m.data = n.data ∧ m.version = n.version ∧ m.below = n.below := by
  have h1 := or_xy la lb ha hb
  have h2 := or_yx la lb ha hb
  rcases hp with rfl | rfl
  · obtain ⟨n, g1, g2, g3, g4⟩ := h1.np.get p1_ok.chk
    obtain ⟨m, k1, k2, k3, k4⟩ := h2.np.get p1_ok.chk
    exact ⟨n, m, g1, k1, by rw [g2, k2], by rw [g3, k3], by rw [g4, k4]⟩
  · obtain ⟨n, g1, g2, g3, g4⟩ := h1.nq.get p2_ok.chk
    obtain ⟨m, k1, k2, k3, k4⟩ := h2.nq.get p2_ok.chk
    exact ⟨n, m, g1, k1, by rw [g2, k2], by rw [g3, k3], by rw [g4, k4]⟩

theorem or_fin (la lb : List (List UInt8)) (ha : la.length ≤ 8) (hb : lb.length ≤ 8) :
    (sayS (openS 2) (orL 1 P1 la ++ orL 2 P2 lb)).tree.length = 3 ∧ (sayS (openS 2) (orL 2 P2 lb ++ orL 1 P1 la)).tree.length = 3 ∧ (sayS (openS 2) (orL 2 P2 lb ++ orL 1 P1 la)).at_ = (sayS (openS 2) (orL 1 P1 la ++ orL 2 P2 lb)).at_ := by
  have hR1 : ∀ c ∈ (orL 1 P1 la ++ orL 2 P2 lb), cmdR c = true ∧ c.ops.length ≤ 1 := fun c hc => (List.mem_append.1 hc).elim (fun h => orL_R _ _ (by decide) (by decide) _ (by omega) c h) (fun h => orL_R _ _ (by decide) (by decide) _ (by omega) c h)
  have hR2 : ∀ c ∈ (orL 2 P2 lb ++ orL 1 P1 la), cmdR c = true ∧ c.ops.length ≤ 1 := fun c hc => (List.mem_append.1 hc).elim (fun h => orL_R _ _ (by decide) (by decide) _ (by omega) c h) (fun h => orL_R _ _ (by decide) (by decide) _ (by omega) c h)
  have l1 : (orL 1 P1 la ++ orL 2 P2 lb).length = la.length + 1 + (lb.length + 1) := by simp [orL_len]
  have l2 : (orL 2 P2 lb ++ orL 1 P1 la).length = lb.length + 1 + (la.length + 1) := by simp [orL_len]
  have r1 := (say_run (orL 1 P1 la ++ orL 2 P2 lb) (openS_run 2 (by omega)) hR1 (by omega) (by omega)).at_
  have r2 := (say_run (orL 2 P2 lb ++ orL 1 P1 la) (openS_run 2 (by omega)) hR2 (by omega) (by omega)).at_
  exact ⟨(or_xy la lb ha hb).len, (or_yx la lb ha hb).len, by rw [r1, r2, l1, l2]; omega⟩

set_option maxRecDepth 100000 in
set_option maxHeartbeats 16000000 in
theorem orders_walk (W : World) (hG : GL W) (A0 A1 : Option Addr) (la lb : List (List UInt8)) (c0 c1 : Nat) (hs : Src W 1 A0 la.length (Ss la)) (hl : la.length ≤ 9223372036854775807) (hs2 : Src W 1 A1 lb.length (Ss lb)) (hl2 : lb.length ≤ 9223372036854775807) :
    Calls Tryz.prog 6 #[.slice A0 la.length c0, .slice A1 lb.length c1] W fun e w' => e = .returned (.bool true) ∧ Keeps (fun _ => False) W w' := by
  have HGL : Hid (GL W) := hide hG
  have HS1 := hide hs
  have HS2 := hide hs2
  clear hs hs2
  go_enter Tryz.func6, Tryz.ntmps6
  go_wp2_with fail
  refine (head_state (Sat.start W) hG (by simp)).mono ?_
  rintro e w0 ⟨rfl, S0⟩
  clear hG
  by_cases ha : 8 < la.length
  · have ha1 : (8 : Int) < (la.length : Int) := by omega
    have HK := hide S0.keep_all
    clear S0
    go_wp2_with fail
    go_ret
    exact ⟨rfl, HK.out⟩
  have ha1 : ¬ (8 : Int) < (la.length : Int) := by omega
  by_cases hb : 8 < lb.length
  · have hb1 : (8 : Int) < (lb.length : Int) := by omega
    have HK := hide S0.keep_all
    clear S0
    go_wp2_with fail
    go_ret
    exact ⟨rfl, HK.out⟩
  have hb1 : ¬ (8 : Int) < (lb.length : Int) := by omega
  go_wp2_with fail
  refine (opened_state S0 HGL.out (by simp) 2 (by omega)).mono ?_
  rintro e w1 ⟨b1, rfl, S1⟩
  clear S0
  go_wp2_with fail
  refine (opened_state S1 HGL.out (by simp) 2 (by omega)).mono ?_
  rintro e w2 ⟨b2, rfl, S2⟩
  clear S1
  go_wp2_with fail
  refine (cmds_state S2 (by simp) 1 (by omega) A0 la c0 HS1.out (by omega)).mono ?_
  rintro e w3 ⟨vx, rfl, S3⟩
  obtain ⟨AX, cx, rfl, -⟩ := S3.row.form
  obtain ⟨adx, rfl, -⟩ := (Sat.srcT S3).2 (by omega)
  clear S2
  go_wp2_with fail
  refine (cmds_state S3 (by simp) 2 (by omega) A1 lb c1 HS2.out (by omega)).mono ?_
  rintro e w4 ⟨vy, rfl, S4⟩
  obtain ⟨AY, cy, rfl, -⟩ := S4.row.form
  obtain ⟨ady, rfl, -⟩ := (Sat.srcT S4).2 (by omega)
  have S5 : Sat W w4 (rowA 9 1 (.slice (some ady) (lb.length + 1) cy) (lb.length + 1) (Ss (textB (orL 2 P2 lb))) :: rowA 9 1 (.slice (some adx) (la.length + 1) cx) (la.length + 1) (Ss (textB (orL 1 P1 la))) :: stateA b2 (openS 2) :: stateA b1 (openS 2) :: [oldA W]) := S4
  clear S3 S4
  have HGET : Hid (∀ p, p = P1 ∨ p = P2 → ∃ n m, getF (sayS (openS 2) (orL 1 P1 la ++ orL 2 P2 lb)).tree p = (n, 0) ∧ getF (sayS (openS 2) (orL 2 P2 lb ++ orL 1 P1 la)).tree p = (m, 0) ∧ m.data = n.data ∧ m.version = n.version ∧ m.below = n.below) := hide (or_get la lb (by omega) (by omega))
  have HFIN : Hid ((sayS (openS 2) (orL 1 P1 la ++ orL 2 P2 lb)).tree.length = 3 ∧ (sayS (openS 2) (orL 2 P2 lb ++ orL 1 P1 la)).tree.length = 3 ∧ (sayS (openS 2) (orL 2 P2 lb ++ orL 1 P1 la)).at_ = (sayS (openS 2) (orL 1 P1 la ++ orL 2 P2 lb)).at_) := hide (or_fin la lb (by omega) (by omega))
  have S16 := (S5.box #[] 9 rfl).rowOf 1 0 rfl (Nat.zero_le _)
  have HC1 : Hid ((orL 1 P1 la ++ orL 2 P2 lb).length = la.length + 1 + (lb.length + 1)) := hide (by simp [orL_len])
  have HR1 : Hid (∀ c ∈ (orL 1 P1 la ++ orL 2 P2 lb), cmdR c = true ∧ c.ops.length ≤ 1) := hide (fun c hc => (List.mem_append.1 hc).elim (fun h => orL_R _ _ (by decide) (by decide) _ (by omega) c h) (fun h => orL_R _ _ (by decide) (by decide) _ (by omega) c h))
  have HXY1 : Hid (Ss (textB (orL 1 P1 la)) ++ Ss (textB (orL 2 P2 lb)) = Ss (textB (orL 1 P1 la ++ orL 2 P2 lb))) := hide (by rw [textB_app, Ss_app])
  go_wp2_with (first
    | (at_builtin; refine wpList_sapp slStr rfl (.tmp 38) (.tmp 39) rfl (g := W) (S := S16) rfl (Sat.srcT (Sat.bring S16 2)) rfl (ones_S _) (by unfold maxLen; omega) (by omega) ?_; intro A17 c17 w17 S17; simp only [Nat.zero_add, List.nil_append] at S17)
    | (at_builtin; refine wpList_sapp slStr rfl (.tmp 40) (.tmp 41) rfl (g := W) (S := S17) rfl (Sat.srcT (Sat.bring S17 1)) rfl (ones_S _) (by unfold maxLen; omega) (by omega) ?_; intro A18 c18 w18 S18))
  generalize (orL 1 P1 la ++ orL 2 P2 lb) = cs1 at *
  rw [HXY1.out, ← HC1.out] at S18
  have S19 : Sat W w18 (rowA 9 1 (.slice A18 cs1.length c18) cs1.length (Ss (textB cs1)) :: stateA b1 (sayS (openS 2) (cs1.take 0)) :: rowA 9 1 (.slice (some ady) (lb.length + 1) cy) (lb.length + 1) (Ss (textB (orL 2 P2 lb))) :: rowA 9 1 (.slice (some adx) (la.length + 1) cx) (la.length + 1) (Ss (textB (orL 1 P1 la))) :: stateA b2 (openS 2) :: [oldA W]) := ((S18.bring 4).bring 1)
  have hcl1 : cs1.length ≤ 18 := by have := HC1.out; omega
  clear S5 S16 S17 S18
  go_wp2_with fail
  go_loopw [44] (fun i wr => ∃ j : Nat, j ≤ cs1.length ∧ i = .int .i64 (j : Int) ∧ Sat W wr (rowA 9 1 (.slice A18 cs1.length c18) cs1.length (Ss (textB cs1)) :: stateA b1 (sayS (openS 2) (cs1.take j)) :: rowA 9 1 (.slice (some ady) (lb.length + 1) cy) (lb.length + 1) (Ss (textB (orL 2 P2 lb))) :: rowA 9 1 (.slice (some adx) (la.length + 1) cx) (la.length + 1) (Ss (textB (orL 1 P1 la))) :: stateA b2 (openS 2) :: [oldA W])) (fun i _ => cs1.length - (RowKit.intOf i).toNat)
  case atStart => exact ⟨0, by omega, rfl, S19⟩
  case round =>
    obtain ⟨j, hj, rfl, S1a⟩ := hrel
    clear S19
    by_cases hlt : j < cs1.length
    · have hj0 : (0 : Int) ≤ (j : Int) := by omega
      have hcc := HC1.out
      have hj1 : (j : Int) < (la.length : Int) + 1 + ((lb.length : Int) + 1) := by omega
      clear hcc
      obtain ⟨ad, tx, rfl, htx, d0⟩ := str_at (Sat.srcT S1a) hlt
      obtain ⟨cm, hcm, rfl⟩ := textB_at htx
      have HSA : Hid (∀ (w' : World) (L' : List Asn), Sat W w' (stateA b1 (sayS (openS 2) (cs1.take j)) :: L') → oldA W ∈ L' → Calls Tryz.prog 23 #[ptr b1, .string (S (bytesF cm).1)] w' fun e w2 => ∃ (x1 x2 x4 : Int) (x3 : List OutT) (A : Option Addr) (cap : Nat), e = .returned (.agg #[.int .i64 x1, .int .i64 x2, .slice A x3.length cap, .int .i64 x4]) ∧ Sat W w2 (stateA b1 (sayS (openS 2) (cs1.take (j + 1))) :: L')) := hide fun w' L' S' h => say_at HGL.out HR1.out (by omega) hcm S' h
      generalize (bytesF cm).1 = tx at *
      generalize sayS (openS 2) (cs1.take j) = sj at *
      clear hcm htx
      go_wp2_with fail
      refine (HSA.out _ _ (Sat.bring S1a 1) (by simp [bringA])).mono ?_
      rintro e w1b ⟨x1, x2, x4, x3, A, cap, rfl, S1b⟩
      clear S1a HSA d0
      go_wp2_with fail
      go_roundw
      case rel => exact ⟨j + 1, by omega, by go_num, Sat.bring S1b 1⟩
      case measure => simp [RowKit.intOf]; omega
    · obtain rfl : j = cs1.length := by omega
      rw [List.take_length] at S1a
      have hcc := HC1.out
      have hj1 : ¬ (cs1.length : Int) < (la.length : Int) + 1 + ((lb.length : Int) + 1) := by omega
      clear hcc
      have S20 : Sat W wr (rowA 9 1 (.slice (some ady) (lb.length + 1) cy) (lb.length + 1) (Ss (textB (orL 2 P2 lb))) :: rowA 9 1 (.slice (some adx) (la.length + 1) cx) (la.length + 1) (Ss (textB (orL 1 P1 la))) :: stateA b2 (openS 2) :: stateA b1 (sayS (openS 2) cs1) :: [oldA W]) := (((S1a.drop.bring 3).bring 3).bring 3)
      clear S1a
      have S26 := (S20.box #[] 9 rfl).rowOf 1 0 rfl (Nat.zero_le _)
      have HC2 : Hid ((orL 2 P2 lb ++ orL 1 P1 la).length = lb.length + 1 + (la.length + 1)) := hide (by simp [orL_len])
      have HR2 : Hid (∀ c ∈ (orL 2 P2 lb ++ orL 1 P1 la), cmdR c = true ∧ c.ops.length ≤ 1) := hide (fun c hc => (List.mem_append.1 hc).elim (fun h => orL_R _ _ (by decide) (by decide) _ (by omega) c h) (fun h => orL_R _ _ (by decide) (by decide) _ (by omega) c h))
      have HXY2 : Hid (Ss (textB (orL 2 P2 lb)) ++ Ss (textB (orL 1 P1 la)) = Ss (textB (orL 2 P2 lb ++ orL 1 P1 la))) := hide (by rw [textB_app, Ss_app])
      go_wp2_with (first
        | (at_builtin; refine wpList_sapp slStr rfl (.tmp 52) (.tmp 53) rfl (g := W) (S := S26) rfl (Sat.srcT (Sat.bring S26 1)) rfl (ones_S _) (by unfold maxLen; omega) (by omega) ?_; intro A27 c27 w27 S27; simp only [Nat.zero_add, List.nil_append] at S27)
        | (at_builtin; refine wpList_sapp slStr rfl (.tmp 54) (.tmp 55) rfl (g := W) (S := S27) rfl (Sat.srcT (Sat.bring S27 2)) rfl (ones_S _) (by unfold maxLen; omega) (by omega) ?_; intro A28 c28 w28 S28))
      generalize (orL 2 P2 lb ++ orL 1 P1 la) = cs2 at *
      rw [HXY2.out, ← HC2.out] at S28
      have S29 : Sat W w28 (rowA 9 1 (.slice A28 cs2.length c28) cs2.length (Ss (textB cs2)) :: stateA b2 (sayS (openS 2) (cs2.take 0)) :: rowA 9 1 (.slice (some ady) (lb.length + 1) cy) (lb.length + 1) (Ss (textB (orL 2 P2 lb))) :: rowA 9 1 (.slice (some adx) (la.length + 1) cx) (la.length + 1) (Ss (textB (orL 1 P1 la))) :: stateA b1 (sayS (openS 2) cs1) :: [oldA W]) := ((S28.bring 3).bring 1)
      have hcl2 : cs2.length ≤ 18 := by have := HC2.out; omega
      clear S20 S26 S27 S28
      go_wp2_with fail
      go_loopw [58] (fun i wr => ∃ j : Nat, j ≤ cs2.length ∧ i = .int .i64 (j : Int) ∧ Sat W wr (rowA 9 1 (.slice A28 cs2.length c28) cs2.length (Ss (textB cs2)) :: stateA b2 (sayS (openS 2) (cs2.take j)) :: rowA 9 1 (.slice (some ady) (lb.length + 1) cy) (lb.length + 1) (Ss (textB (orL 2 P2 lb))) :: rowA 9 1 (.slice (some adx) (la.length + 1) cx) (la.length + 1) (Ss (textB (orL 1 P1 la))) :: stateA b1 (sayS (openS 2) cs1) :: [oldA W])) (fun i _ => cs2.length - (RowKit.intOf i).toNat)
      case atStart => exact ⟨0, by omega, rfl, S29⟩
      case round =>
        obtain ⟨j, hj, rfl, S2a⟩ := hrel
        clear S29
        by_cases hlt : j < cs2.length
        · have hj0 : (0 : Int) ≤ (j : Int) := by omega
          have hcc := HC2.out
          have hj1 : (j : Int) < (lb.length : Int) + 1 + ((la.length : Int) + 1) := by omega
          clear hcc
          obtain ⟨ad, tx, rfl, htx, d0⟩ := str_at (Sat.srcT S2a) hlt
          obtain ⟨cm, hcm, rfl⟩ := textB_at htx
          have HSA : Hid (∀ (w' : World) (L' : List Asn), Sat W w' (stateA b2 (sayS (openS 2) (cs2.take j)) :: L') → oldA W ∈ L' → Calls Tryz.prog 23 #[ptr b2, .string (S (bytesF cm).1)] w' fun e w2 => ∃ (x1 x2 x4 : Int) (x3 : List OutT) (A : Option Addr) (cap : Nat), e = .returned (.agg #[.int .i64 x1, .int .i64 x2, .slice A x3.length cap, .int .i64 x4]) ∧ Sat W w2 (stateA b2 (sayS (openS 2) (cs2.take (j + 1))) :: L')) := hide fun w' L' S' h => say_at HGL.out HR2.out (by omega) hcm S' h
          generalize (bytesF cm).1 = tx at *
          generalize sayS (openS 2) (cs2.take j) = sj at *
          clear hcm htx
          go_wp2_with fail
          refine (HSA.out _ _ (Sat.bring S2a 1) (by simp [bringA])).mono ?_
          rintro e w2b ⟨x1, x2, x4, x3, A, cap, rfl, S2b⟩
          clear S2a HSA d0
          go_wp2_with fail
          go_roundw
          case rel => exact ⟨j + 1, by omega, by go_num, Sat.bring S2b 1⟩
          case measure => simp [RowKit.intOf]; omega
        · obtain rfl : j = cs2.length := by omega
          rw [List.take_length] at S2a
          have hcc := HC2.out
          have hj1 : ¬ (cs2.length : Int) < (lb.length : Int) + 1 + ((la.length : Int) + 1) := by omega
          clear hcc
          have S30 : Sat W wr (stateA b1 (sayS (openS 2) cs1) :: stateA b2 (sayS (openS 2) cs2) :: [oldA W]) := (((S2a.drop.bring 1).drop.bring 1).drop.bring 1)
          clear S2a
          generalize sayS (openS 2) cs1 = sS at *
          generalize sayS (openS 2) cs2 = sT at *
          have S31 := S30.box #[.string ⟨#[47, 115, 49]⟩, .string ⟨#[47, 115, 50]⟩] 9 rfl
          clear S30
          go_wp2_with fail
          generalize wr.alloc (.cells #[.string ⟨#[47, 115, 49]⟩, .string ⟨#[47, 115, 50]⟩] 9) = w31 at *
          generalize wr.heap.size = ps at *
          go_loopw [68] (fun i wx => ∃ k : Nat, k ≤ 2 ∧ i = .int .i64 (k : Int) ∧ Sat W wx (cellsA ps 9 #[.string ⟨#[47, 115, 49]⟩, .string ⟨#[47, 115, 50]⟩] :: stateA b1 sS :: stateA b2 sT :: [oldA W])) (fun i _ => 2 - (RowKit.intOf i).toNat)
          case atStart => exact ⟨0, by omega, rfl, S31⟩
          case round =>
            obtain ⟨k, hk, rfl, S32⟩ := hrel
            clear S31
            by_cases hlt3 : k < 2
            · have hk0 : (0 : Int) ≤ (k : Int) := by omega
              have hk1 : (k : Int) < 2 := by omega
              obtain ⟨p, hp, d0⟩ : ∃ p, (p = P1 ∨ p = P2) ∧ wr.cell? ⟨ps, k, none⟩ = some (.string (S p)) := by
                rcases (show k = 0 ∨ k = 1 by omega) with rfl | rfl
                · exact ⟨P1, .inl rfl, S32.cell 0 _ rfl⟩
                · exact ⟨P2, .inr rfl, S32.cell 1 _ rfl⟩
              have hpl : p.length ≤ 60 := by rcases hp with rfl | rfl <;> decide
              obtain ⟨⟨n1, n2, n3, n4, n5, n6, n7⟩, ⟨m1, m2, m3, m4, m5, m6, m7⟩, g1, g2, e1, e2, e3⟩ := HGET.out p hp
              simp only at e1 e2 e3
              replace e1 := e1.symm
              replace e2 := e2.symm
              replace e3 := e3.symm
              subst e1 e2 e3
              clear hp
              obtain ⟨t, ts, bk, S33⟩ := (S32.bring 1).stateOpen
              have q0 := S33.cell 0 _ rfl
              have hgt := get_tree (S33.bring 1) (HGL.out.at S33 (by simp)) p (by omega)
              rw [g1] at hgt
              have HGS := hide g2
              clear g1 g2 S32
              go_wp2_with fail
              refine hgt.mono ?_
              rintro e w34 ⟨rfl, S34⟩
              have S35 := S34.box #[.string (S n1), .int .i64 n2, .int .i64 n3, .int .i64 n4, .int .i64 n5, .int .i64 n6, .int .i64 n7] 64 rfl
              go_upto_region 24 with fail
              generalize w34.alloc (.cells #[.string (S n1), .int .i64 n2, .int .i64 n3, .int .i64 n4, .int .i64 n5, .int .i64 n6, .int .i64 n7] 64) = w35 at *
              generalize w34.heap.size = na at *
              have S36 : Sat W w35 (stateA b1 sS :: cellsA na 64 #[.string (S n1), .int .i64 n2, .int .i64 n3, .int .i64 n4, .int .i64 n5, .int .i64 n6, .int .i64 n7] :: cellsA ps 9 #[.string ⟨#[47, 115, 49]⟩, .string ⟨#[47, 115, 50]⟩] :: stateA b2 sT :: [oldA W]) := Sat.stateShut (((((S35.bring 4).bring 4).bring 3).bring 4))
              clear S33 S34 S35 q0 hgt
              obtain ⟨t2, ts2, bk2, S37⟩ := (S36.bring 3).stateOpen
              have q0 := S37.cell 0 _ rfl
              have hgt := get_tree (S37.bring 1) (HGL.out.at S37 (by simp [bringA])) p (by omega)
              rw [HGS.out] at hgt
              clear S36 HGS
              go_wp2_with fail
              refine hgt.mono ?_
              rintro e w38 ⟨rfl, S38⟩
              have S39 := S38.box #[.string (S n1), .int .i64 n2, .int .i64 n3, .int .i64 m4, .int .i64 m5, .int .i64 m6, .int .i64 m7] 64 rfl
              go_upto_region 25 with fail
              generalize w38.alloc (.cells #[.string (S n1), .int .i64 n2, .int .i64 n3, .int .i64 m4, .int .i64 m5, .int .i64 m6, .int .i64 m7] 64) = w39 at *
              generalize w38.heap.size = nb at *
              have S40 : Sat W w39 (stateA b2 sT :: cellsA nb 64 #[.string (S n1), .int .i64 n2, .int .i64 n3, .int .i64 m4, .int .i64 m5, .int .i64 m6, .int .i64 m7] :: stateA b1 sS :: cellsA na 64 #[.string (S n1), .int .i64 n2, .int .i64 n3, .int .i64 n4, .int .i64 n5, .int .i64 n6, .int .i64 n7] :: cellsA ps 9 #[.string ⟨#[47, 115, 49]⟩, .string ⟨#[47, 115, 50]⟩] :: [oldA W]) := Sat.stateShut (((((S39.bring 4).bring 4).bring 3).bring 4))
              have a0 := (S40.bring 3).cell 0 _ rfl
              have a1 := (S40.bring 3).cell 1 _ rfl
              have a2 := (S40.bring 3).cell 2 _ rfl
              have z0 := (S40.bring 1).cell 0 _ rfl
              have z1 := (S40.bring 1).cell 1 _ rfl
              have z2 := (S40.bring 1).cell 2 _ rfl
              clear S37 S38 S39 q0 hgt
              go_wp2_with fail
              go_roundw
              case rel => exact ⟨k + 1, by omega, by go_num, ((((S40.bring 1).drop.bring 2).drop.bring 1).bring 2)⟩
              case measure => simp [RowKit.intOf]; omega
            · obtain rfl : k = 2 := by omega
              obtain ⟨f1, f2, f3⟩ := HFIN.out
              obtain ⟨t, ts, bk, S33⟩ := (S32.bring 1).stateOpen
              have q0 := S33.cell 0 _ rfl
              have hl1 := len_tree (S33.bring 1)
              rw [f1] at hl1
              clear S32
              go_wp2_with fail
              refine hl1.mono ?_
              rintro e w34 ⟨rfl, S34⟩
              have S36 : Sat W w34 (stateA b1 sS :: stateA b2 sT :: [oldA W]) := Sat.stateShut (((S34.bring 4).drop.bring 1))
              clear S33 S34 q0 hl1
              obtain ⟨t2, ts2, bk2, S37⟩ := (S36.bring 1).stateOpen
              have q0 := S37.cell 0 _ rfl
              have hl1 := len_tree (S37.bring 1)
              rw [f2] at hl1
              clear S36
              go_wp2_with fail
              refine hl1.mono ?_
              rintro e w38 ⟨rfl, S38⟩
              have S40 : Sat W w38 (stateA b2 sT :: stateA b1 sS :: [oldA W]) := Sat.stateShut ((S38.bring 1))
              clear S37 S38 q0 hl1
              have hat1 := s_atst (S40.bring 1)
              go_wp2_with fail
              refine hat1.mono ?_
              rintro e w41 ⟨rfl, S41⟩
              clear S40 hat1
              have hat2 := s_atst (S41.bring 1)
              rw [f3] at hat2
              go_wp2_with fail
              refine hat2.mono ?_
              rintro e w42 ⟨rfl, S42⟩
              have HK := hide (Sat.keep_all (W := W) (L := []) S42.drop.drop)
              clear S41 S42 hat2
              go_wp2_with fail
              go_ret
              exact ⟨by first | rfl | simp, HK.out⟩
end Go.Proofs.YtbfogieeiobpdaaGreatDoor
