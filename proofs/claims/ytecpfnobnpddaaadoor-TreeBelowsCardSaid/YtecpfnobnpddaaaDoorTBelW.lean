/- The law TreeBelows, walked. No condition. -/
import Derived.Test.YtecpfnobnpddaaaDoorTBel
set_option linter.unusedVariables false
set_option linter.unusedSimpArgs false
namespace Go.Proofs.YtecpfnobnpddaaaDoor
open Go.RowKit

theorem findF_in {M : TreeT} {p : List UInt8} (h : p ∈ keys M) : 0 ≤ findF M p := by
  unfold findF
  rw [if_pos h]
  omega
theorem findF_out {M : TreeT} {p : List UInt8} (h : p ∉ keys M) : findF M p = -1 := by
  unfold findF
  rw [if_neg h]

set_option maxRecDepth 100000 in
set_option maxHeartbeats 16000000 in
theorem tbelow_walk (W : World) (hG : GL W) (A B : Option Addr) (acts : List ActT) (ps : List Int) (c c2 : Nat) (hs : ActsT W A acts) (hl : acts.length ≤ 9223372036854775807) (hg : ∀ x ∈ acts, x.raw.length ≤ 9223372036854775807 ∧ x.data.length ≤ 9223372036854775807)
    (hp : Src W 1 B ps.length (Is ps)) (hpl : ps.length ≤ 9223372036854775807) :
    Calls Tryd.prog 7 #[.slice A acts.length c, .slice B ps.length c2] W fun e w' => e = .returned (.bool true) ∧ Keeps (fun _ => False) W w' := by
  have HSRC : Hid (∀ {w : World} {L : List Asn}, Sat W w L → oldA W ∈ L → ActsT w A acts) := fun S hm => hs.of S hm
  have HPS : Hid (∀ {w : World} {L : List Asn}, Sat W w L → oldA W ∈ L → Src w 1 B ps.length (Is ps)) := fun S hm => hp.keepB (by decide) (S.keepsOf hm) (fun k hk h => by omega)
  have HS0 := hide hs
  have HFEW := hide (fun h => fewT_out (xs := acts) h)
  have HF : Hid (∀ w, ActsT w A acts → Calls Tryd.prog 26 #[.slice A acts.length c] w fun e w' => e = .returned (.bool (fewT acts)) ∧ Keeps (fun _ => False) w w') := fun w h => few_tacts w A c acts h hl hg
  have HGL : Hid (GL W) := hG
  generalize fewT acts = fw at *
  clear hs hg hp
  go_enter Tryd.func7, Tryd.ntmps7
  go_wp2_with fail
  refine (head_tree (Sat.start W) hG (by simp)).mono ?_
  rintro e w0 ⟨rfl, S0⟩
  clear hG
  go_wp2_with fail
  refine (HF.out _ (HSRC.out S0 (by simp))).mono ?_
  rintro e w1 ⟨rfl, hk1⟩
  have S1 := S0.keep hk1
  clear S0 hk1 HF
  cases fw
  · have HK := hide S1.keep_all
    clear S1
    go_wp2_with fail
    go_ret
    exact ⟨rfl, HK.out⟩
  obtain ⟨hall, h40⟩ := HFEW.out rfl
  have HALL := hide hall
  clear hall HFEW
  by_cases h4 : 4 < ps.length
  · have h4b : (4 : Int) < (ps.length : Int) := by omega
    have HK := hide S1.keep_all
    clear S1
    go_wp2_with fail
    go_ret
    exact ⟨rfl, HK.out⟩
  have h4b : ¬ (4 : Int) < (ps.length : Int) := by omega
  go_wp2_with fail
  refine (new_tree S1).mono ?_
  rintro e w2 ⟨t, rfl, S2⟩
  go_wp2_with fail
  refine (new_mod S2).mono ?_
  rintro e w3 ⟨mb, rfl, S3⟩
  have S4 : Sat W w3 (treeA t rootT :: modA mb rootT :: [oldA W]) := S3.p1
  have hmd := made_path w3 B ps c2 (HPS.out S4 (by simp)) (by omega)
  have hpl2 := madeP_le ps
  have hpc := made_check ps (by omega)
  have HPC := hide hpc
  have HINIT : Hid (∀ v, mget rootT (madeP ps) = some v → v.below = 0) := hide fun v hv => by
    simp only [rootT, mget_consT] at hv
    split at hv
    · obtain rfl := Option.some.inj hv; rfl
    · cases hv
  clear S1 S2 S3 HPS hpc
  generalize madeP ps = p at *
  go_wp2_with fail
  refine hmd.mono ?_
  rintro e w4 ⟨rfl, hk4⟩
  have S5 := S4.keep hk4
  clear S4 hk4 hmd
  go_wp2_with fail
  go_loopw [8, 31] (fun u i wr => ∃ k : Nat, k ≤ acts.length ∧ i = .int .i64 k ∧ ∃ (T M : TreeT) (cnt : Int), u = .int .i64 cnt ∧ 0 ≤ cnt ∧ cnt ≤ k ∧ Mod T M k ∧ (∀ v, mget M p = some v → v.below = cnt) ∧ Sat W wr (treeA t T :: modA mb M :: [oldA W])) (fun _ i _ => acts.length - (RowKit.intOf i).toNat)
  case atStart => exact ⟨0, by omega, rfl, _, _, 0, rfl, by omega, by omega, Mod.start, HINIT.out, S5⟩
  case round =>
    obtain ⟨k, hk, rfl, T, M, cnt, rfl, hc0, hc1, hmod, hbel, S6⟩ := hrel
    clear S5 HINIT
    by_cases hlt : k < acts.length
    · have hk0 : (0 : Int) ≤ (k : Int) := by omega
      have hk1 : (k : Int) < (acts.length : Int) := by omega
      obtain ⟨ad, x, rfl, hx, d0, d1, d2, d3, d4, d5, d6⟩ := tact_at (HSRC.out S6 (by simp)).1 hlt
      have hmem := List.mem_of_getElem? hx
      have hps := HS0.out.2 x hmem
      have hsm := HALL.out x hmem
      obtain ⟨hans, hmod2⟩ := hmod.do_ (by omega) x ((k : Int) + 1) (by omega)
      obtain ⟨hb1, hb2⟩ := hmod.below (by omega) x ((k : Int) + 1) p
      have hlM := hmod.len
      have HDO : Hid (∀ (w' : World) (L' : List Asn), Sat W w' (treeA t T :: modA mb M :: L') → oldA W ∈ L' → Calls Tryd.prog 31 #[ptr t, ptr mb, actTV x, .int .i64 ((k : Int) + 1)] w' fun e w2 => e = .returned (.bool true) ∧ Sat W w2 (treeA t (doT T x ((k : Int) + 1)) :: modA mb (doM M x ((k : Int) + 1)) :: L')) := hide fun w' L' S' hm => by
        have := do_tree S' HGL.out hm hmod hmod (by omega) (by omega) x hps hsm ((k : Int) + 1)
        rwa [hans, decide_eq_true rfl] at this
      have HKB : Hid (∀ (w' : World) (L' : List Asn), Sat W w' (modA mb M :: L') → Calls Tryd.prog 29 #[ptr mb, .string (S p)] w' fun e w2 => ∃ v, e = .returned v ∧ Sat W w2 (rowA 9 1 v (kidM M p).length (Ss (kidM M p)) :: modA mb M :: L')) := hide fun w' L' S' => kids_mod S' (by omega) hmod.paths p
      have HFB : Hid (∀ (w' : World) (L' : List Asn), Sat W w' (modA mb M :: L') → Calls Tryd.prog 30 #[ptr mb, .string (S p)] w' fun e w2 => e = .returned (.int .i64 (findF M p)) ∧ Sat W w2 (modA mb M :: L')) := hide fun w' L' S' => find_mod S' (by omega) p
      have HIN : Hid (p ∈ keys M → 0 ≤ findF M p) := hide findF_in
      have HOUT : Hid (p ∉ keys M → findF M p = -1) := hide findF_out
      have hkl := kidM_le M p
      have HB : Hid (∀ v', mget (doM M x ((k : Int) + 1)) p = some v' → (p ∉ keys M → v'.below = 0) ∧ (p ∈ keys M → v'.below = cnt + if (kidM (doM M x ((k : Int) + 1)) p).length = (kidM M p).length then 0 else 1)) := hide fun v' hv => ⟨fun h => hb1 h v' hv, fun h => by
        obtain ⟨v, hv0⟩ := mem_keys_mget.1 h
        rw [hb2 v v' hv0 hv, hbel v hv0]⟩
      clear hans hmod hx hmem hps hb1 hb2 hbel
      generalize doT T x ((k : Int) + 1) = T2 at *
      generalize doM M x ((k : Int) + 1) = M2 at *
      have hlM2 := hmod2.len
      have HKB2 : Hid (∀ (w' : World) (L' : List Asn), Sat W w' (modA mb M2 :: L') → Calls Tryd.prog 29 #[ptr mb, .string (S p)] w' fun e w2 => ∃ v, e = .returned v ∧ Sat W w2 (rowA 9 1 v (kidM M2 p).length (Ss (kidM M2 p)) :: modA mb M2 :: L')) := hide fun w' L' S' => kids_mod S' (by omega) hmod2.paths p
      have HFB2 : Hid (∀ (w' : World) (L' : List Asn), Sat W w' (modA mb M2 :: L') → Calls Tryd.prog 30 #[ptr mb, .string (S p)] w' fun e w2 => e = .returned (.int .i64 (findF M2 p)) ∧ Sat W w2 (modA mb M2 :: L')) := hide fun w' L' S' => find_mod S' (by omega) p
      have HIN2 : Hid (p ∈ keys M2 → 0 ≤ findF M2 p ∧ ∃ v', mget M2 p = some v' ∧ Go.Proofs.YtecpfnobnpddaaaDoor.getF T2 p = (v', 0)) := hide fun h => by
        obtain ⟨v', hv'⟩ := mem_keys_mget.1 h
        refine ⟨findF_in h, v', hv', ?_⟩
        unfold Go.Proofs.YtecpfnobnpddaaaDoor.getF
        rw [if_pos HPC.out, hmod2.get, hv']
      have HOUT2 : Hid (p ∉ keys M2 → findF M2 p = -1) := hide findF_out
      have HNO2 : Hid (p ∉ keys M2 → ∀ v, mget M2 p = some v → v.below = 0) := hide fun h v hv => absurd (mem_keys_mget.2 ⟨v, hv⟩) h
      have HGET : Hid (∀ (w' : World) (L' : List Asn), Sat W w' (treeA t T2 :: L') → oldA W ∈ L' → Calls Tryd.prog 14 #[ptr t, .string (S p)] w' fun e w2 => e = .returned (.tuple #[nodV (Go.Proofs.YtecpfnobnpddaaaDoor.getF T2 p).1, .int .i64 (Go.Proofs.YtecpfnobnpddaaaDoor.getF T2 p).2]) ∧ Sat W w2 (treeA t T2 :: L')) := hide fun w' L' S' hm => get_tree S' (HGL.out.at S' (by simp [hm])) p (by omega)
      have HMOD := hide hmod2
      have hkl2 := kidM_le M2 p
      clear hmod2
      generalize findF M p = F1 at *
      generalize findF M2 p = F2 at *
      generalize kidM M p = K1 at *
      generalize kidM M2 p = K2 at *
      obtain ⟨a0, a1, a2, xa, xc, xp, xr, xd, xs⟩ := x
      simp only at d0 d1 d2 d3 d4 d5 d6 hsm HDO
      go_upto_region 12 with fail
      have S7 := S6.box (actTA ⟨a0, a1, a2, xa, xc, xp, xr, xd, xs⟩) 58 rfl
      generalize wr.alloc (.cells (actTA ⟨a0, a1, a2, xa, xc, xp, xr, xd, xs⟩) 58) = w7 at *
      generalize wr.heap.size = xb at *
      clear S6 d0 d1 d2 d3 d4 d5 d6
      go_wp2_with fail
      refine (HKB.out _ _ S7.p2).mono ?_
      rintro e w8 ⟨v1, rfl, S8⟩
      obtain ⟨A3, c3, rfl, -⟩ := S8.row.form
      have S9 := S8.drop
      clear S7 S8 HKB
      go_wp2_with fail
      refine (HFB.out _ _ S9).mono ?_
      rintro e w9 ⟨rfl, S10⟩
      have S11 : Sat W w9 (treeA t T :: modA mb M :: cellsA xb 58 (actTA ⟨a0, a1, a2, xa, xc, xp, xr, xd, xs⟩) :: [oldA W]) := S10.p2
      clear S9 S10 HFB
      have q0 := S11.p2.cell 0 _ rfl
      have q1 := S11.p2.cell 1 _ rfl
      have q2 := S11.p2.cell 2 _ rfl
      have q3 := S11.p2.cell 3 _ rfl
      have q4 := S11.p2.cell 4 _ rfl
      have q5 := S11.p2.cell 5 _ rfl
      have q6 := S11.p2.cell 6 _ rfl
      go_wp2_with fail
      refine (HDO.out _ _ S11 (by simp)).mono ?_
      rintro e w10 ⟨rfl, S12⟩
      have S13 := S12.p2.drop
      clear S11 S12 q0 q1 q2 q3 q4 q5 q6 HDO
      go_wp2_with fail
      refine (HFB2.out _ _ S13.p1).mono ?_
      rintro e w11 ⟨rfl, S14⟩
      clear S13 HFB2
      by_cases hin2 : p ∈ keys M2
      · obtain ⟨hf2, v', hv', hgv⟩ := HIN2.out hin2
        have hf2b : ¬ F2 < 0 := by omega
        have HBV := hide (HB.out v' hv')
        have HGV := hide hgv
        have HMG := hide hv'
        clear HIN2 HOUT2 HNO2 HB hv' hgv hin2
        by_cases hin : p ∈ keys M
        · have hf1 := HIN.out hin
          have hf1b : decide (0 ≤ F1) = true := by simpa using hf1
          have hbv := HBV.out.2 hin
          have HBV2 := hide hbv
          clear HIN HOUT HBV hbv hin
          go_wp2_with fail
          refine (HKB2.out _ _ S14).mono ?_
          rintro e w12 ⟨v2, rfl, S15⟩
          obtain ⟨A4, c4, rfl, -⟩ := S15.row.form
          have S16 := S15.drop.p1
          clear S14 S15 HKB2
          have hgt := HGET.out _ _ S16 (by simp)
          rw [HGV.out] at hgt
          obtain ⟨d, ve, bl, ow, md, st, sr⟩ := v'
          simp only at HBV2
          by_cases hkk : K2.length = K1.length
          · have hne : ((K2.length : Int) != (K1.length : Int)) = false := by simp; omega
            have hb : bl = cnt := by rw [HBV2.out, if_pos hkk]; omega
            subst hb
            clear HBV2 hkk
            go_wp2_with fail
            refine hgt.mono ?_
            rintro e w13 ⟨rfl, S17⟩
            clear hgt S16 HGET
            go_upto_region 21 with fail
            have S18 := S17.box (nodC ⟨d, ve, bl, ow, md, st, sr⟩) 30 rfl
            generalize w13.alloc (.cells (nodC ⟨d, ve, bl, ow, md, st, sr⟩) 30) = w14 at *
            generalize w13.heap.size = nb at *
            have z2 := S18.cell 2 _ rfl
            have hbb : (bl != bl) = false := by simp
            clear S17
            go_wp2_with fail
            go_roundw
            case rel => exact ⟨k + 1, by omega, by go_num, T2, M2, bl, rfl, by omega, by omega, HMOD.out, fun v hv => by rw [HMG.out] at hv; obtain rfl := Option.some.inj hv; rfl, S18.drop⟩
            case measure => simp [RowKit.intOf]; omega
          · have hne : ((K2.length : Int) != (K1.length : Int)) = true := by simp; omega
            have hb : bl = cnt + 1 := by rw [HBV2.out, if_neg hkk]
            subst hb
            clear HBV2 hkk
            go_wp2_with fail
            refine hgt.mono ?_
            rintro e w13 ⟨rfl, S17⟩
            clear hgt S16 HGET
            go_upto_region 21 with fail
            have S18 := S17.box (nodC ⟨d, ve, cnt + 1, ow, md, st, sr⟩) 30 rfl
            generalize w13.alloc (.cells (nodC ⟨d, ve, cnt + 1, ow, md, st, sr⟩) 30) = w14 at *
            generalize w13.heap.size = nb at *
            have z2 := S18.cell 2 _ rfl
            have hbb : (cnt + 1 != cnt + 1) = false := by simp
            clear S17
            go_wp2_with fail
            go_roundw
            case rel => exact ⟨k + 1, by omega, by go_num, T2, M2, cnt + 1, by go_num, by omega, by omega, HMOD.out, fun v hv => by rw [HMG.out] at hv; obtain rfl := Option.some.inj hv; rfl, S18.drop⟩
            case measure => simp [RowKit.intOf]; omega
        · have hf1 := HOUT.out hin
          have hf1b : decide (0 ≤ F1) = false := by simp; omega
          have hbv := HBV.out.1 hin
          have HBV2 := hide hbv
          clear HIN HOUT HBV hbv hin
          have S15 := S14.p1
          clear S14
          go_wp2_with fail
          go_roundw
          case rel => exact ⟨k + 1, by omega, by go_num, T2, M2, 0, rfl, by omega, by omega, HMOD.out, fun v hv => by rw [HMG.out] at hv; obtain rfl := Option.some.inj hv; exact HBV2.out, S15⟩
          case measure => simp [RowKit.intOf]; omega
      · have hf2 := HOUT2.out hin2
        have hf2b : F2 < 0 := by omega
        have HN := hide (HNO2.out hin2)
        have S15 := S14.p1
        clear HIN2 HOUT2 HNO2 HB hin2 S14 HIN HOUT
        go_wp2_with fail
        go_roundw
        case rel => exact ⟨k + 1, by omega, by go_num, T2, M2, 0, rfl, by omega, by omega, HMOD.out, HN.out, S15⟩
        case measure => simp [RowKit.intOf]; omega
    · obtain rfl : k = acts.length := by omega
      have HK := hide S6.drop.drop.keep_all
      clear S6
      go_wp2_with fail
      go_ret
      exact ⟨rfl, HK.out⟩
end Go.Proofs.YtecpfnobnpddaaaDoor
