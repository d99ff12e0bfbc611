/- The law TreeActs, walked. No condition. -/
import Derived.Test.YtecpfnobnpddaaaGreatDoorTSm
import Derived.Test.YtecpfnobnpddaaaGreatDoorTNil
set_option linter.unusedVariables false
set_option linter.unusedSimpArgs false
namespace Go.Proofs.YtecpfnobnpddaaaGreatDoor
open Go.RowKit

/-- the paths of those that o owns, in the model's order -/
def ownM (M : TreeT) (o : Int) : List (List UInt8) := (M.filter fun p => decide (p.2.owner = o ∧ o ≠ 0)).map (·.1)
theorem ownM_succ (M : TreeT) (o : Int) (k : Nat) (p : List UInt8 × NodeT) (h : M[k]? = some p) : ownM (M.take (k + 1)) o = ownM (M.take k) o ++ if p.2.owner = o ∧ o ≠ 0 then [p.1] else [] := by
  unfold ownM
  rw [take_filter_succ _ _ k p h, List.map_append]
  congr 1
  by_cases hc : p.2.owner = o ∧ o ≠ 0
  · simp [hc]
  · simp [hc]
theorem ownM_at (M : TreeT) (o : Int) (k : Nat) (p : List UInt8 × NodeT) (h : M[k]? = some p) (hc : p.2.owner = o ∧ o ≠ 0) : (ownM M o)[(ownM (M.take k) o).length]? = some p.1 := by
  obtain ⟨hk, rfl⟩ := List.getElem?_eq_some_iff.1 h
  have e1 : M = M.take k ++ M[k] :: M.drop (k + 1) := by
    conv => lhs; rw [← List.take_append_drop k M]
    rw [List.drop_eq_getElem_cons hk]
  have e2 : ownM M o = ownM (M.take k) o ++ M[k].1 :: ownM (M.drop (k + 1)) o := by
    conv => lhs; rw [e1]
    unfold ownM
    rw [List.filter_append, List.filter_cons, if_pos (by simpa using hc), List.map_append, List.map_cons]
  rw [e2, List.getElem?_append_right (Nat.le_refl _), Nat.sub_self]
  rfl
theorem ownM_le (M : TreeT) (o : Int) : (ownM M o).length ≤ M.length := by
  unfold ownM
  rw [List.length_map]
  exact List.length_filter_le _ _

set_option maxRecDepth 100000 in
set_option maxHeartbeats 16000000 in
theorem tacts_walk (W : World) (hG : GL W) (A : Option Addr) (acts : List ActT) (c : Nat) (hs : ActsT W A acts) (hl : acts.length ≤ 9223372036854775807) (hg : ∀ x ∈ acts, x.raw.length ≤ 9223372036854775807 ∧ x.data.length ≤ 9223372036854775807) :
    Calls Tryz.prog 4 #[.slice A acts.length c] W fun e w' => e = .returned (.bool true) ∧ Keeps (fun _ => False) W w' := by
  have HSRC : Hid (∀ {w : World} {L : List Asn}, Sat W w L → oldA W ∈ L → ActsT w A acts) := fun S hm => hs.of S hm
  have HS0 := hide hs
  have HFEW := hide (fun h => fewT_out (xs := acts) h)
  have HF : Hid (∀ w, ActsT w A acts → Calls Tryz.prog 19 #[.slice A acts.length c] w fun e w' => e = .returned (.bool (fewT acts)) ∧ Keeps (fun _ => False) w w') := fun w h => few_tacts w A c acts h hl hg
  have HGL : Hid (GL W) := hG
  generalize fewT acts = fw at *
  clear hs hg
  go_enter Tryz.func4, Tryz.ntmps4
  go_wp2_with fail
  refine (head_tree (Sat.start W) hG (by simp)).mono ?_
  rintro e w0 ⟨rfl, S0⟩
  clear hG
  go_wp2_with fail
  refine (HF.out _ (HSRC.out S0 (by simp))).mono ?_
  rintro e w1 ⟨rfl, hk1⟩
  have S1 := S0.keep hk1
  clear S0 hk1 HF
  cases fw
  · have HK := hide S1.keep_all
    clear S1
    go_wp2_with fail
    go_ret
    exact ⟨rfl, HK.out⟩
  obtain ⟨hall, h40⟩ := HFEW.out rfl
  have HALL := hide hall
  clear hall HFEW
  go_wp2_with fail
  refine (new_tree S1).mono ?_
  rintro e w2 ⟨t, rfl, S2⟩
  go_wp2_with fail
  refine (new_mod S2).mono ?_
  rintro e w3 ⟨mb, rfl, S3⟩
  have S4 : Sat W w3 (treeA t rootT :: modA mb rootT :: [oldA W]) := S3.p1
  clear S1 S2 S3
  go_wp2_with fail
  go_loopw [29] (fun i wr => ∃ k : Nat, k ≤ acts.length ∧ i = .int .i64 k ∧ ∃ T M, Mod T M k ∧ Sat W wr (treeA t T :: modA mb M :: [oldA W])) (fun i _ => acts.length - (RowKit.intOf i).toNat)
  case atStart => exact ⟨0, by omega, rfl, _, _, Mod.start, S4⟩
  case round =>
    obtain ⟨k, hk, rfl, T, M, hmod, S5⟩ := hrel
    clear S4
    by_cases hlt : k < acts.length
    · have hk0 : (0 : Int) ≤ (k : Int) := by omega
      have hk1 : (k : Int) < (acts.length : Int) := by omega
      obtain ⟨ad, x, rfl, hx, d0, d1, d2, d3, d4, d5, d6⟩ := tact_at (HSRC.out S5 (by simp)).1 hlt
      have hmem := List.mem_of_getElem? hx
      have hps := HS0.out.2 x hmem
      have hsm := HALL.out x hmem
      obtain ⟨hans, hmod2⟩ := hmod.do_ (by omega) x ((k : Int) + 1) (by omega)
      have HDO : Hid (∀ (w' : World) (L' : List Asn), Sat W w' (treeA t T :: modA mb M :: L') → oldA W ∈ L' → Calls Tryz.prog 22 #[ptr t, ptr mb, actTV x, .int .i64 ((k : Int) + 1)] w' fun e w2 => e = .returned (.bool true) ∧ Sat W w2 (treeA t (doT T x ((k : Int) + 1)) :: modA mb (doM M x ((k : Int) + 1)) :: L')) := hide fun w' L' S' hm => by
        have := do_tree S' HGL.out hm hmod hmod (by omega) (by omega) x hps hsm ((k : Int) + 1)
        rwa [hans, decide_eq_true rfl] at this
      have HACT : Hid (∀ (w' : World) (L' : List Asn), Sat W w' L' → oldA W ∈ L' → Calls Tryz.prog 24 #[actTV x] w' fun e w2 => e = .returned (.string (S (pathA x))) ∧ Keeps (fun _ => False) w' w2) := hide fun w' L' S' hm => act_path w' x (hps.keepB (by decide) (S'.keepsOf hm) (fun k hk h => by omega)) (by omega)
      have hpl := pathA_le x hsm
      have hown : bits .and .i64 x.owner 3 = ownA x := rfl
      clear hans hmod hx hmem hps
      generalize doT T x ((k : Int) + 1) = T2 at *
      generalize doM M x ((k : Int) + 1) = M2 at *
      generalize pathA x = sp at *
      generalize ownA x = ow at *
      have hlT := hmod2.len_eq
      have hlM := hmod2.len
      have HSAME : Hid (∀ (w' : World) (L' : List Asn), Sat W w' (treeA t T2 :: modA mb M2 :: L') → oldA W ∈ L' → Calls Tryz.prog 23 #[ptr t, ptr mb] w' fun e w2 => e = .returned (.bool true) ∧ Sat W w2 (treeA t T2 :: modA mb M2 :: L')) := hide fun w' L' S' hm => same_tm S' HGL.out hm hmod2
      have HKIDS : Hid (∀ (w' : World) (L' : List Asn), Sat W w' (treeA t T2 :: L') → oldA W ∈ L' → Calls Tryz.prog 25 #[ptr t, .string (S sp)] w' fun e w2 => ∃ v, e = .returned (.tuple #[v, .int .i64 (getF T2 sp).2]) ∧ Sat W w2 (rowA 9 1 v (kidsF T2 sp).length (Ss (kidsF T2 sp)) :: treeA t T2 :: L')) := hide fun w' L' S' hm => kids_tree S' (HGL.out.at S' (by simp [hm])) hmod2.pathsT (by omega) sp (by omega)
      have HGET : Hid (∀ (w' : World) (L' : List Asn), Sat W w' (treeA t T2 :: L') → oldA W ∈ L' → Calls Tryz.prog 26 #[ptr t, .string (S sp)] w' fun e w2 => e = .returned (.tuple #[nodV (getF T2 sp).1, .int .i64 (getF T2 sp).2]) ∧ Sat W w2 (treeA t T2 :: L')) := hide fun w' L' S' hm => get_tree S' (HGL.out.at S' (by simp [hm])) sp (by omega)
      have HKM : Hid (∀ (w' : World) (L' : List Asn), Sat W w' (modA mb M2 :: L') → Calls Tryz.prog 27 #[ptr mb, .string (S sp)] w' fun e w2 => ∃ v, e = .returned v ∧ Sat W w2 (rowA 9 1 v (kidM M2 sp).length (Ss (kidM M2 sp)) :: modA mb M2 :: L')) := hide fun w' L' S' => kids_mod S' (by omega) hmod2.paths sp
      have HKE : Hid ((getF T2 sp).2 = 0 → kidsF T2 sp = kidM M2 sp) := hide fun h => hmod2.kids h
      have HKZ : Hid ((getF T2 sp).2 ≠ 0 → kidsF T2 sp = []) := hide fun h => by unfold kidsF; rw [if_neg h]
      have hkl := kidM_le M2 sp
      have HOWN : Hid (∀ (w' : World) (L' : List Asn), Sat W w' (treeA t T2 :: L') → Calls Tryz.prog 28 #[ptr t, .int .i64 ow] w' fun e w2 => ∃ v, e = .returned v ∧ Sat W w2 (rowA 9 1 v (ownM M2 ow).length (Ss (ownM M2 ow)) :: treeA t T2 :: L')) := hide fun w' L' S' => by
        have := owned_tree S' hmod2.pathsT (by omega) ow
        rwa [show ownedF T2 ow = ownM M2 ow from hmod2.owned ow] at this
      have HOS : Hid (∀ k p, M2[k]? = some p → ownM (M2.take (k + 1)) ow = ownM (M2.take k) ow ++ if p.2.owner = ow ∧ ow ≠ 0 then [p.1] else []) := hide fun k p h => ownM_succ M2 ow k p h
      have HOA : Hid (∀ k p, M2[k]? = some p → p.2.owner = ow ∧ ow ≠ 0 → (ownM M2 ow)[(ownM (M2.take k) ow).length]? = some p.1) := hide fun k p h hc => ownM_at M2 ow k p h hc
      have HOT : Hid (ownM (M2.take M2.length) ow = ownM M2 ow) := hide (by rw [List.take_length])
      have HOL : Hid (∀ k, (ownM (M2.take k) ow).length ≤ 1000) := hide fun k => by
        have h1 := ownM_le (M2.take k) ow
        have h2 : (M2.take k).length ≤ M2.length := by simp; omega
        omega
      have hol := ownM_le M2 ow
      have HMOD := hide hmod2
      clear hmod2
      generalize (getF T2 sp).2 = er at *
      generalize (getF T2 sp).1 = nd at *
      generalize kidsF T2 sp = KF at *
      generalize kidM M2 sp = KM at *
      generalize hOL : ownM M2 ow = OL at *
      clear hOL
      obtain ⟨a0, a1, a2, xa, xc, xp, xr, xd, xs⟩ := x
      simp only at d0 d1 d2 d3 d4 d5 d6 hown hsm HDO HACT
      go_upto_region 10 with fail
      have S6 := S5.box (actTA ⟨a0, a1, a2, xa, xc, xp, xr, xd, xs⟩) 54 rfl
      generalize wr.alloc (.cells (actTA ⟨a0, a1, a2, xa, xc, xp, xr, xd, xs⟩) 54) = w6 at *
      generalize wr.heap.size = xb at *
      have HX : Hid (∀ (w' : World) (L' : List Asn), Sat W w' L' → cellsA xb 54 (actTA ⟨a0, a1, a2, xa, xc, xp, xr, xd, xs⟩) ∈ L' → w'.cell? ⟨xb, 0, none⟩ = some (.int .i64 a0) ∧ w'.cell? ⟨xb, 1, none⟩ = some (.int .i64 a1) ∧ w'.cell? ⟨xb, 2, none⟩ = some (.int .i64 a2) ∧ w'.cell? ⟨xb, 3, none⟩ = some (.slice xa xp.length xc) ∧ w'.cell? ⟨xb, 4, none⟩ = some (.string (S xr)) ∧ w'.cell? ⟨xb, 5, none⟩ = some (.string (S xd)) ∧ w'.cell? ⟨xb, 6, none⟩ = some (.bool xs)) := hide fun w' L' S' hm => by
        obtain ⟨L2, S2⟩ := S'.mem_ hm
        exact ⟨S2.cell 0 _ rfl, S2.cell 1 _ rfl, S2.cell 2 _ rfl, S2.cell 3 _ rfl, S2.cell 4 _ rfl, S2.cell 5 _ rfl, S2.cell 6 _ rfl⟩
      have S7 := S6.b2
      obtain ⟨q0, q1, q2, q3, q4, q5, q6⟩ := HX.out _ _ S7 (by simp)
      clear S5 S6 d0 d1 d2 d3 d4 d5 d6
      go_wp2_with fail
      refine (HDO.out _ _ S7 (by simp)).mono ?_
      rintro e w7 ⟨rfl, S8⟩
      clear S7 q0 q1 q2 q3 q4 q5 q6 HDO
      go_wp2_with fail
      refine (HSAME.out _ _ S8 (by simp)).mono ?_
      rintro e w8 ⟨rfl, S9⟩
      obtain ⟨q0, q1, q2, q3, q4, q5, q6⟩ := HX.out _ _ S9 (by simp)
      clear S8 HSAME
      go_wp2_with fail
      refine (HACT.out _ _ S9 (by simp)).mono ?_
      rintro e w9 ⟨rfl, hk9⟩
      have S10 := S9.keep hk9
      clear S9 hk9 q0 q1 q2 q3 q4 q5 q6 HACT
      go_wp2_with fail
      refine (HKIDS.out _ _ S10 (by simp)).mono ?_
      rintro e w10 ⟨v, rfl, S11⟩
      obtain ⟨A3, c3, rfl, -⟩ := S11.row.form
      clear S10 HKIDS
      go_wp2_with fail
      refine (HGET.out _ _ S11.p1 (by simp)).mono ?_
      rintro e w11 ⟨rfl, S12⟩
      clear S11 HGET
      go_upto_region 15 with fail
      have S13 := (S12.box (nodC nd) 62 rfl).drop
      generalize w11.alloc (.cells (nodC nd) 62) = w12 at *
      have S14 : Sat W w12 (rowA 9 1 (.slice A3 KF.length c3) KF.length (Ss KF) :: treeA t T2 :: modA mb M2 :: cellsA xb 54 (actTA ⟨a0, a1, a2, xa, xc, xp, xr, xd, xs⟩) :: [oldA W]) := S13.p1
      clear S12 S13
      have hee : (er != er) = false := by simp
      by_cases her : er = 0
      (have herb : (er == 0) = true := by simpa using her
       have hks : KF = KM := HKE.out her
       have HKQ : Hid (0 < KF.length → KF = KM) := hide fun _ => hks
       have hlk : ((KF.length : Int) != (KM.length : Int)) = false := by rw [hks]; simp
       clear HKE HKZ hks her
       go_wp2_with fail
       refine (HKM.out _ _ S14.p2).mono ?_
       rintro e w13 ⟨v2, rfl, S15⟩
       obtain ⟨A4, c4, rfl, -⟩ := S15.row.form
       have S16 : Sat W w13 (rowA 9 1 (.slice A3 KF.length c3) KF.length (Ss KF) :: treeA t T2 :: modA mb M2 :: cellsA xb 54 (actTA ⟨a0, a1, a2, xa, xc, xp, xr, xd, xs⟩) :: [oldA W]) := S15.drop.b2
       clear S14 S15
       go_wp2_with fail
       clear herb hlk hee)
      rotate_left
      (have hks : KF = [] := HKZ.out her
       have HKQ : Hid (0 < KF.length → KF = KM) := hide fun h => by rw [hks] at h; simp at h
       have herb : (er == 0) = false := by simpa using her
       have S16 := S14
       clear HKE HKZ hks S14
       go_wp2_with fail
       clear herb her hee)
      all_goals
        go_loopw [79] (fun i wr => ∃ j : Nat, j ≤ KF.length ∧ i = .int .i64 j ∧ Sat W wr (rowA 9 1 (.slice A3 KF.length c3) KF.length (Ss KF) :: treeA t T2 :: modA mb M2 :: cellsA xb 54 (actTA ⟨a0, a1, a2, xa, xc, xp, xr, xd, xs⟩) :: [oldA W])) (fun i _ => KF.length - (RowKit.intOf i).toNat)
        case atStart => exact ⟨0, by omega, rfl, S16⟩
        case round =>
          obtain ⟨j, hj, rfl, S17⟩ := hrel
          clear S16
          by_cases hlt2 : j < KF.length
          · have hj0 : (0 : Int) ≤ (j : Int) := by omega
            have hj1 : (j : Int) < (KF.length : Int) := by omega
            have hks := HKQ.out (by omega)
            have hkf : KF.length ≤ 60 := by rw [hks]; omega
            have HKM2 : Hid (∀ (w' : World) (L' : List Asn), Sat W w' (modA mb M2 :: L') → Calls Tryz.prog 27 #[ptr mb, .string (S sp)] w' fun e w2 => ∃ v, e = .returned v ∧ Sat W w2 (rowA 9 1 v KF.length (Ss KF) :: modA mb M2 :: L')) := hide (by rw [hks]; exact HKM.out)
            obtain ⟨ad3, s3, rfl, hs3, hc3⟩ := str_at S17.srcT hlt2
            have HS3 := hide hs3
            clear hs3 hks HKM
            go_upto_region 20 with fail
            -- REGION20
            refine wp_region_held_drew (S := fun w' => w'.cell? (ad3.add j) = some (.string (S s3))) (by kernel_rfl) ?_ (fun hHeld => ?_)
            · exact hc3
            refine wpAnyH_take (i := 0) (oi := _) (v := ?_) rfl (by kernel_rfl) (by kernel_rfl) (by kernel_rfl) (fun _ _ _ h => h) (Or.inl ⟨by rfl, ?_⟩) hHeld ?_
            rotate_left
            · intro w' hSw
              (try dsimp only at hSw)
              go_simp
              try with_reducible rfl
            try simp only [Act.put, List.setIfInBounds_toArray, List.set_cons_zero, List.set_cons_succ]
            refine wpAnyH_take (i := 1) (oi := _) (v := ?_) rfl (by kernel_rfl) (by kernel_rfl) (by kernel_rfl) (fun _ _ _ h => h) (Or.inl ⟨by rfl, ?_⟩) hHeld ?_
            rotate_left
            · intro w' hSw
              (try dsimp only at hSw)
              go_simp
              try with_reducible rfl
            try simp only [Act.put, List.setIfInBounds_toArray, List.set_cons_zero, List.set_cons_succ]
            refine wpAnyH_take (i := 2) (oi := _) (v := ?_) rfl (by kernel_rfl) (by kernel_rfl) (by kernel_rfl) (fun _ _ _ h => h) (Or.inl ⟨by rfl, ?_⟩) hHeld ?_
            rotate_left
            · intro w' hSw
              (try dsimp only at hSw)
              go_simp
              try with_reducible rfl
            try simp only [Act.put, List.setIfInBounds_toArray, List.set_cons_zero, List.set_cons_succ]
            refine wpAnyH_take (i := 3) (oi := _) (v := ?_) rfl (by kernel_rfl) (by kernel_rfl) (by kernel_rfl) (fun _ _ _ h => h) (Or.inl ⟨by rfl, ?_⟩) hHeld ?_
            rotate_left
            · intro w' hSw
              (try dsimp only at hSw)
              go_simp
              try with_reducible rfl
            try simp only [Act.put, List.setIfInBounds_toArray, List.set_cons_zero, List.set_cons_succ]
            refine wpAnyH_take (i := 4) (oi := _) (v := ?_) rfl (by kernel_rfl) (by kernel_rfl) (by kernel_rfl) (fun _ _ _ h => h) (Or.inl ⟨by rfl, ?_⟩) hHeld ?_
            rotate_left
            · intro w' hSw
              (try dsimp only at hSw)
              go_simp
              try with_reducible rfl
            try simp only [Act.put, List.setIfInBounds_toArray, List.set_cons_zero, List.set_cons_succ]
            refine wpAnyH_take (i := 5) (oi := _) (v := ?_) rfl (by kernel_rfl) (by kernel_rfl) (by kernel_rfl) (fun _ _ _ h => h) (Or.inl ⟨by rfl, ?_⟩) hHeld ?_
            rotate_left
            · intro w' hSw
              (try dsimp only at hSw)
              go_simp
              try with_reducible rfl
            try simp only [Act.put, List.setIfInBounds_toArray, List.set_cons_zero, List.set_cons_succ]
            refine wpAnyH_take (i := 7) (oi := _) (v := ?_) rfl (by kernel_rfl) (by kernel_rfl) (by kernel_rfl) (fun _ _ _ h => h) (Or.inl ⟨by rfl, ?_⟩) hHeld ?_
            rotate_left
            · intro w' hSw
              (try dsimp only at hSw)
              go_simp
              try with_reducible rfl
            try simp only [Act.put, List.setIfInBounds_toArray, List.set_cons_zero, List.set_cons_succ]
            refine wpAnyH_ready (rs := [6]) (by kernel_rfl) (by simp) ?_
            refine AllReadyH.cons rfl (fun K hK => ?_) ?_
            · go_simp
              go_at_call 27
              refine (HKM2.out _ _ (by (repeat (first | refine Sat.drew ?_ | refine Sat.drewN ?_ _)); exact S17.p2)).mono ?_
              rintro e w18 ⟨v5, rfl, S18⟩
              obtain ⟨A5, c5, rfl, -⟩ := S18.row.form
              obtain ⟨ad5, s5, rfl, hs5, hc5⟩ := str_at S18.srcT hlt2
              obtain rfl : s5 = s3 := by rw [HS3.out] at hs5; exact (Option.some.inj hs5).symm
              obtain ⟨ad6, s6, had6, hs6, hc4⟩ := str_at S18.p2.srcT hlt2
              obtain rfl := Option.some.inj had6
              obtain rfl : s6 = s5 := by rw [HS3.out] at hs6; exact (Option.some.inj hs6).symm
              clear had6 hs6 hs5
              refine hK.out _ _ ?_ (fun hHeld => ?_)
              · exact hc4
              clear hK K
              try simp only [Act.put, List.setIfInBounds_toArray, List.set_cons_zero, List.set_cons_succ]
              refine wpAnyH_take (i := 8) (oi := _) (v := ?_) rfl (by kernel_rfl) (by kernel_rfl) (by kernel_rfl) (fun _ _ _ h => h) (Or.inl ⟨by rfl, ?_⟩) hHeld ?_
              rotate_left
              · intro w' hSw
                (try dsimp only at hSw)
                go_simp
                try with_reducible rfl
              try simp only [Act.put, List.setIfInBounds_toArray, List.set_cons_zero, List.set_cons_succ]
              refine wpAnyH_ready (rs := [9]) (by kernel_rfl) (by simp) ?_
              refine AllReadyH.cons rfl (fun K hK => ?_) ?_
              · go_simp
                refine hK.out _ _ ?_ (fun hHeld => ?_)
                · exact hc4
                clear hK K
                try simp only [Act.put, List.setIfInBounds_toArray, List.set_cons_zero, List.set_cons_succ]
                refine wpAnyH_take (i := 10) (oi := _) (v := ?_) rfl (by kernel_rfl) (by kernel_rfl) (by kernel_rfl) (fun _ _ _ h => h) (Or.inl ⟨by rfl, ?_⟩) hHeld ?_
                rotate_left
                · intro w' hSw
                  (try dsimp only at hSw)
                  go_simp
                  try with_reducible rfl
                try simp only [Act.put, List.setIfInBounds_toArray, List.set_cons_zero, List.set_cons_succ]
                refine wpAnyH_done (by kernel_rfl) ?_ _
                have HS18 := hide (S18.drop.b2)
                clear S18 S17 HKM2 hHeld
                go_wp2_with fail
                go_roundw
                case rel => exact ⟨j + 1, by omega, by go_num, HS18.out⟩
                case measure => simp [RowKit.intOf]; omega
              exact AllReadyH.nil
            exact AllReadyH.nil
            -- END20
          · obtain rfl : j = KF.length := by omega
            have S18 := S17.drop
            obtain ⟨q0, q1, q2, q3, q4, q5, q6⟩ := HX.out _ _ S18 (by simp)
            clear S17 HKM HKQ
            go_wp2_with fail
            refine (HOWN.out _ _ S18).mono ?_
            rintro e w19 ⟨v6, rfl, S19⟩
            obtain ⟨A6, c6, rfl, -⟩ := S19.row.form
            obtain ⟨A7, c7, S20⟩ := (S19.p2).modOpen
            have S21 : Sat W w19 (rowA 9 1 (.slice A6 OL.length c6) OL.length (Ss OL) :: cellsA mb 69 #[.slice A7 M2.length c7] :: rowA 71 8 (.slice A7 M2.length c7) M2.length (M2.flatMap entC) :: treeA t T2 :: cellsA xb 54 (actTA ⟨a0, a1, a2, xa, xc, xp, xr, xd, xs⟩) :: [oldA W]) := S20.p2
            clear S18 S19 S20 HOWN q0 q1 q2 q3 q4 q5 q6
            have c0 := S21.p1.cell 0 _ rfl
            go_wp2_with fail
            go_loopw [14, 104] (fun u i wr => ∃ j : Nat, j ≤ M2.length ∧ u = .int .i64 ((ownM (M2.take j) ow).length) ∧ i = .int .i64 j ∧ Sat W wr (rowA 9 1 (.slice A6 OL.length c6) OL.length (Ss OL) :: cellsA mb 69 #[.slice A7 M2.length c7] :: rowA 71 8 (.slice A7 M2.length c7) M2.length (M2.flatMap entC) :: treeA t T2 :: cellsA xb 54 (actTA ⟨a0, a1, a2, xa, xc, xp, xr, xd, xs⟩) :: [oldA W])) (fun _ i _ => M2.length - (RowKit.intOf i).toNat)
            case atStart => exact ⟨0, by omega, rfl, rfl, S21⟩
            case round =>
              obtain ⟨j, hj, rfl, rfl, S22⟩ := hrel
              clear S21 c0
              have hnl := HOL.out j
              by_cases hlt3 : j < M2.length
              · have hj0 : (0 : Int) ≤ (j : Int) := by omega
                have hj1 : (j : Int) < (M2.length : Int) := by omega
                obtain ⟨ad7, p, rfl, hp, d0, d1, d2, d3, d4, d5, d6, d7⟩ := ent_at S22.p2.srcT rfl hlt3
                have HOS2 := hide (HOS.out j p hp)
                have HOA2 := hide (HOA.out j p hp)
                clear hp
                obtain ⟨n, hn⟩ : ∃ n, (ownM (M2.take j) ow).length = n := ⟨_, rfl⟩
                have HN := hide hn
                rw [hn] at HOA2 hnl ⊢
                clear hn
                have hn0 : (0 : Int) ≤ (n : Int) := by omega
                go_upto_region 28 with fail
                have S23 := S22.box (entA p) 71 rfl
                generalize wr.alloc (.cells (entA p) 71) = w23 at *
                generalize wr.heap.size = eb at *
                obtain ⟨pp, ⟨nd_, ve, bl, ow2, md, st, sr⟩⟩ := p
                have e0 := S23.cell 0 _ rfl
                have e4 := S23.cell 4 _ rfl
                obtain ⟨q0, q1, q2, q3, q4, q5, q6⟩ := HX.out _ _ S23 (by simp)
                clear S22 d0 d1 d2 d3 d4 d5 d6 d7 q0 q1 q3 q4 q5 q6
                by_cases ho : ow2 = ow
                · have hob : (ow2 == ow) = true := by simpa using ho
                  by_cases hz : ow = 0
                  · have hzb : (ow != 0) = false := by simpa using hz
                    have hos := HOS2.out
                    rw [if_neg (fun h => h.2 hz), List.append_nil] at hos
                    have HOS3 := hide hos
                    clear hos ho hz HOS2 HOA2
                    go_wp2_with fail
                    go_roundw
                    case rel => exact ⟨j + 1, by omega, by rw [HOS3.out, HN.out], by go_num, S23.drop⟩
                    case measure => simp [RowKit.intOf]; omega
                  · have hzb : (ow != 0) = true := by simpa using hz
                    have hos := HOS2.out
                    rw [if_pos ⟨ho, hz⟩] at hos
                    have HOS3 := hide hos
                    have hoa := HOA2.out ⟨ho, hz⟩
                    have hn1 : n < OL.length := (List.getElem?_eq_some_iff.1 hoa).1
                    obtain ⟨ad6, s6, rfl, hs6, hc6⟩ := str_at S23.p1.srcT hn1
                    obtain rfl : s6 = pp := by rw [hoa] at hs6; exact (Option.some.inj hs6).symm
                    have hn2 : (n : Int) < (OL.length : Int) := by omega
                    have hge : decide ((OL.length : Int) ≤ (n : Int)) = false := by simp; omega
                    have hpp : (s6 != s6) = false := by simp
                    clear hos ho hz HOS2 HOA2 hoa hs6
                    go_upto_region 29 with fail
                    go_quiet (fail)
                    go_wp2_with fail
                    go_roundw
                    case rel => exact ⟨j + 1, by omega, by rw [HOS3.out, List.length_append, HN.out]; go_num, by go_num, by have := S23.drop; (repeat (first | exact this | refine Sat.drew ?_ | refine Sat.drewN ?_ _))⟩
                    case measure => simp [RowKit.intOf]; omega
                · have hob : (ow2 == ow) = false := by simpa using ho
                  have hos := HOS2.out
                  rw [if_neg (fun h => ho h.1), List.append_nil] at hos
                  have HOS3 := hide hos
                  clear hos ho HOS2 HOA2
                  go_wp2_with fail
                  go_roundw
                  case rel => exact ⟨j + 1, by omega, by rw [HOS3.out, HN.out], by go_num, S23.drop⟩
                  case measure => simp [RowKit.intOf]; omega
              · obtain rfl : j = M2.length := by omega
                rw [HOT.out] at hnl ⊢
                have HS := hide (S22.drop.modShut.p1.p2.drop)
                clear S22
                go_wp2_with fail
                go_roundw
                case rel => exact ⟨k + 1, by omega, by go_num, T2, M2, HMOD.out, HS.out⟩
                case measure => simp [RowKit.intOf]; omega
    · obtain rfl : k = acts.length := by omega
      have hgn := get_nil S5 (HGL.out.at S5 (by simp))
      clear hmod
      go_wp2_with fail
      refine hgn.mono ?_
      rintro e w6 ⟨rfl, S6⟩
      clear hgn S5
      go_upto_region 38 with fail
      have S7 := (S6.box (nodC zN) 62 rfl).drop
      generalize w6.alloc (.cells (nodC zN) 62) = w7 at *
      clear S6
      go_wp2_with fail
      refine (len_nil S7).mono ?_
      rintro e w8 ⟨rfl, S8⟩
      clear S7
      go_wp2_with fail
      refine (paths_nil S8).mono ?_
      rintro e w9 ⟨rfl, S9⟩
      clear S8
      go_wp2_with fail
      refine (same_nil S9).mono ?_
      rintro e wa ⟨rfl, Sa⟩
      clear S9
      go_wp2_with fail
      refine (same_nil1 Sa t).mono ?_
      rintro e wb ⟨rfl, Sb⟩
      clear Sa
      go_wp2_with fail
      refine (tclone_nil Sb).mono ?_
      rintro e wc ⟨t2, rfl, Sc⟩
      clear Sb
      go_wp2_with fail
      refine (new_tree Sc).mono ?_
      rintro e wd ⟨t3, rfl, Sd⟩
      clear Sc
      have hsame := same_tree Sd.p1
      rw [show sameT rootT [([47], zN)] = true from by decide] at hsame
      go_wp2_with fail
      refine hsame.mono ?_
      rintro e we ⟨rfl, Se⟩
      have HK := hide Se.drop.drop.drop.drop.keep_all
      clear Sd Se hsame
      go_wp2_with fail
      go_ret
      exact ⟨rfl, HK.out⟩
end Go.Proofs.YtecpfnobnpddaaaGreatDoor
