/- The model of the statements of layer 9: Delete. No condition. -/
import Derived.Test.YtecpfnobnpddaaaGreatDoorTModP
import Derived.Deep.RegionHeld3
set_option linter.unusedVariables false
set_option linter.unusedSimpArgs false
namespace Go.Proofs.YtecpfnobnpddaaaGreatDoor
open Go.RowKit

section
variable {g w : World} {L : List Asn} {b : Nat} {M : TreeT} {v : Value}
set_option maxRecDepth 100000 in
set_option maxHeartbeats 16000000 in
theorem delete_mod (S0 : Sat g w (modA b M :: L)) (hG : GL g) (hm : oldA g ∈ L) (hl : M.length ≤ 1000000) (hn : (keys M).Nodup) (hP : PathsOk M) (hC : ClosedN M) (s : List UInt8) (v : Int) (hs : s.length ≤ 140737488350000)
    (hb : ∀ a, mget M (upF s).1 = some a → 0 ≤ a.below ∧ a.below ≤ 1000000) :
    Calls Tryz.prog 63 #[ptr b, .string (S s), .int .i64 v] w fun e w' => e = .returned (.int .i64 (deleteF M s v).1) ∧ Sat g w' (modA b (deleteF M s v).2 :: L) := by
  have HR : Hid (∀ r, deleteF M s v = r → ∀ w', Sat g w' (modA b r.2 :: L) → Ending.returned (.int .i64 r.1) = Ending.returned (.int .i64 (deleteF M s v).1) ∧ Sat g w' (modA b (deleteF M s v).2 :: L)) :=
    hide fun r h w' S' => by subst h; exact ⟨rfl, S'⟩
  have HF : Hid (deleteF M s v = if (atF M s v).2 ≠ 0 then ((atF M s v).2, M) else if s = [47] then (1, M) else if kidL M s ≠ [] then (13, M) else
    (0, mdel (mput M (upF s).1 (lessN ((mget M (upF s).1).getD zN))) s)) := rfl
  have hat := check_mod S0 (hG.at S0 (by simp [hm])) hl s v (by omega)
  have HAG : Hid ((atF M s v).2 = 0 → s ∈ keys M ∧ s ≠ []) := hide fun h => getF_ne (at_get h)
  generalize deleteF M s v = R at *
  generalize atF M s v = AT at *
  obtain ⟨n0, e0⟩ := AT
  simp only at hat HF HAG
  have HPK := hide hP
  have HCK := hide hC
  have HN := hide hn
  clear hG hP hC hn
  go_enter Tryz.func63, Tryz.ntmps63
  go_wp2_with fail
  refine hat.mono ?_
  rintro e w1 ⟨rfl, S1⟩
  clear hat S0
  by_cases h0 : e0 = 0
  · subst h0
    obtain ⟨hin, hne⟩ := HAG.out rfl
    by_cases h47 : s = [47]
    · have h47b : (s == [47]) = true := by simpa using h47
      have e : R = (1, M) := by rw [HF.out, if_neg (by simp), if_pos h47]
      have HE := hide e
      clear e HF h47 hin hne HAG
      go_wp2_with fail
      go_ret
      exact HR.out (1, M) HE.out _ S1
    · have h47b : (s == [47]) = false := by simpa using h47
      have HF2 : Hid (R = if kidL M s ≠ [] then (13, M) else (0, mdel (mput M (upF s).1 (lessN ((mget M (upF s).1).getD zN))) s)) := hide (by rw [HF.out, if_neg (by simp), if_neg h47])
      have hupin : (upF s).1 ∈ keys M := by
        rcases HCK.out s hin with h | h
        · exact absurd h h47
        · exact h
      have hkd := kids_mod S1 hl HPK.out s
      rw [kidM_eq M hne] at hkd
      have hkk : (kidL M s).length = 0 ↔ kidL M s = [] := List.length_eq_zero_iff
      have HKK := hide hkk
      have hkle := kidL_length M s
      clear HF HAG hne h47 hkk
      generalize Ss (kidL M s) = ks at *
      generalize hkn : (kidL M s).length = kn at *
      go_wp2_with fail
      refine hkd.mono ?_
      rintro e w2 ⟨v2, rfl, S2⟩
      obtain ⟨A2, c2, rfl, -⟩ := S2.row.form
      have S3 := S2.drop
      clear hkd S1 S2 hkn
      by_cases hk0 : kn = 0
      · subst hk0
        have hk1 := HKK.out.1 rfl
        have hup := fun w => up_path w s (by omega)
        obtain ⟨a, h1, h2, h3⟩ := find_at hupin
        obtain ⟨hb0, hb1⟩ := hb a h2
        have e : R = (0, mdel (mput M (upF s).1 (lessN a)) s) := by rw [HF2.out, if_neg (fun h => h hk1), h2]; rfl
        have HE := hide e
        have hM1 : M.set (findN M (upF s).1) ((upF s).1, lessN a) = mput M (upF s).1 (lessN a) := set_put HN.out hupin _
        have hkM : keys (mput M (upF s).1 (lessN a)) = keys M := by rw [keys_mput, if_pos hupin]
        have hin1 : s ∈ keys (mput M (upF s).1 (lessN a)) := by rw [hkM]; exact hin
        have hn1 : (keys (mput M (upF s).1 (lessN a))).Nodup := by rw [hkM]; exact HN.out
        have hlen1 : (mput M (upF s).1 (lessN a)).length = M.length := by rw [← hM1]; simp
        have hcut := cut_del hn1 hin1
        obtain ⟨n1, -, -, hi3⟩ := find_at hin1
        have hff1 : findF (mput M (upF s).1 (lessN a)) s = (findN (mput M (upF s).1 (lessN a)) s : Int) := by unfold findF; rw [if_pos hin1]
        have hff : findF M (upF s).1 = (findN M (upF s).1 : Int) := by unfold findF; rw [if_pos hupin]
        have HM1 := hide hM1
        have HCUT := hide hcut
        have HAT := hide h1
        clear e HF2 hM1 hkM hin1 hn1 hcut hk1 h1 h2 hin hupin hb HKK
        generalize mput M (upF s).1 (lessN a) = M1 at *
        generalize findN M1 s = i at *
        generalize (upF s).1 = up at *
        generalize (upF s).2 = ul at *
        go_wp2_with fail
        refine (hup w2).mono ?_
        rintro e w3 ⟨rfl, hk3⟩
        have S4 := S3.keep hk3
        clear S3 hup hk3
        obtain ⟨A, c, S5⟩ := S4.modOpen
        obtain ⟨ad, -, rfl, -⟩ := ent_at S5.p1.srcT rfl h3
        obtain ⟨rb, rfl⟩ := S5.p1.row_zero
        have hcap : M.length ≤ c := by
          obtain ⟨_, _, _, q, _⟩ := S5.p1.rowOpen
          exact q
        have HFI : Hid (∀ {w : World} {L' : List Asn}, Sat g w (cellsA b 69 #[.slice (some ⟨rb, 0, none⟩) M.length c] :: rowA 71 8 (.slice (some ⟨rb, 0, none⟩) M.length c) M.length (M.flatMap entC) :: L') → Calls Tryz.prog 94 #[ptr b, .string (S up)] w fun e w' => e = .returned (.int .i64 (findN M up)) ∧ Sat g w' (cellsA b 69 #[.slice (some ⟨rb, 0, none⟩) M.length c] :: rowA 71 8 (.slice (some ⟨rb, 0, none⟩) M.length c) M.length (M.flatMap entC) :: L')) := hide fun S' => by
          have := find_open S' hl up
          rwa [hff] at this
        clear hff S4
        generalize findN M up = j at *
        have hj0 : (0 : Int) ≤ (j : Int) := by omega
        have hj1 : (j : Int) < (M.length : Int) := by omega
        obtain ⟨d, ve, bl, ow, md, st, sr⟩ := a
        simp only at hb0 hb1
        have c0 := S5.cell 0 _ rfl
        go_upto_region 9 with fail
        -- REGION9
        have hwr : IntKind.i64.wrap (bl + 1) = bl + 1 := IntWalk.i64_in _ ⟨by omega, by omega⟩
        refine wp_region_held_drew (S := fun w' => w'.cell? ⟨b, 0, none⟩ = some (.slice (some ⟨rb, 0, none⟩) M.length c)) (by kernel_rfl) ?_ (fun hHeld => ?_)
        · exact S5.drew.cell 0 _ rfl
        refine wpAnyH_take (i := 0) (oi := _) (v := ?_) rfl (by kernel_rfl) (by kernel_rfl) (by kernel_rfl) (fun _ _ _ h => h) (Or.inl ⟨by rfl, ?_⟩) hHeld ?_
        rotate_left
        · intro w' hSw
          (try dsimp only at hSw)
          go_simp
          try with_reducible rfl
        try simp only [Act.put, List.setIfInBounds_toArray, List.set_cons_zero, List.set_cons_succ]
        refine wpAnyH_take (i := 1) (oi := _) (v := ?_) rfl (by kernel_rfl) (by kernel_rfl) (by kernel_rfl) (fun _ _ _ h => h) (Or.inl ⟨by rfl, ?_⟩) hHeld ?_
        rotate_left
        · intro w' hSw
          (try dsimp only at hSw)
          go_simp
          try with_reducible rfl
        try simp only [Act.put, List.setIfInBounds_toArray, List.set_cons_zero, List.set_cons_succ]
        refine wpAnyH_take (i := 2) (oi := _) (v := ?_) rfl (by kernel_rfl) (by kernel_rfl) (by kernel_rfl) (fun _ _ _ h => h) (Or.inl ⟨by rfl, ?_⟩) hHeld ?_
        rotate_left
        · intro w' hSw
          (try dsimp only at hSw)
          go_simp
          try with_reducible rfl
        try simp only [Act.put, List.setIfInBounds_toArray, List.set_cons_zero, List.set_cons_succ]
        refine wpAnyH_take (i := 3) (oi := _) (v := ?_) rfl (by kernel_rfl) (by kernel_rfl) (by kernel_rfl) (fun _ _ _ h => h) (Or.inl ⟨by rfl, ?_⟩) hHeld ?_
        rotate_left
        · intro w' hSw
          (try dsimp only at hSw)
          go_simp
          try with_reducible rfl
        try simp only [Act.put, List.setIfInBounds_toArray, List.set_cons_zero, List.set_cons_succ]
        refine wpAnyH_take (i := 4) (oi := _) (v := ?_) rfl (by kernel_rfl) (by kernel_rfl) (by kernel_rfl) (fun _ _ _ h => h) (Or.inl ⟨by rfl, ?_⟩) hHeld ?_
        rotate_left
        · intro w' hSw
          (try dsimp only at hSw)
          go_simp
          try with_reducible rfl
        try simp only [Act.put, List.setIfInBounds_toArray, List.set_cons_zero, List.set_cons_succ]
        refine wpAnyH_take (i := 5) (oi := _) (v := ?_) rfl (by kernel_rfl) (by kernel_rfl) (by kernel_rfl) (fun _ _ _ h => h) (Or.inl ⟨by rfl, ?_⟩) hHeld ?_
        rotate_left
        · intro w' hSw
          (try dsimp only at hSw)
          go_simp
          try with_reducible rfl
        try simp only [Act.put, List.setIfInBounds_toArray, List.set_cons_zero, List.set_cons_succ]
        refine wpAnyH_ready (rs := [6]) (by kernel_rfl) (by simp) ?_
        refine AllReadyH.cons rfl (fun K hK => ?_) ?_
        · go_simp
          go_at_call 94
          refine (HFI.out (by (repeat (first | refine Sat.drew ?_ | refine Sat.drewN ?_ _)); exact S5)).mono ?_
          rintro e w6 ⟨rfl, S6⟩
          have c0 := S6.cell 0 _ rfl
          have g3 := getE S6.p1 HAT.out 3 _ rfl (o := j * 8 + 1 + 2) (by omega)
          have f3 := S6.p1.row_fz (j * 8 + 1 + 2)
          refine hK.out _ _ ?_ (fun hHeld => ?_)
          · exact S6.cell 0 _ rfl
          clear hK K
          try simp only [Act.put, List.setIfInBounds_toArray, List.set_cons_zero, List.set_cons_succ]
          refine wpAnyH_take (i := 7) (oi := _) (v := ?_) rfl (by kernel_rfl) (by kernel_rfl) (by kernel_rfl) (fun _ _ _ h => h) (Or.inl ⟨by rfl, ?_⟩) hHeld ?_
          rotate_left
          · intro w' hSw
            (try dsimp only at hSw)
            go_simp
            try with_reducible rfl
          try simp only [Act.put, List.setIfInBounds_toArray, List.set_cons_zero, List.set_cons_succ]
          refine wpAnyH_take (i := 8) (oi := _) (v := ?_) rfl (by kernel_rfl) (by kernel_rfl) (by kernel_rfl) (fun _ _ _ h => h) (Or.inl ⟨by rfl, ?_⟩) hHeld ?_
          rotate_left
          · intro w' hSw
            (try dsimp only at hSw)
            go_simp
            try with_reducible rfl
          try simp only [Act.put, List.setIfInBounds_toArray, List.set_cons_zero, List.set_cons_succ]
          refine wpAnyH_take (i := 9) (oi := _) (v := ?_) rfl (by kernel_rfl) (by kernel_rfl) (by kernel_rfl) (fun _ _ _ h => h) (Or.inl ⟨by rfl, ?_⟩) hHeld ?_
          rotate_left
          · intro w' hSw
            (try dsimp only at hSw)
            go_simp
            try with_reducible rfl
          try simp only [Act.put, List.setIfInBounds_toArray, List.set_cons_zero, List.set_cons_succ]
          refine wpAnyH_ready (rs := [10]) (by kernel_rfl) (by simp) ?_
          refine AllReadyH.cons rfl (fun K hK => ?_) ?_
          · go_simp
            refine hK.out _ _ ?_ (fun hHeld => ?_)
            · exact S6.cell 0 _ rfl
            clear hK K
            try simp only [Act.put, List.setIfInBounds_toArray, List.set_cons_zero, List.set_cons_succ]
            refine wpAnyH_take (i := 11) (oi := _) (v := ?_) rfl (by kernel_rfl) (by kernel_rfl) (by kernel_rfl) (fun _ _ _ h => h) (Or.inl ⟨by rfl, ?_⟩) hHeld ?_
            rotate_left
            · intro w' hSw
              (try dsimp only at hSw)
              go_simp
              try with_reducible rfl
            try simp only [Act.put, List.setIfInBounds_toArray, List.set_cons_zero, List.set_cons_succ]
            refine wpAnyH_take (i := 12) (oi := _) (v := ?_) rfl (by kernel_rfl) (by kernel_rfl) (by kernel_rfl) (fun _ _ _ h => h) (Or.inl ⟨by rfl, ?_⟩) hHeld ?_
            rotate_left
            · intro w' hSw
              (try dsimp only at hSw)
              go_simp
              try with_reducible rfl
            try simp only [Act.put, List.setIfInBounds_toArray, List.set_cons_zero, List.set_cons_succ]
            refine wpAnyH_take (i := 13) (oi := _) (v := ?_) rfl (by kernel_rfl) (by kernel_rfl) (by kernel_rfl) (fun _ _ _ h => h) (Or.inl ⟨by rfl, ?_⟩) hHeld ?_
            rotate_left
            · intro w' hSw
              (try dsimp only at hSw)
              go_simp
              try with_reducible rfl
            try simp only [Act.put, List.setIfInBounds_toArray, List.set_cons_zero, List.set_cons_succ]
            refine wpAnyH_take (i := 14) (oi := _) (v := ?_) rfl (by kernel_rfl) (by kernel_rfl) (by kernel_rfl) (fun _ _ _ h => h) (Or.inl ⟨by rfl, ?_⟩) hHeld ?_
            rotate_left
            · intro w' hSw
              (try dsimp only at hSw)
              go_simp
              try with_reducible rfl
            try simp only [Act.put, List.setIfInBounds_toArray, List.set_cons_zero, List.set_cons_succ]
            refine wpAnyH_ready (rs := [15]) (by kernel_rfl) (by simp) ?_
            refine AllReadyH.cons rfl (fun K hK => ?_) ?_
            · go_simp
              refine hK.out _ _ ?_ (fun hHeld => ?_)
              · (try rw [hwr]); exact (S6.p1.entSet 3 (up, ⟨d, ve, bl, ow, md, st, sr⟩) (up, ⟨d, ve, bl + 1, ow, md, st, sr⟩) (.int .i64 (bl + 1)) HAT.out (by decide) (entC_set3 up d ve bl (bl + 1) ow md st sr) (o := j * 8 + 1 + 2) (by omega)).p1.cell 0 _ rfl
              clear hK K
              try simp only [Act.put, List.setIfInBounds_toArray, List.set_cons_zero, List.set_cons_succ]
              refine wpAnyH_done (by kernel_rfl) ?_ _
              try rw [hwr]
              have S8 := (S6.p1.entSet 3 (up, ⟨d, ve, bl, ow, md, st, sr⟩) (up, ⟨d, ve, bl + 1, ow, md, st, sr⟩) (.int .i64 (bl + 1)) HAT.out (by decide) (entC_set3 up d ve bl (bl + 1) ow md st sr) (o := j * 8 + 1 + 2) (by omega)).p1
              have hm1 : M.set j (up, ⟨d, ve, bl + 1, ow, md, st, sr⟩) = M1 := HM1.out
              rw [hm1] at S8
              generalize w6.setCell ⟨rb, j * 8 + 1 + 2, none⟩ (.int .i64 (bl + 1)) = w7 at *
              rw [← hlen1] at S8
              rw [← hlen1] at hl hcap
              clear hHeld hm1 HM1 HAT g3 f3 c0 S6 S5 HFI hj0 hj1 h3 hlen1 hwr
              have hfi := find_open S8 hl s
              rw [hff1] at hfi
              clear hff1
              go_wp2_with fail
              refine hfi.mono ?_
              rintro e w8 ⟨rfl, S9⟩
              clear hfi S8
              go_upto_region 11 with fail
              have c0d := S9.cell 0 _ rfl
              have c0a := (S9.box #[] 71 rfl).p1.cell 0 _ rfl
              have hii : (i : Int) ≤ (i : Int) + 1 := by omega
              have hwi : IntKind.i64.wrap ((i : Int) + 1) = (i : Int) + 1 := IntWalk.i64_in _ ⟨by omega, by omega⟩
              have hti : ((i : Int) + 1).toNat = i + 1 := by omega
              have hi0 : (0 : Int) ≤ (i : Int) := by omega
              have hi1 : (0 : Int) ≤ (i : Int) + 1 := by omega
              have hic : (i : Int) ≤ (c : Int) := by omega
              have hic1 : (i : Int) + 1 ≤ (M1.length : Int) := by omega
              have hic2 : (M1.length : Int) ≤ (c : Int) := by omega
              have hsrc1 := (((S9.box #[] 71 rfl).drew).rowOf 8 0 rfl (Nat.zero_le _)).p2.srcT.pre i (by omega)
              rw [flatK_take (n := 8) (fun _ => rfl)] at hsrc1
              by_cases hcc : c = i + 1
              · have hle : c ≤ i + 1 := by omega
                subst hcc
                have hml : M1.length = i + 1 := by omega
                refine wp_region_held_drew (S := fun _ => True) (by kernel_rfl) ?_ (fun hHeld => ?_)
                · trivial
                refine wpAnyH_take (i := 0) (oi := _) (v := ?_) rfl (by kernel_rfl) (by kernel_rfl) (by kernel_rfl) (fun _ _ _ h => h) (Or.inl ⟨by rfl, ?_⟩) hHeld ?_
                rotate_left
                · intro w' hSw
                  (try dsimp only at hSw)
                  go_simp
                  try with_reducible rfl
                try simp only [Act.put, List.setIfInBounds_toArray, List.set_cons_zero, List.set_cons_succ]
                refine wpAnyH_take (i := 2) (oi := _) (v := ?_) rfl (by kernel_rfl) (by kernel_rfl) (by kernel_rfl) (fun _ _ _ h => h) (Or.inl ⟨by rfl, ?_⟩) hHeld ?_
                rotate_left
                · intro w' hSw
                  (try dsimp only at hSw)
                  go_simp
                  try with_reducible rfl
                try simp only [Act.put, List.setIfInBounds_toArray, List.set_cons_zero, List.set_cons_succ]
                refine wpAnyH_take (i := 3) (oi := _) (v := ?_) rfl (by kernel_rfl) (by kernel_rfl) (by kernel_rfl) (fun _ _ _ h => h) (Or.inl ⟨by rfl, ?_⟩) hHeld ?_
                rotate_left
                · intro w' hSw
                  (try dsimp only at hSw)
                  go_simp
                  try with_reducible rfl
                try simp only [Act.put, List.setIfInBounds_toArray, List.set_cons_zero, List.set_cons_succ]
                refine wpAnyH_take (i := 4) (oi := _) (v := ?_) rfl (by kernel_rfl) (by kernel_rfl) (by kernel_rfl) (fun _ _ _ h => h) (Or.inl ⟨by rfl, ?_⟩) hHeld ?_
                rotate_left
                · intro w' hSw
                  (try dsimp only at hSw)
                  go_simp
                  try with_reducible rfl
                try simp only [Act.put, List.setIfInBounds_toArray, List.set_cons_zero, List.set_cons_succ]
                refine wpAnyH_take (i := 6) (oi := _) (v := ?_) rfl (by kernel_rfl) (by kernel_rfl) (by kernel_rfl) (fun _ _ _ h => h) (Or.inl ⟨by rfl, ?_⟩) hHeld ?_
                rotate_left
                · intro w' hSw
                  (try dsimp only at hSw)
                  go_simp
                  try with_reducible rfl
                try simp only [Act.put, List.setIfInBounds_toArray, List.set_cons_zero, List.set_cons_succ]
                refine wpAnyH_take (i := 9) (oi := _) (v := ?_) rfl (by kernel_rfl) (by kernel_rfl) (by kernel_rfl) (fun _ _ _ h => h) (Or.inl ⟨by rfl, ?_⟩) hHeld ?_
                rotate_left
                · intro w' hSw
                  (try dsimp only at hSw)
                  go_simp
                  try with_reducible rfl
                try simp only [Act.put, List.setIfInBounds_toArray, List.set_cons_zero, List.set_cons_succ]
                refine wpAnyH_take (i := 10) (oi := _) (v := ?_) rfl (by kernel_rfl) (by kernel_rfl) (by kernel_rfl) (fun _ _ _ h => h) (Or.inl ⟨by rfl, ?_⟩) hHeld ?_
                rotate_left
                · intro w' hSw
                  (try dsimp only at hSw)
                  go_simp
                  try with_reducible rfl
                try simp only [Act.put, List.setIfInBounds_toArray, List.set_cons_zero, List.set_cons_succ]
                refine wpAnyH_take (i := 11) (oi := _) (v := ?_) rfl (by kernel_rfl) (by kernel_rfl) (by kernel_rfl) (fun _ _ _ h => h) (Or.inl ⟨by rfl, ?_⟩) hHeld ?_
                rotate_left
                · intro w' hSw
                  (try dsimp only at hSw)
                  go_simp
                  try with_reducible rfl
                try simp only [Act.put, List.setIfInBounds_toArray, List.set_cons_zero, List.set_cons_succ]
                refine wpAnyH_take (i := 13) (oi := _) (v := ?_) rfl (by kernel_rfl) (by kernel_rfl) (by kernel_rfl) (fun _ _ _ h => h) (Or.inl ⟨by rfl, ?_⟩) hHeld ?_
                rotate_left
                · intro w' hSw
                  (try dsimp only at hSw)
                  go_simp
                  try with_reducible rfl
                try simp only [Act.put, List.setIfInBounds_toArray, List.set_cons_zero, List.set_cons_succ]
                refine wpAnyH_take (i := 14) (oi := _) (v := ?_) rfl (by kernel_rfl) (by kernel_rfl) (by kernel_rfl) (fun _ _ _ h => h) (Or.inl ⟨by rfl, ?_⟩) hHeld ?_
                rotate_left
                · intro w' hSw
                  (try dsimp only at hSw)
                  go_simp
                  try with_reducible rfl
                try simp only [Act.put, List.setIfInBounds_toArray, List.set_cons_zero, List.set_cons_succ]
                refine wpAnyH_ready (rs := [1, 5, 12]) (by kernel_rfl) (by simp) ?_
                refine AllReadyH.cons rfl (fun K hK => ?_) ?_
                · go_simp
                  refine hK.out _ _ ?_ (fun hHeld => ?_)
                  · trivial
                  clear hK K
                  try simp only [Act.put, List.setIfInBounds_toArray, List.set_cons_zero, List.set_cons_succ]
                  refine wpAnyH_ready (rs := [5, 12]) (by kernel_rfl) (by simp) ?_
                  refine AllReadyH.cons rfl (fun K hK => ?_) ?_
                  · go_simp
                    refine hK.out _ _ ?_ (fun hHeld => ?_)
                    · trivial
                    clear hK K
                    try simp only [Act.put, List.setIfInBounds_toArray, List.set_cons_zero, List.set_cons_succ]
                    refine wpAnyH_take (i := 7) (oi := _) (v := ?_) rfl (by kernel_rfl) (by kernel_rfl) (by kernel_rfl) (fun _ _ _ h => h) (Or.inl ⟨by rfl, ?_⟩) hHeld ?_
                    rotate_left
                    · intro w' hSw
                      (try dsimp only at hSw)
                      go_simp
                      try with_reducible rfl
                    try simp only [Act.put, List.setIfInBounds_toArray, List.set_cons_zero, List.set_cons_succ]
                    refine wpAnyH_ready (rs := [8, 12]) (by kernel_rfl) (by simp) ?_
                    refine AllReadyH.cons rfl (fun K hK => ?_) ?_
                    · refine step_app slE rfl (.tmp 49) (.tmp 55) rfl (g := g) (S := ((S9.box #[] 71 rfl).drew).rowOf 8 0 rfl (Nat.zero_le _)) (by go_simp) (c := (i + 1)) hsrc1 (by go_simp) (oneEn _) (by unfold maxLen; omega) (by omega) ?_
                      intro A5 c5 w9 S10
                      have c09 := S10.p1.cell 0 _ rfl
                      refine hK.out _ _ ?_ (fun hHeld => ?_)
                      · trivial
                      clear hK K
                      try simp only [Act.put, List.setIfInBounds_toArray, List.set_cons_zero, List.set_cons_succ]
                      refine wpAnyH_ready (rs := [12]) (by kernel_rfl) (by simp) ?_
                      refine AllReadyH.cons rfl (fun K hK => ?_) ?_
                      · go_simp
                        refine hK.out _ _ ?_ (fun hHeld => ?_)
                        · trivial
                        clear hK K
                        try simp only [Act.put, List.setIfInBounds_toArray, List.set_cons_zero, List.set_cons_succ]
                        refine wpAnyH_take (i := 15) (oi := _) (v := ?_) rfl (by kernel_rfl) (by kernel_rfl) (by kernel_rfl) (fun _ _ _ h => h) (Or.inl ⟨by rfl, ?_⟩) hHeld ?_
                        rotate_left
                        · intro w' hSw
                          (try dsimp only at hSw)
                          go_simp
                          try with_reducible rfl
                        try simp only [Act.put, List.setIfInBounds_toArray, List.set_cons_zero, List.set_cons_succ]
                        refine wpAnyH_ready (rs := [16]) (by kernel_rfl) (by simp) ?_
                        refine AllReadyH.cons rfl (fun K hK => ?_) ?_
                        · refine step_app slE rfl (.tmp 56) (.tmp 63) rfl (g := g) (S := S10) (by go_simp) (c := 0) (Src.zeroT (A := some ⟨rb, 0, none⟩) (n := 0) (xs := (M1.drop (i + 1)).flatMap entC) rfl (by rw [List.drop_eq_nil_of_le (by omega)]; rfl)) (by go_simp) (oneEn _) (by unfold maxLen; omega) (by omega) ?_
                          intro A6 c6 w10 S11
                          have c010 := S11.p1.cell 0 _ rfl
                          have f010 := S11.p1.cells_fz 0
                          refine hK.out _ _ ?_ (fun hHeld => ?_)
                          · trivial
                          clear hK K
                          try simp only [Act.put, List.setIfInBounds_toArray, List.set_cons_zero, List.set_cons_succ]
                          refine wpAnyH_take (i := 17) (oi := _) (v := ?_) rfl (by kernel_rfl) (by kernel_rfl) (by kernel_rfl) (fun _ _ _ h => h) (Or.inl ⟨by rfl, ?_⟩) hHeld ?_
                          rotate_left
                          · intro w' hSw
                            (try dsimp only at hSw)
                            go_simp
                            try with_reducible rfl
                          try simp only [Act.put, List.setIfInBounds_toArray, List.set_cons_zero, List.set_cons_succ]
                          refine wpAnyH_take (i := 18) (oi := _) (v := ?_) rfl (by kernel_rfl) (by kernel_rfl) (by kernel_rfl) (fun _ _ _ h => h) (Or.inl ⟨by rfl, ?_⟩) hHeld ?_
                          rotate_left
                          · intro w' hSw
                            (try dsimp only at hSw)
                            go_simp
                            try with_reducible rfl
                          try simp only [Act.put, List.setIfInBounds_toArray, List.set_cons_zero, List.set_cons_succ]
                          refine wpAnyH_ready (rs := [19]) (by kernel_rfl) (by simp) ?_
                          refine AllReadyH.cons rfl (fun K hK => ?_) ?_
                          · go_simp
                            refine hK.out _ _ ?_ (fun hHeld => ?_)
                            · trivial
                            clear hK K
                            try simp only [Act.put, List.setIfInBounds_toArray, List.set_cons_zero, List.set_cons_succ]
                            refine wpAnyH_done (by kernel_rfl) ?_ _
                            simp only [Nat.zero_add, Nat.add_zero, List.nil_append] at S11
                            have hN : i = (mdel M1 s).length := by rw [← HCUT.out]; simp; omega
                            have hX : (M1.take i).flatMap entC ++ (M1.drop (i + 1)).flatMap entC = (mdel M1 s).flatMap entC := by rw [← HCUT.out]; simp [List.flatMap_append]
                            have S12 := (S11.p1.setc 0 (.slice A6 (i) c6)).p2.drop
                            have S13 : Sat g (w10.setCell ⟨b, 0, none⟩ (.slice A6 (i) c6)) (modA b (mdel M1 s) :: L) := by
                              refine Sat.modShut (v := .slice A6 (mdel M1 s).length c6) ?_
                              rw [← hN, ← hX]
                              exact S12
                            have HS13 := hide S13
                            clear S13 S12 S11 S10 S9
                            go_wp2_with fail
                            go_ret
                            exact HR.out (0, mdel M1 s) HE.out _ HS13.out
                          exact AllReadyH.nil
                        exact AllReadyH.nil
                      exact AllReadyH.nil
                    refine AllReadyH.cons rfl (fun K hK => ?_) ?_
                    · go_simp
                      refine hK.out _ _ ?_ (fun hHeld => ?_)
                      · trivial
                      clear hK K
                      try simp only [Act.put, List.setIfInBounds_toArray, List.set_cons_zero, List.set_cons_succ]
                      refine wpAnyH_take (i := 15) (oi := _) (v := ?_) rfl (by kernel_rfl) (by kernel_rfl) (by kernel_rfl) (fun _ _ _ h => h) (Or.inl ⟨by rfl, ?_⟩) hHeld ?_
                      rotate_left
                      · intro w' hSw
                        (try dsimp only at hSw)
                        go_simp
                        try with_reducible rfl
                      try simp only [Act.put, List.setIfInBounds_toArray, List.set_cons_zero, List.set_cons_succ]
                      refine wpAnyH_ready (rs := [8]) (by kernel_rfl) (by simp) ?_
                      refine AllReadyH.cons rfl (fun K hK => ?_) ?_
                      · refine step_app slE rfl (.tmp 49) (.tmp 55) rfl (g := g) (S := ((S9.box #[] 71 rfl).drew).rowOf 8 0 rfl (Nat.zero_le _)) (by go_simp) (c := (i + 1)) hsrc1 (by go_simp) (oneEn _) (by unfold maxLen; omega) (by omega) ?_
                        intro A5 c5 w9 S10
                        have c09 := S10.p1.cell 0 _ rfl
                        refine hK.out _ _ ?_ (fun hHeld => ?_)
                        · trivial
                        clear hK K
                        try simp only [Act.put, List.setIfInBounds_toArray, List.set_cons_zero, List.set_cons_succ]
                        refine wpAnyH_ready (rs := [16]) (by kernel_rfl) (by simp) ?_
                        refine AllReadyH.cons rfl (fun K hK => ?_) ?_
                        · refine step_app slE rfl (.tmp 56) (.tmp 63) rfl (g := g) (S := S10) (by go_simp) (c := 0) (Src.zeroT (A := some ⟨rb, 0, none⟩) (n := 0) (xs := (M1.drop (i + 1)).flatMap entC) rfl (by rw [List.drop_eq_nil_of_le (by omega)]; rfl)) (by go_simp) (oneEn _) (by unfold maxLen; omega) (by omega) ?_
                          intro A6 c6 w10 S11
                          have c010 := S11.p1.cell 0 _ rfl
                          have f010 := S11.p1.cells_fz 0
                          refine hK.out _ _ ?_ (fun hHeld => ?_)
                          · trivial
                          clear hK K
                          try simp only [Act.put, List.setIfInBounds_toArray, List.set_cons_zero, List.set_cons_succ]
                          refine wpAnyH_take (i := 17) (oi := _) (v := ?_) rfl (by kernel_rfl) (by kernel_rfl) (by kernel_rfl) (fun _ _ _ h => h) (Or.inl ⟨by rfl, ?_⟩) hHeld ?_
                          rotate_left
                          · intro w' hSw
                            (try dsimp only at hSw)
                            go_simp
                            try with_reducible rfl
                          try simp only [Act.put, List.setIfInBounds_toArray, List.set_cons_zero, List.set_cons_succ]
                          refine wpAnyH_take (i := 18) (oi := _) (v := ?_) rfl (by kernel_rfl) (by kernel_rfl) (by kernel_rfl) (fun _ _ _ h => h) (Or.inl ⟨by rfl, ?_⟩) hHeld ?_
                          rotate_left
                          · intro w' hSw
                            (try dsimp only at hSw)
                            go_simp
                            try with_reducible rfl
                          try simp only [Act.put, List.setIfInBounds_toArray, List.set_cons_zero, List.set_cons_succ]
                          refine wpAnyH_ready (rs := [19]) (by kernel_rfl) (by simp) ?_
                          refine AllReadyH.cons rfl (fun K hK => ?_) ?_
                          · go_simp
                            refine hK.out _ _ ?_ (fun hHeld => ?_)
                            · trivial
                            clear hK K
                            try simp only [Act.put, List.setIfInBounds_toArray, List.set_cons_zero, List.set_cons_succ]
                            refine wpAnyH_done (by kernel_rfl) ?_ _
                            simp only [Nat.zero_add, Nat.add_zero, List.nil_append] at S11
                            have hN : i = (mdel M1 s).length := by rw [← HCUT.out]; simp; omega
                            have hX : (M1.take i).flatMap entC ++ (M1.drop (i + 1)).flatMap entC = (mdel M1 s).flatMap entC := by rw [← HCUT.out]; simp [List.flatMap_append]
                            have S12 := (S11.p1.setc 0 (.slice A6 (i) c6)).p2.drop
                            have S13 : Sat g (w10.setCell ⟨b, 0, none⟩ (.slice A6 (i) c6)) (modA b (mdel M1 s) :: L) := by
                              refine Sat.modShut (v := .slice A6 (mdel M1 s).length c6) ?_
                              rw [← hN, ← hX]
                              exact S12
                            have HS13 := hide S13
                            clear S13 S12 S11 S10 S9
                            go_wp2_with fail
                            go_ret
                            exact HR.out (0, mdel M1 s) HE.out _ HS13.out
                          exact AllReadyH.nil
                        exact AllReadyH.nil
                      exact AllReadyH.nil
                    exact AllReadyH.nil
                  refine AllReadyH.cons rfl (fun K hK => ?_) ?_
                  · go_simp
                    refine hK.out _ _ ?_ (fun hHeld => ?_)
                    · trivial
                    clear hK K
                    try simp only [Act.put, List.setIfInBounds_toArray, List.set_cons_zero, List.set_cons_succ]
                    refine wpAnyH_take (i := 15) (oi := _) (v := ?_) rfl (by kernel_rfl) (by kernel_rfl) (by kernel_rfl) (fun _ _ _ h => h) (Or.inl ⟨by rfl, ?_⟩) hHeld ?_
                    rotate_left
                    · intro w' hSw
                      (try dsimp only at hSw)
                      go_simp
                      try with_reducible rfl
                    try simp only [Act.put, List.setIfInBounds_toArray, List.set_cons_zero, List.set_cons_succ]
                    refine wpAnyH_ready (rs := [5]) (by kernel_rfl) (by simp) ?_
                    refine AllReadyH.cons rfl (fun K hK => ?_) ?_
                    · go_simp
                      refine hK.out _ _ ?_ (fun hHeld => ?_)
                      · trivial
                      clear hK K
                      try simp only [Act.put, List.setIfInBounds_toArray, List.set_cons_zero, List.set_cons_succ]
                      refine wpAnyH_take (i := 7) (oi := _) (v := ?_) rfl (by kernel_rfl) (by kernel_rfl) (by kernel_rfl) (fun _ _ _ h => h) (Or.inl ⟨by rfl, ?_⟩) hHeld ?_
                      rotate_left
                      · intro w' hSw
                        (try dsimp only at hSw)
                        go_simp
                        try with_reducible rfl
                      try simp only [Act.put, List.setIfInBounds_toArray, List.set_cons_zero, List.set_cons_succ]
                      refine wpAnyH_ready (rs := [8]) (by kernel_rfl) (by simp) ?_
                      refine AllReadyH.cons rfl (fun K hK => ?_) ?_
                      · refine step_app slE rfl (.tmp 49) (.tmp 55) rfl (g := g) (S := ((S9.box #[] 71 rfl).drew).rowOf 8 0 rfl (Nat.zero_le _)) (by go_simp) (c := (i + 1)) hsrc1 (by go_simp) (oneEn _) (by unfold maxLen; omega) (by omega) ?_
                        intro A5 c5 w9 S10
                        have c09 := S10.p1.cell 0 _ rfl
                        refine hK.out _ _ ?_ (fun hHeld => ?_)
                        · trivial
                        clear hK K
                        try simp only [Act.put, List.setIfInBounds_toArray, List.set_cons_zero, List.set_cons_succ]
                        refine wpAnyH_ready (rs := [16]) (by kernel_rfl) (by simp) ?_
                        refine AllReadyH.cons rfl (fun K hK => ?_) ?_
                        · refine step_app slE rfl (.tmp 56) (.tmp 63) rfl (g := g) (S := S10) (by go_simp) (c := 0) (Src.zeroT (A := some ⟨rb, 0, none⟩) (n := 0) (xs := (M1.drop (i + 1)).flatMap entC) rfl (by rw [List.drop_eq_nil_of_le (by omega)]; rfl)) (by go_simp) (oneEn _) (by unfold maxLen; omega) (by omega) ?_
                          intro A6 c6 w10 S11
                          have c010 := S11.p1.cell 0 _ rfl
                          have f010 := S11.p1.cells_fz 0
                          refine hK.out _ _ ?_ (fun hHeld => ?_)
                          · trivial
                          clear hK K
                          try simp only [Act.put, List.setIfInBounds_toArray, List.set_cons_zero, List.set_cons_succ]
                          refine wpAnyH_take (i := 17) (oi := _) (v := ?_) rfl (by kernel_rfl) (by kernel_rfl) (by kernel_rfl) (fun _ _ _ h => h) (Or.inl ⟨by rfl, ?_⟩) hHeld ?_
                          rotate_left
                          · intro w' hSw
                            (try dsimp only at hSw)
                            go_simp
                            try with_reducible rfl
                          try simp only [Act.put, List.setIfInBounds_toArray, List.set_cons_zero, List.set_cons_succ]
                          refine wpAnyH_take (i := 18) (oi := _) (v := ?_) rfl (by kernel_rfl) (by kernel_rfl) (by kernel_rfl) (fun _ _ _ h => h) (Or.inl ⟨by rfl, ?_⟩) hHeld ?_
                          rotate_left
                          · intro w' hSw
                            (try dsimp only at hSw)
                            go_simp
                            try with_reducible rfl
                          try simp only [Act.put, List.setIfInBounds_toArray, List.set_cons_zero, List.set_cons_succ]
                          refine wpAnyH_ready (rs := [19]) (by kernel_rfl) (by simp) ?_
                          refine AllReadyH.cons rfl (fun K hK => ?_) ?_
                          · go_simp
                            refine hK.out _ _ ?_ (fun hHeld => ?_)
                            · trivial
                            clear hK K
                            try simp only [Act.put, List.setIfInBounds_toArray, List.set_cons_zero, List.set_cons_succ]
                            refine wpAnyH_done (by kernel_rfl) ?_ _
                            simp only [Nat.zero_add, Nat.add_zero, List.nil_append] at S11
                            have hN : i = (mdel M1 s).length := by rw [← HCUT.out]; simp; omega
                            have hX : (M1.take i).flatMap entC ++ (M1.drop (i + 1)).flatMap entC = (mdel M1 s).flatMap entC := by rw [← HCUT.out]; simp [List.flatMap_append]
                            have S12 := (S11.p1.setc 0 (.slice A6 (i) c6)).p2.drop
                            have S13 : Sat g (w10.setCell ⟨b, 0, none⟩ (.slice A6 (i) c6)) (modA b (mdel M1 s) :: L) := by
                              refine Sat.modShut (v := .slice A6 (mdel M1 s).length c6) ?_
                              rw [← hN, ← hX]
                              exact S12
                            have HS13 := hide S13
                            clear S13 S12 S11 S10 S9
                            go_wp2_with fail
                            go_ret
                            exact HR.out (0, mdel M1 s) HE.out _ HS13.out
                          exact AllReadyH.nil
                        exact AllReadyH.nil
                      exact AllReadyH.nil
                    exact AllReadyH.nil
                  exact AllReadyH.nil
                refine AllReadyH.cons rfl (fun K hK => ?_) ?_
                · go_simp
                  refine hK.out _ _ ?_ (fun hHeld => ?_)
                  · trivial
                  clear hK K
                  try simp only [Act.put, List.setIfInBounds_toArray, List.set_cons_zero, List.set_cons_succ]
                  refine wpAnyH_take (i := 7) (oi := _) (v := ?_) rfl (by kernel_rfl) (by kernel_rfl) (by kernel_rfl) (fun _ _ _ h => h) (Or.inl ⟨by rfl, ?_⟩) hHeld ?_
                  rotate_left
                  · intro w' hSw
                    (try dsimp only at hSw)
                    go_simp
                    try with_reducible rfl
                  try simp only [Act.put, List.setIfInBounds_toArray, List.set_cons_zero, List.set_cons_succ]
                  refine wpAnyH_ready (rs := [1, 12]) (by kernel_rfl) (by simp) ?_
                  refine AllReadyH.cons rfl (fun K hK => ?_) ?_
                  · go_simp
                    refine hK.out _ _ ?_ (fun hHeld => ?_)
                    · trivial
                    clear hK K
                    try simp only [Act.put, List.setIfInBounds_toArray, List.set_cons_zero, List.set_cons_succ]
                    refine wpAnyH_ready (rs := [8, 12]) (by kernel_rfl) (by simp) ?_
                    refine AllReadyH.cons rfl (fun K hK => ?_) ?_
                    · refine step_app slE rfl (.tmp 49) (.tmp 55) rfl (g := g) (S := ((S9.box #[] 71 rfl).drew).rowOf 8 0 rfl (Nat.zero_le _)) (by go_simp) (c := (i + 1)) hsrc1 (by go_simp) (oneEn _) (by unfold maxLen; omega) (by omega) ?_
                      intro A5 c5 w9 S10
                      have c09 := S10.p1.cell 0 _ rfl
                      refine hK.out _ _ ?_ (fun hHeld => ?_)
                      · trivial
                      clear hK K
                      try simp only [Act.put, List.setIfInBounds_toArray, List.set_cons_zero, List.set_cons_succ]
                      refine wpAnyH_ready (rs := [12]) (by kernel_rfl) (by simp) ?_
                      refine AllReadyH.cons rfl (fun K hK => ?_) ?_
                      · go_simp
                        refine hK.out _ _ ?_ (fun hHeld => ?_)
                        · trivial
                        clear hK K
                        try simp only [Act.put, List.setIfInBounds_toArray, List.set_cons_zero, List.set_cons_succ]
                        refine wpAnyH_take (i := 15) (oi := _) (v := ?_) rfl (by kernel_rfl) (by kernel_rfl) (by kernel_rfl) (fun _ _ _ h => h) (Or.inl ⟨by rfl, ?_⟩) hHeld ?_
                        rotate_left
                        · intro w' hSw
                          (try dsimp only at hSw)
                          go_simp
                          try with_reducible rfl
                        try simp only [Act.put, List.setIfInBounds_toArray, List.set_cons_zero, List.set_cons_succ]
                        refine wpAnyH_ready (rs := [16]) (by kernel_rfl) (by simp) ?_
                        refine AllReadyH.cons rfl (fun K hK => ?_) ?_
                        · refine step_app slE rfl (.tmp 56) (.tmp 63) rfl (g := g) (S := S10) (by go_simp) (c := 0) (Src.zeroT (A := some ⟨rb, 0, none⟩) (n := 0) (xs := (M1.drop (i + 1)).flatMap entC) rfl (by rw [List.drop_eq_nil_of_le (by omega)]; rfl)) (by go_simp) (oneEn _) (by unfold maxLen; omega) (by omega) ?_
                          intro A6 c6 w10 S11
                          have c010 := S11.p1.cell 0 _ rfl
                          have f010 := S11.p1.cells_fz 0
                          refine hK.out _ _ ?_ (fun hHeld => ?_)
                          · trivial
                          clear hK K
                          try simp only [Act.put, List.setIfInBounds_toArray, List.set_cons_zero, List.set_cons_succ]
                          refine wpAnyH_take (i := 17) (oi := _) (v := ?_) rfl (by kernel_rfl) (by kernel_rfl) (by kernel_rfl) (fun _ _ _ h => h) (Or.inl ⟨by rfl, ?_⟩) hHeld ?_
                          rotate_left
                          · intro w' hSw
                            (try dsimp only at hSw)
                            go_simp
                            try with_reducible rfl
                          try simp only [Act.put, List.setIfInBounds_toArray, List.set_cons_zero, List.set_cons_succ]
                          refine wpAnyH_take (i := 18) (oi := _) (v := ?_) rfl (by kernel_rfl) (by kernel_rfl) (by kernel_rfl) (fun _ _ _ h => h) (Or.inl ⟨by rfl, ?_⟩) hHeld ?_
                          rotate_left
                          · intro w' hSw
                            (try dsimp only at hSw)
                            go_simp
                            try with_reducible rfl
                          try simp only [Act.put, List.setIfInBounds_toArray, List.set_cons_zero, List.set_cons_succ]
                          refine wpAnyH_ready (rs := [19]) (by kernel_rfl) (by simp) ?_
                          refine AllReadyH.cons rfl (fun K hK => ?_) ?_
                          · go_simp
                            refine hK.out _ _ ?_ (fun hHeld => ?_)
                            · trivial
                            clear hK K
                            try simp only [Act.put, List.setIfInBounds_toArray, List.set_cons_zero, List.set_cons_succ]
                            refine wpAnyH_done (by kernel_rfl) ?_ _
                            simp only [Nat.zero_add, Nat.add_zero, List.nil_append] at S11
                            have hN : i = (mdel M1 s).length := by rw [← HCUT.out]; simp; omega
                            have hX : (M1.take i).flatMap entC ++ (M1.drop (i + 1)).flatMap entC = (mdel M1 s).flatMap entC := by rw [← HCUT.out]; simp [List.flatMap_append]
                            have S12 := (S11.p1.setc 0 (.slice A6 (i) c6)).p2.drop
                            have S13 : Sat g (w10.setCell ⟨b, 0, none⟩ (.slice A6 (i) c6)) (modA b (mdel M1 s) :: L) := by
                              refine Sat.modShut (v := .slice A6 (mdel M1 s).length c6) ?_
                              rw [← hN, ← hX]
                              exact S12
                            have HS13 := hide S13
                            clear S13 S12 S11 S10 S9
                            go_wp2_with fail
                            go_ret
                            exact HR.out (0, mdel M1 s) HE.out _ HS13.out
                          exact AllReadyH.nil
                        exact AllReadyH.nil
                      exact AllReadyH.nil
                    refine AllReadyH.cons rfl (fun K hK => ?_) ?_
                    · go_simp
                      refine hK.out _ _ ?_ (fun hHeld => ?_)
                      · trivial
                      clear hK K
                      try simp only [Act.put, List.setIfInBounds_toArray, List.set_cons_zero, List.set_cons_succ]
                      refine wpAnyH_take (i := 15) (oi := _) (v := ?_) rfl (by kernel_rfl) (by kernel_rfl) (by kernel_rfl) (fun _ _ _ h => h) (Or.inl ⟨by rfl, ?_⟩) hHeld ?_
                      rotate_left
                      · intro w' hSw
                        (try dsimp only at hSw)
                        go_simp
                        try with_reducible rfl
                      try simp only [Act.put, List.setIfInBounds_toArray, List.set_cons_zero, List.set_cons_succ]
                      refine wpAnyH_ready (rs := [8]) (by kernel_rfl) (by simp) ?_
                      refine AllReadyH.cons rfl (fun K hK => ?_) ?_
                      · refine step_app slE rfl (.tmp 49) (.tmp 55) rfl (g := g) (S := ((S9.box #[] 71 rfl).drew).rowOf 8 0 rfl (Nat.zero_le _)) (by go_simp) (c := (i + 1)) hsrc1 (by go_simp) (oneEn _) (by unfold maxLen; omega) (by omega) ?_
                        intro A5 c5 w9 S10
                        have c09 := S10.p1.cell 0 _ rfl
                        refine hK.out _ _ ?_ (fun hHeld => ?_)
                        · trivial
                        clear hK K
                        try simp only [Act.put, List.setIfInBounds_toArray, List.set_cons_zero, List.set_cons_succ]
                        refine wpAnyH_ready (rs := [16]) (by kernel_rfl) (by simp) ?_
                        refine AllReadyH.cons rfl (fun K hK => ?_) ?_
                        · refine step_app slE rfl (.tmp 56) (.tmp 63) rfl (g := g) (S := S10) (by go_simp) (c := 0) (Src.zeroT (A := some ⟨rb, 0, none⟩) (n := 0) (xs := (M1.drop (i + 1)).flatMap entC) rfl (by rw [List.drop_eq_nil_of_le (by omega)]; rfl)) (by go_simp) (oneEn _) (by unfold maxLen; omega) (by omega) ?_
                          intro A6 c6 w10 S11
                          have c010 := S11.p1.cell 0 _ rfl
                          have f010 := S11.p1.cells_fz 0
                          refine hK.out _ _ ?_ (fun hHeld => ?_)
                          · trivial
                          clear hK K
                          try simp only [Act.put, List.setIfInBounds_toArray, List.set_cons_zero, List.set_cons_succ]
                          refine wpAnyH_take (i := 17) (oi := _) (v := ?_) rfl (by kernel_rfl) (by kernel_rfl) (by kernel_rfl) (fun _ _ _ h => h) (Or.inl ⟨by rfl, ?_⟩) hHeld ?_
                          rotate_left
                          · intro w' hSw
                            (try dsimp only at hSw)
                            go_simp
                            try with_reducible rfl
                          try simp only [Act.put, List.setIfInBounds_toArray, List.set_cons_zero, List.set_cons_succ]
                          refine wpAnyH_take (i := 18) (oi := _) (v := ?_) rfl (by kernel_rfl) (by kernel_rfl) (by kernel_rfl) (fun _ _ _ h => h) (Or.inl ⟨by rfl, ?_⟩) hHeld ?_
                          rotate_left
                          · intro w' hSw
                            (try dsimp only at hSw)
                            go_simp
                            try with_reducible rfl
                          try simp only [Act.put, List.setIfInBounds_toArray, List.set_cons_zero, List.set_cons_succ]
                          refine wpAnyH_ready (rs := [19]) (by kernel_rfl) (by simp) ?_
                          refine AllReadyH.cons rfl (fun K hK => ?_) ?_
                          · go_simp
                            refine hK.out _ _ ?_ (fun hHeld => ?_)
                            · trivial
                            clear hK K
                            try simp only [Act.put, List.setIfInBounds_toArray, List.set_cons_zero, List.set_cons_succ]
                            refine wpAnyH_done (by kernel_rfl) ?_ _
                            simp only [Nat.zero_add, Nat.add_zero, List.nil_append] at S11
                            have hN : i = (mdel M1 s).length := by rw [← HCUT.out]; simp; omega
                            have hX : (M1.take i).flatMap entC ++ (M1.drop (i + 1)).flatMap entC = (mdel M1 s).flatMap entC := by rw [← HCUT.out]; simp [List.flatMap_append]
                            have S12 := (S11.p1.setc 0 (.slice A6 (i) c6)).p2.drop
                            have S13 : Sat g (w10.setCell ⟨b, 0, none⟩ (.slice A6 (i) c6)) (modA b (mdel M1 s) :: L) := by
                              refine Sat.modShut (v := .slice A6 (mdel M1 s).length c6) ?_
                              rw [← hN, ← hX]
                              exact S12
                            have HS13 := hide S13
                            clear S13 S12 S11 S10 S9
                            go_wp2_with fail
                            go_ret
                            exact HR.out (0, mdel M1 s) HE.out _ HS13.out
                          exact AllReadyH.nil
                        exact AllReadyH.nil
                      exact AllReadyH.nil
                    exact AllReadyH.nil
                  refine AllReadyH.cons rfl (fun K hK => ?_) ?_
                  · go_simp
                    refine hK.out _ _ ?_ (fun hHeld => ?_)
                    · trivial
                    clear hK K
                    try simp only [Act.put, List.setIfInBounds_toArray, List.set_cons_zero, List.set_cons_succ]
                    refine wpAnyH_take (i := 15) (oi := _) (v := ?_) rfl (by kernel_rfl) (by kernel_rfl) (by kernel_rfl) (fun _ _ _ h => h) (Or.inl ⟨by rfl, ?_⟩) hHeld ?_
                    rotate_left
                    · intro w' hSw
                      (try dsimp only at hSw)
                      go_simp
                      try with_reducible rfl
                    try simp only [Act.put, List.setIfInBounds_toArray, List.set_cons_zero, List.set_cons_succ]
                    refine wpAnyH_ready (rs := [1]) (by kernel_rfl) (by simp) ?_
                    refine AllReadyH.cons rfl (fun K hK => ?_) ?_
                    · go_simp
                      refine hK.out _ _ ?_ (fun hHeld => ?_)
                      · trivial
                      clear hK K
                      try simp only [Act.put, List.setIfInBounds_toArray, List.set_cons_zero, List.set_cons_succ]
                      refine wpAnyH_ready (rs := [8]) (by kernel_rfl) (by simp) ?_
                      refine AllReadyH.cons rfl (fun K hK => ?_) ?_
                      · refine step_app slE rfl (.tmp 49) (.tmp 55) rfl (g := g) (S := ((S9.box #[] 71 rfl).drew).rowOf 8 0 rfl (Nat.zero_le _)) (by go_simp) (c := (i + 1)) hsrc1 (by go_simp) (oneEn _) (by unfold maxLen; omega) (by omega) ?_
                        intro A5 c5 w9 S10
                        have c09 := S10.p1.cell 0 _ rfl
                        refine hK.out _ _ ?_ (fun hHeld => ?_)
                        · trivial
                        clear hK K
                        try simp only [Act.put, List.setIfInBounds_toArray, List.set_cons_zero, List.set_cons_succ]
                        refine wpAnyH_ready (rs := [16]) (by kernel_rfl) (by simp) ?_
                        refine AllReadyH.cons rfl (fun K hK => ?_) ?_
                        · refine step_app slE rfl (.tmp 56) (.tmp 63) rfl (g := g) (S := S10) (by go_simp) (c := 0) (Src.zeroT (A := some ⟨rb, 0, none⟩) (n := 0) (xs := (M1.drop (i + 1)).flatMap entC) rfl (by rw [List.drop_eq_nil_of_le (by omega)]; rfl)) (by go_simp) (oneEn _) (by unfold maxLen; omega) (by omega) ?_
                          intro A6 c6 w10 S11
                          have c010 := S11.p1.cell 0 _ rfl
                          have f010 := S11.p1.cells_fz 0
                          refine hK.out _ _ ?_ (fun hHeld => ?_)
                          · trivial
                          clear hK K
                          try simp only [Act.put, List.setIfInBounds_toArray, List.set_cons_zero, List.set_cons_succ]
                          refine wpAnyH_take (i := 17) (oi := _) (v := ?_) rfl (by kernel_rfl) (by kernel_rfl) (by kernel_rfl) (fun _ _ _ h => h) (Or.inl ⟨by rfl, ?_⟩) hHeld ?_
                          rotate_left
                          · intro w' hSw
                            (try dsimp only at hSw)
                            go_simp
                            try with_reducible rfl
                          try simp only [Act.put, List.setIfInBounds_toArray, List.set_cons_zero, List.set_cons_succ]
                          refine wpAnyH_take (i := 18) (oi := _) (v := ?_) rfl (by kernel_rfl) (by kernel_rfl) (by kernel_rfl) (fun _ _ _ h => h) (Or.inl ⟨by rfl, ?_⟩) hHeld ?_
                          rotate_left
                          · intro w' hSw
                            (try dsimp only at hSw)
                            go_simp
                            try with_reducible rfl
                          try simp only [Act.put, List.setIfInBounds_toArray, List.set_cons_zero, List.set_cons_succ]
                          refine wpAnyH_ready (rs := [19]) (by kernel_rfl) (by simp) ?_
                          refine AllReadyH.cons rfl (fun K hK => ?_) ?_
                          · go_simp
                            refine hK.out _ _ ?_ (fun hHeld => ?_)
                            · trivial
                            clear hK K
                            try simp only [Act.put, List.setIfInBounds_toArray, List.set_cons_zero, List.set_cons_succ]
                            refine wpAnyH_done (by kernel_rfl) ?_ _
                            simp only [Nat.zero_add, Nat.add_zero, List.nil_append] at S11
                            have hN : i = (mdel M1 s).length := by rw [← HCUT.out]; simp; omega
                            have hX : (M1.take i).flatMap entC ++ (M1.drop (i + 1)).flatMap entC = (mdel M1 s).flatMap entC := by rw [← HCUT.out]; simp [List.flatMap_append]
                            have S12 := (S11.p1.setc 0 (.slice A6 (i) c6)).p2.drop
                            have S13 : Sat g (w10.setCell ⟨b, 0, none⟩ (.slice A6 (i) c6)) (modA b (mdel M1 s) :: L) := by
                              refine Sat.modShut (v := .slice A6 (mdel M1 s).length c6) ?_
                              rw [← hN, ← hX]
                              exact S12
                            have HS13 := hide S13
                            clear S13 S12 S11 S10 S9
                            go_wp2_with fail
                            go_ret
                            exact HR.out (0, mdel M1 s) HE.out _ HS13.out
                          exact AllReadyH.nil
                        exact AllReadyH.nil
                      exact AllReadyH.nil
                    exact AllReadyH.nil
                  exact AllReadyH.nil
                refine AllReadyH.cons rfl (fun K hK => ?_) ?_
                · go_simp
                  refine hK.out _ _ ?_ (fun hHeld => ?_)
                  · trivial
                  clear hK K
                  try simp only [Act.put, List.setIfInBounds_toArray, List.set_cons_zero, List.set_cons_succ]
                  refine wpAnyH_take (i := 15) (oi := _) (v := ?_) rfl (by kernel_rfl) (by kernel_rfl) (by kernel_rfl) (fun _ _ _ h => h) (Or.inl ⟨by rfl, ?_⟩) hHeld ?_
                  rotate_left
                  · intro w' hSw
                    (try dsimp only at hSw)
                    go_simp
                    try with_reducible rfl
                  try simp only [Act.put, List.setIfInBounds_toArray, List.set_cons_zero, List.set_cons_succ]
                  refine wpAnyH_ready (rs := [1, 5]) (by kernel_rfl) (by simp) ?_
                  refine AllReadyH.cons rfl (fun K hK => ?_) ?_
                  · go_simp
                    refine hK.out _ _ ?_ (fun hHeld => ?_)
                    · trivial
                    clear hK K
                    try simp only [Act.put, List.setIfInBounds_toArray, List.set_cons_zero, List.set_cons_succ]
                    refine wpAnyH_ready (rs := [5]) (by kernel_rfl) (by simp) ?_
                    refine AllReadyH.cons rfl (fun K hK => ?_) ?_
                    · go_simp
                      refine hK.out _ _ ?_ (fun hHeld => ?_)
                      · trivial
                      clear hK K
                      try simp only [Act.put, List.setIfInBounds_toArray, List.set_cons_zero, List.set_cons_succ]
                      refine wpAnyH_take (i := 7) (oi := _) (v := ?_) rfl (by kernel_rfl) (by kernel_rfl) (by kernel_rfl) (fun _ _ _ h => h) (Or.inl ⟨by rfl, ?_⟩) hHeld ?_
                      rotate_left
                      · intro w' hSw
                        (try dsimp only at hSw)
                        go_simp
                        try with_reducible rfl
                      try simp only [Act.put, List.setIfInBounds_toArray, List.set_cons_zero, List.set_cons_succ]
                      refine wpAnyH_ready (rs := [8]) (by kernel_rfl) (by simp) ?_
                      refine AllReadyH.cons rfl (fun K hK => ?_) ?_
                      · refine step_app slE rfl (.tmp 49) (.tmp 55) rfl (g := g) (S := ((S9.box #[] 71 rfl).drew).rowOf 8 0 rfl (Nat.zero_le _)) (by go_simp) (c := (i + 1)) hsrc1 (by go_simp) (oneEn _) (by unfold maxLen; omega) (by omega) ?_
                        intro A5 c5 w9 S10
                        have c09 := S10.p1.cell 0 _ rfl
                        refine hK.out _ _ ?_ (fun hHeld => ?_)
                        · trivial
                        clear hK K
                        try simp only [Act.put, List.setIfInBounds_toArray, List.set_cons_zero, List.set_cons_succ]
                        refine wpAnyH_ready (rs := [16]) (by kernel_rfl) (by simp) ?_
                        refine AllReadyH.cons rfl (fun K hK => ?_) ?_
                        · refine step_app slE rfl (.tmp 56) (.tmp 63) rfl (g := g) (S := S10) (by go_simp) (c := 0) (Src.zeroT (A := some ⟨rb, 0, none⟩) (n := 0) (xs := (M1.drop (i + 1)).flatMap entC) rfl (by rw [List.drop_eq_nil_of_le (by omega)]; rfl)) (by go_simp) (oneEn _) (by unfold maxLen; omega) (by omega) ?_
                          intro A6 c6 w10 S11
                          have c010 := S11.p1.cell 0 _ rfl
                          have f010 := S11.p1.cells_fz 0
                          refine hK.out _ _ ?_ (fun hHeld => ?_)
                          · trivial
                          clear hK K
                          try simp only [Act.put, List.setIfInBounds_toArray, List.set_cons_zero, List.set_cons_succ]
                          refine wpAnyH_take (i := 17) (oi := _) (v := ?_) rfl (by kernel_rfl) (by kernel_rfl) (by kernel_rfl) (fun _ _ _ h => h) (Or.inl ⟨by rfl, ?_⟩) hHeld ?_
                          rotate_left
                          · intro w' hSw
                            (try dsimp only at hSw)
                            go_simp
                            try with_reducible rfl
                          try simp only [Act.put, List.setIfInBounds_toArray, List.set_cons_zero, List.set_cons_succ]
                          refine wpAnyH_take (i := 18) (oi := _) (v := ?_) rfl (by kernel_rfl) (by kernel_rfl) (by kernel_rfl) (fun _ _ _ h => h) (Or.inl ⟨by rfl, ?_⟩) hHeld ?_
                          rotate_left
                          · intro w' hSw
                            (try dsimp only at hSw)
                            go_simp
                            try with_reducible rfl
                          try simp only [Act.put, List.setIfInBounds_toArray, List.set_cons_zero, List.set_cons_succ]
                          refine wpAnyH_ready (rs := [19]) (by kernel_rfl) (by simp) ?_
                          refine AllReadyH.cons rfl (fun K hK => ?_) ?_
                          · go_simp
                            refine hK.out _ _ ?_ (fun hHeld => ?_)
                            · trivial
                            clear hK K
                            try simp only [Act.put, List.setIfInBounds_toArray, List.set_cons_zero, List.set_cons_succ]
                            refine wpAnyH_done (by kernel_rfl) ?_ _
                            simp only [Nat.zero_add, Nat.add_zero, List.nil_append] at S11
                            have hN : i = (mdel M1 s).length := by rw [← HCUT.out]; simp; omega
                            have hX : (M1.take i).flatMap entC ++ (M1.drop (i + 1)).flatMap entC = (mdel M1 s).flatMap entC := by rw [← HCUT.out]; simp [List.flatMap_append]
                            have S12 := (S11.p1.setc 0 (.slice A6 (i) c6)).p2.drop
                            have S13 : Sat g (w10.setCell ⟨b, 0, none⟩ (.slice A6 (i) c6)) (modA b (mdel M1 s) :: L) := by
                              refine Sat.modShut (v := .slice A6 (mdel M1 s).length c6) ?_
                              rw [← hN, ← hX]
                              exact S12
                            have HS13 := hide S13
                            clear S13 S12 S11 S10 S9
                            go_wp2_with fail
                            go_ret
                            exact HR.out (0, mdel M1 s) HE.out _ HS13.out
                          exact AllReadyH.nil
                        exact AllReadyH.nil
                      exact AllReadyH.nil
                    exact AllReadyH.nil
                  refine AllReadyH.cons rfl (fun K hK => ?_) ?_
                  · go_simp
                    refine hK.out _ _ ?_ (fun hHeld => ?_)
                    · trivial
                    clear hK K
                    try simp only [Act.put, List.setIfInBounds_toArray, List.set_cons_zero, List.set_cons_succ]
                    refine wpAnyH_take (i := 7) (oi := _) (v := ?_) rfl (by kernel_rfl) (by kernel_rfl) (by kernel_rfl) (fun _ _ _ h => h) (Or.inl ⟨by rfl, ?_⟩) hHeld ?_
                    rotate_left
                    · intro w' hSw
                      (try dsimp only at hSw)
                      go_simp
                      try with_reducible rfl
                    try simp only [Act.put, List.setIfInBounds_toArray, List.set_cons_zero, List.set_cons_succ]
                    refine wpAnyH_ready (rs := [1]) (by kernel_rfl) (by simp) ?_
                    refine AllReadyH.cons rfl (fun K hK => ?_) ?_
                    · go_simp
                      refine hK.out _ _ ?_ (fun hHeld => ?_)
                      · trivial
                      clear hK K
                      try simp only [Act.put, List.setIfInBounds_toArray, List.set_cons_zero, List.set_cons_succ]
                      refine wpAnyH_ready (rs := [8]) (by kernel_rfl) (by simp) ?_
                      refine AllReadyH.cons rfl (fun K hK => ?_) ?_
                      · refine step_app slE rfl (.tmp 49) (.tmp 55) rfl (g := g) (S := ((S9.box #[] 71 rfl).drew).rowOf 8 0 rfl (Nat.zero_le _)) (by go_simp) (c := (i + 1)) hsrc1 (by go_simp) (oneEn _) (by unfold maxLen; omega) (by omega) ?_
                        intro A5 c5 w9 S10
                        have c09 := S10.p1.cell 0 _ rfl
                        refine hK.out _ _ ?_ (fun hHeld => ?_)
                        · trivial
                        clear hK K
                        try simp only [Act.put, List.setIfInBounds_toArray, List.set_cons_zero, List.set_cons_succ]
                        refine wpAnyH_ready (rs := [16]) (by kernel_rfl) (by simp) ?_
                        refine AllReadyH.cons rfl (fun K hK => ?_) ?_
                        · refine step_app slE rfl (.tmp 56) (.tmp 63) rfl (g := g) (S := S10) (by go_simp) (c := 0) (Src.zeroT (A := some ⟨rb, 0, none⟩) (n := 0) (xs := (M1.drop (i + 1)).flatMap entC) rfl (by rw [List.drop_eq_nil_of_le (by omega)]; rfl)) (by go_simp) (oneEn _) (by unfold maxLen; omega) (by omega) ?_
                          intro A6 c6 w10 S11
                          have c010 := S11.p1.cell 0 _ rfl
                          have f010 := S11.p1.cells_fz 0
                          refine hK.out _ _ ?_ (fun hHeld => ?_)
                          · trivial
                          clear hK K
                          try simp only [Act.put, List.setIfInBounds_toArray, List.set_cons_zero, List.set_cons_succ]
                          refine wpAnyH_take (i := 17) (oi := _) (v := ?_) rfl (by kernel_rfl) (by kernel_rfl) (by kernel_rfl) (fun _ _ _ h => h) (Or.inl ⟨by rfl, ?_⟩) hHeld ?_
                          rotate_left
                          · intro w' hSw
                            (try dsimp only at hSw)
                            go_simp
                            try with_reducible rfl
                          try simp only [Act.put, List.setIfInBounds_toArray, List.set_cons_zero, List.set_cons_succ]
                          refine wpAnyH_take (i := 18) (oi := _) (v := ?_) rfl (by kernel_rfl) (by kernel_rfl) (by kernel_rfl) (fun _ _ _ h => h) (Or.inl ⟨by rfl, ?_⟩) hHeld ?_
                          rotate_left
                          · intro w' hSw
                            (try dsimp only at hSw)
                            go_simp
                            try with_reducible rfl
                          try simp only [Act.put, List.setIfInBounds_toArray, List.set_cons_zero, List.set_cons_succ]
                          refine wpAnyH_ready (rs := [19]) (by kernel_rfl) (by simp) ?_
                          refine AllReadyH.cons rfl (fun K hK => ?_) ?_
                          · go_simp
                            refine hK.out _ _ ?_ (fun hHeld => ?_)
                            · trivial
                            clear hK K
                            try simp only [Act.put, List.setIfInBounds_toArray, List.set_cons_zero, List.set_cons_succ]
                            refine wpAnyH_done (by kernel_rfl) ?_ _
                            simp only [Nat.zero_add, Nat.add_zero, List.nil_append] at S11
                            have hN : i = (mdel M1 s).length := by rw [← HCUT.out]; simp; omega
                            have hX : (M1.take i).flatMap entC ++ (M1.drop (i + 1)).flatMap entC = (mdel M1 s).flatMap entC := by rw [← HCUT.out]; simp [List.flatMap_append]
                            have S12 := (S11.p1.setc 0 (.slice A6 (i) c6)).p2.drop
                            have S13 : Sat g (w10.setCell ⟨b, 0, none⟩ (.slice A6 (i) c6)) (modA b (mdel M1 s) :: L) := by
                              refine Sat.modShut (v := .slice A6 (mdel M1 s).length c6) ?_
                              rw [← hN, ← hX]
                              exact S12
                            have HS13 := hide S13
                            clear S13 S12 S11 S10 S9
                            go_wp2_with fail
                            go_ret
                            exact HR.out (0, mdel M1 s) HE.out _ HS13.out
                          exact AllReadyH.nil
                        exact AllReadyH.nil
                      exact AllReadyH.nil
                    exact AllReadyH.nil
                  exact AllReadyH.nil
                exact AllReadyH.nil

              · refine wp_region_held_drew (S := fun _ => True) (by kernel_rfl) ?_ (fun hHeld => ?_)
                · trivial
                refine wpAnyH_take (i := 0) (oi := _) (v := ?_) rfl (by kernel_rfl) (by kernel_rfl) (by kernel_rfl) (fun _ _ _ h => h) (Or.inl ⟨by rfl, ?_⟩) hHeld ?_
                rotate_left
                · intro w' hSw
                  (try dsimp only at hSw)
                  go_simp
                  try with_reducible rfl
                try simp only [Act.put, List.setIfInBounds_toArray, List.set_cons_zero, List.set_cons_succ]
                refine wpAnyH_take (i := 2) (oi := _) (v := ?_) rfl (by kernel_rfl) (by kernel_rfl) (by kernel_rfl) (fun _ _ _ h => h) (Or.inl ⟨by rfl, ?_⟩) hHeld ?_
                rotate_left
                · intro w' hSw
                  (try dsimp only at hSw)
                  go_simp
                  try with_reducible rfl
                try simp only [Act.put, List.setIfInBounds_toArray, List.set_cons_zero, List.set_cons_succ]
                refine wpAnyH_take (i := 3) (oi := _) (v := ?_) rfl (by kernel_rfl) (by kernel_rfl) (by kernel_rfl) (fun _ _ _ h => h) (Or.inl ⟨by rfl, ?_⟩) hHeld ?_
                rotate_left
                · intro w' hSw
                  (try dsimp only at hSw)
                  go_simp
                  try with_reducible rfl
                try simp only [Act.put, List.setIfInBounds_toArray, List.set_cons_zero, List.set_cons_succ]
                refine wpAnyH_take (i := 4) (oi := _) (v := ?_) rfl (by kernel_rfl) (by kernel_rfl) (by kernel_rfl) (fun _ _ _ h => h) (Or.inl ⟨by rfl, ?_⟩) hHeld ?_
                rotate_left
                · intro w' hSw
                  (try dsimp only at hSw)
                  go_simp
                  try with_reducible rfl
                try simp only [Act.put, List.setIfInBounds_toArray, List.set_cons_zero, List.set_cons_succ]
                refine wpAnyH_take (i := 6) (oi := _) (v := ?_) rfl (by kernel_rfl) (by kernel_rfl) (by kernel_rfl) (fun _ _ _ h => h) (Or.inl ⟨by rfl, ?_⟩) hHeld ?_
                rotate_left
                · intro w' hSw
                  (try dsimp only at hSw)
                  go_simp
                  try with_reducible rfl
                try simp only [Act.put, List.setIfInBounds_toArray, List.set_cons_zero, List.set_cons_succ]
                refine wpAnyH_take (i := 9) (oi := _) (v := ?_) rfl (by kernel_rfl) (by kernel_rfl) (by kernel_rfl) (fun _ _ _ h => h) (Or.inl ⟨by rfl, ?_⟩) hHeld ?_
                rotate_left
                · intro w' hSw
                  (try dsimp only at hSw)
                  go_simp
                  try with_reducible rfl
                try simp only [Act.put, List.setIfInBounds_toArray, List.set_cons_zero, List.set_cons_succ]
                refine wpAnyH_take (i := 10) (oi := _) (v := ?_) rfl (by kernel_rfl) (by kernel_rfl) (by kernel_rfl) (fun _ _ _ h => h) (Or.inl ⟨by rfl, ?_⟩) hHeld ?_
                rotate_left
                · intro w' hSw
                  (try dsimp only at hSw)
                  go_simp
                  try with_reducible rfl
                try simp only [Act.put, List.setIfInBounds_toArray, List.set_cons_zero, List.set_cons_succ]
                refine wpAnyH_take (i := 11) (oi := _) (v := ?_) rfl (by kernel_rfl) (by kernel_rfl) (by kernel_rfl) (fun _ _ _ h => h) (Or.inl ⟨by rfl, ?_⟩) hHeld ?_
                rotate_left
                · intro w' hSw
                  (try dsimp only at hSw)
                  go_simp
                  try with_reducible rfl
                try simp only [Act.put, List.setIfInBounds_toArray, List.set_cons_zero, List.set_cons_succ]
                refine wpAnyH_take (i := 13) (oi := _) (v := ?_) rfl (by kernel_rfl) (by kernel_rfl) (by kernel_rfl) (fun _ _ _ h => h) (Or.inl ⟨by rfl, ?_⟩) hHeld ?_
                rotate_left
                · intro w' hSw
                  (try dsimp only at hSw)
                  go_simp
                  try with_reducible rfl
                try simp only [Act.put, List.setIfInBounds_toArray, List.set_cons_zero, List.set_cons_succ]
                refine wpAnyH_take (i := 14) (oi := _) (v := ?_) rfl (by kernel_rfl) (by kernel_rfl) (by kernel_rfl) (fun _ _ _ h => h) (Or.inl ⟨by rfl, ?_⟩) hHeld ?_
                rotate_left
                · intro w' hSw
                  (try dsimp only at hSw)
                  go_simp
                  try with_reducible rfl
                try simp only [Act.put, List.setIfInBounds_toArray, List.set_cons_zero, List.set_cons_succ]
                refine wpAnyH_ready (rs := [1, 5, 12]) (by kernel_rfl) (by simp) ?_
                refine AllReadyH.cons rfl (fun K hK => ?_) ?_
                · go_simp
                  refine hK.out _ _ ?_ (fun hHeld => ?_)
                  · trivial
                  clear hK K
                  try simp only [Act.put, List.setIfInBounds_toArray, List.set_cons_zero, List.set_cons_succ]
                  refine wpAnyH_ready (rs := [5, 12]) (by kernel_rfl) (by simp) ?_
                  refine AllReadyH.cons rfl (fun K hK => ?_) ?_
                  · go_simp
                    refine hK.out _ _ ?_ (fun hHeld => ?_)
                    · trivial
                    clear hK K
                    try simp only [Act.put, List.setIfInBounds_toArray, List.set_cons_zero, List.set_cons_succ]
                    refine wpAnyH_take (i := 7) (oi := _) (v := ?_) rfl (by kernel_rfl) (by kernel_rfl) (by kernel_rfl) (fun _ _ _ h => h) (Or.inl ⟨by rfl, ?_⟩) hHeld ?_
                    rotate_left
                    · intro w' hSw
                      (try dsimp only at hSw)
                      go_simp
                      try with_reducible rfl
                    try simp only [Act.put, List.setIfInBounds_toArray, List.set_cons_zero, List.set_cons_succ]
                    refine wpAnyH_ready (rs := [8, 12]) (by kernel_rfl) (by simp) ?_
                    refine AllReadyH.cons rfl (fun K hK => ?_) ?_
                    · refine step_app slE rfl (.tmp 49) (.tmp 55) rfl (g := g) (S := ((S9.box #[] 71 rfl).drew).rowOf 8 0 rfl (Nat.zero_le _)) (by go_simp) (c := c) hsrc1 (by go_simp) (oneEn _) (by unfold maxLen; omega) (by omega) ?_
                      intro A5 c5 w9 S10
                      have c09 := S10.p1.cell 0 _ rfl
                      refine hK.out _ _ ?_ (fun hHeld => ?_)
                      · trivial
                      clear hK K
                      try simp only [Act.put, List.setIfInBounds_toArray, List.set_cons_zero, List.set_cons_succ]
                      refine wpAnyH_ready (rs := [12]) (by kernel_rfl) (by simp) ?_
                      refine AllReadyH.cons rfl (fun K hK => ?_) ?_
                      · go_simp
                        refine hK.out _ _ ?_ (fun hHeld => ?_)
                        · trivial
                        clear hK K
                        try simp only [Act.put, List.setIfInBounds_toArray, List.set_cons_zero, List.set_cons_succ]
                        refine wpAnyH_take (i := 15) (oi := _) (v := ?_) rfl (by kernel_rfl) (by kernel_rfl) (by kernel_rfl) (fun _ _ _ h => h) (Or.inl ⟨by rfl, ?_⟩) hHeld ?_
                        rotate_left
                        · intro w' hSw
                          (try dsimp only at hSw)
                          go_simp
                          try with_reducible rfl
                        try simp only [Act.put, List.setIfInBounds_toArray, List.set_cons_zero, List.set_cons_succ]
                        refine wpAnyH_ready (rs := [16]) (by kernel_rfl) (by simp) ?_
                        refine AllReadyH.cons rfl (fun K hK => ?_) ?_
                        · refine step_app slE rfl (.tmp 56) (.tmp 63) rfl (g := g) (S := S10) (by go_simp) (c := (c - (i + 1))) (by have h := S10.p2.srcT.suf (i + 1) (by omega); rw [flatK_drop (n := 8) (fun _ => rfl), addr_blk] at h; exact h) (by go_simp) (oneEn _) (by unfold maxLen; omega) (by omega) ?_
                          intro A6 c6 w10 S11
                          have c010 := S11.p1.cell 0 _ rfl
                          have f010 := S11.p1.cells_fz 0
                          refine hK.out _ _ ?_ (fun hHeld => ?_)
                          · trivial
                          clear hK K
                          try simp only [Act.put, List.setIfInBounds_toArray, List.set_cons_zero, List.set_cons_succ]
                          refine wpAnyH_take (i := 17) (oi := _) (v := ?_) rfl (by kernel_rfl) (by kernel_rfl) (by kernel_rfl) (fun _ _ _ h => h) (Or.inl ⟨by rfl, ?_⟩) hHeld ?_
                          rotate_left
                          · intro w' hSw
                            (try dsimp only at hSw)
                            go_simp
                            try with_reducible rfl
                          try simp only [Act.put, List.setIfInBounds_toArray, List.set_cons_zero, List.set_cons_succ]
                          refine wpAnyH_take (i := 18) (oi := _) (v := ?_) rfl (by kernel_rfl) (by kernel_rfl) (by kernel_rfl) (fun _ _ _ h => h) (Or.inl ⟨by rfl, ?_⟩) hHeld ?_
                          rotate_left
                          · intro w' hSw
                            (try dsimp only at hSw)
                            go_simp
                            try with_reducible rfl
                          try simp only [Act.put, List.setIfInBounds_toArray, List.set_cons_zero, List.set_cons_succ]
                          refine wpAnyH_ready (rs := [19]) (by kernel_rfl) (by simp) ?_
                          refine AllReadyH.cons rfl (fun K hK => ?_) ?_
                          · go_simp
                            refine hK.out _ _ ?_ (fun hHeld => ?_)
                            · trivial
                            clear hK K
                            try simp only [Act.put, List.setIfInBounds_toArray, List.set_cons_zero, List.set_cons_succ]
                            refine wpAnyH_done (by kernel_rfl) ?_ _
                            simp only [Nat.zero_add, Nat.add_zero, List.nil_append] at S11
                            have hN : i + (M1.length - (i + 1)) = (mdel M1 s).length := by rw [← HCUT.out]; simp; omega
                            have hX : (M1.take i).flatMap entC ++ (M1.drop (i + 1)).flatMap entC = (mdel M1 s).flatMap entC := by rw [← HCUT.out]; simp [List.flatMap_append]
                            have S12 := (S11.p1.setc 0 (.slice A6 (i + (M1.length - (i + 1))) c6)).p2.drop
                            have S13 : Sat g (w10.setCell ⟨b, 0, none⟩ (.slice A6 (i + (M1.length - (i + 1))) c6)) (modA b (mdel M1 s) :: L) := by
                              refine Sat.modShut (v := .slice A6 (mdel M1 s).length c6) ?_
                              rw [← hN, ← hX]
                              exact S12
                            have HS13 := hide S13
                            clear S13 S12 S11 S10 S9
                            go_wp2_with fail
                            go_ret
                            exact HR.out (0, mdel M1 s) HE.out _ HS13.out
                          exact AllReadyH.nil
                        exact AllReadyH.nil
                      exact AllReadyH.nil
                    refine AllReadyH.cons rfl (fun K hK => ?_) ?_
                    · go_simp
                      refine hK.out _ _ ?_ (fun hHeld => ?_)
                      · trivial
                      clear hK K
                      try simp only [Act.put, List.setIfInBounds_toArray, List.set_cons_zero, List.set_cons_succ]
                      refine wpAnyH_take (i := 15) (oi := _) (v := ?_) rfl (by kernel_rfl) (by kernel_rfl) (by kernel_rfl) (fun _ _ _ h => h) (Or.inl ⟨by rfl, ?_⟩) hHeld ?_
                      rotate_left
                      · intro w' hSw
                        (try dsimp only at hSw)
                        go_simp
                        try with_reducible rfl
                      try simp only [Act.put, List.setIfInBounds_toArray, List.set_cons_zero, List.set_cons_succ]
                      refine wpAnyH_ready (rs := [8]) (by kernel_rfl) (by simp) ?_
                      refine AllReadyH.cons rfl (fun K hK => ?_) ?_
                      · refine step_app slE rfl (.tmp 49) (.tmp 55) rfl (g := g) (S := ((S9.box #[] 71 rfl).drew).rowOf 8 0 rfl (Nat.zero_le _)) (by go_simp) (c := c) hsrc1 (by go_simp) (oneEn _) (by unfold maxLen; omega) (by omega) ?_
                        intro A5 c5 w9 S10
                        have c09 := S10.p1.cell 0 _ rfl
                        refine hK.out _ _ ?_ (fun hHeld => ?_)
                        · trivial
                        clear hK K
                        try simp only [Act.put, List.setIfInBounds_toArray, List.set_cons_zero, List.set_cons_succ]
                        refine wpAnyH_ready (rs := [16]) (by kernel_rfl) (by simp) ?_
                        refine AllReadyH.cons rfl (fun K hK => ?_) ?_
                        · refine step_app slE rfl (.tmp 56) (.tmp 63) rfl (g := g) (S := S10) (by go_simp) (c := (c - (i + 1))) (by have h := S10.p2.srcT.suf (i + 1) (by omega); rw [flatK_drop (n := 8) (fun _ => rfl), addr_blk] at h; exact h) (by go_simp) (oneEn _) (by unfold maxLen; omega) (by omega) ?_
                          intro A6 c6 w10 S11
                          have c010 := S11.p1.cell 0 _ rfl
                          have f010 := S11.p1.cells_fz 0
                          refine hK.out _ _ ?_ (fun hHeld => ?_)
                          · trivial
                          clear hK K
                          try simp only [Act.put, List.setIfInBounds_toArray, List.set_cons_zero, List.set_cons_succ]
                          refine wpAnyH_take (i := 17) (oi := _) (v := ?_) rfl (by kernel_rfl) (by kernel_rfl) (by kernel_rfl) (fun _ _ _ h => h) (Or.inl ⟨by rfl, ?_⟩) hHeld ?_
                          rotate_left
                          · intro w' hSw
                            (try dsimp only at hSw)
                            go_simp
                            try with_reducible rfl
                          try simp only [Act.put, List.setIfInBounds_toArray, List.set_cons_zero, List.set_cons_succ]
                          refine wpAnyH_take (i := 18) (oi := _) (v := ?_) rfl (by kernel_rfl) (by kernel_rfl) (by kernel_rfl) (fun _ _ _ h => h) (Or.inl ⟨by rfl, ?_⟩) hHeld ?_
                          rotate_left
                          · intro w' hSw
                            (try dsimp only at hSw)
                            go_simp
                            try with_reducible rfl
                          try simp only [Act.put, List.setIfInBounds_toArray, List.set_cons_zero, List.set_cons_succ]
                          refine wpAnyH_ready (rs := [19]) (by kernel_rfl) (by simp) ?_
                          refine AllReadyH.cons rfl (fun K hK => ?_) ?_
                          · go_simp
                            refine hK.out _ _ ?_ (fun hHeld => ?_)
                            · trivial
                            clear hK K
                            try simp only [Act.put, List.setIfInBounds_toArray, List.set_cons_zero, List.set_cons_succ]
                            refine wpAnyH_done (by kernel_rfl) ?_ _
                            simp only [Nat.zero_add, Nat.add_zero, List.nil_append] at S11
                            have hN : i + (M1.length - (i + 1)) = (mdel M1 s).length := by rw [← HCUT.out]; simp; omega
                            have hX : (M1.take i).flatMap entC ++ (M1.drop (i + 1)).flatMap entC = (mdel M1 s).flatMap entC := by rw [← HCUT.out]; simp [List.flatMap_append]
                            have S12 := (S11.p1.setc 0 (.slice A6 (i + (M1.length - (i + 1))) c6)).p2.drop
                            have S13 : Sat g (w10.setCell ⟨b, 0, none⟩ (.slice A6 (i + (M1.length - (i + 1))) c6)) (modA b (mdel M1 s) :: L) := by
                              refine Sat.modShut (v := .slice A6 (mdel M1 s).length c6) ?_
                              rw [← hN, ← hX]
                              exact S12
                            have HS13 := hide S13
                            clear S13 S12 S11 S10 S9
                            go_wp2_with fail
                            go_ret
                            exact HR.out (0, mdel M1 s) HE.out _ HS13.out
                          exact AllReadyH.nil
                        exact AllReadyH.nil
                      exact AllReadyH.nil
                    exact AllReadyH.nil
                  refine AllReadyH.cons rfl (fun K hK => ?_) ?_
                  · go_simp
                    refine hK.out _ _ ?_ (fun hHeld => ?_)
                    · trivial
                    clear hK K
                    try simp only [Act.put, List.setIfInBounds_toArray, List.set_cons_zero, List.set_cons_succ]
                    refine wpAnyH_take (i := 15) (oi := _) (v := ?_) rfl (by kernel_rfl) (by kernel_rfl) (by kernel_rfl) (fun _ _ _ h => h) (Or.inl ⟨by rfl, ?_⟩) hHeld ?_
                    rotate_left
                    · intro w' hSw
                      (try dsimp only at hSw)
                      go_simp
                      try with_reducible rfl
                    try simp only [Act.put, List.setIfInBounds_toArray, List.set_cons_zero, List.set_cons_succ]
                    refine wpAnyH_ready (rs := [5]) (by kernel_rfl) (by simp) ?_
                    refine AllReadyH.cons rfl (fun K hK => ?_) ?_
                    · go_simp
                      refine hK.out _ _ ?_ (fun hHeld => ?_)
                      · trivial
                      clear hK K
                      try simp only [Act.put, List.setIfInBounds_toArray, List.set_cons_zero, List.set_cons_succ]
                      refine wpAnyH_take (i := 7) (oi := _) (v := ?_) rfl (by kernel_rfl) (by kernel_rfl) (by kernel_rfl) (fun _ _ _ h => h) (Or.inl ⟨by rfl, ?_⟩) hHeld ?_
                      rotate_left
                      · intro w' hSw
                        (try dsimp only at hSw)
                        go_simp
                        try with_reducible rfl
                      try simp only [Act.put, List.setIfInBounds_toArray, List.set_cons_zero, List.set_cons_succ]
                      refine wpAnyH_ready (rs := [8]) (by kernel_rfl) (by simp) ?_
                      refine AllReadyH.cons rfl (fun K hK => ?_) ?_
                      · refine step_app slE rfl (.tmp 49) (.tmp 55) rfl (g := g) (S := ((S9.box #[] 71 rfl).drew).rowOf 8 0 rfl (Nat.zero_le _)) (by go_simp) (c := c) hsrc1 (by go_simp) (oneEn _) (by unfold maxLen; omega) (by omega) ?_
                        intro A5 c5 w9 S10
                        have c09 := S10.p1.cell 0 _ rfl
                        refine hK.out _ _ ?_ (fun hHeld => ?_)
                        · trivial
                        clear hK K
                        try simp only [Act.put, List.setIfInBounds_toArray, List.set_cons_zero, List.set_cons_succ]
                        refine wpAnyH_ready (rs := [16]) (by kernel_rfl) (by simp) ?_
                        refine AllReadyH.cons rfl (fun K hK => ?_) ?_
                        · refine step_app slE rfl (.tmp 56) (.tmp 63) rfl (g := g) (S := S10) (by go_simp) (c := (c - (i + 1))) (by have h := S10.p2.srcT.suf (i + 1) (by omega); rw [flatK_drop (n := 8) (fun _ => rfl), addr_blk] at h; exact h) (by go_simp) (oneEn _) (by unfold maxLen; omega) (by omega) ?_
                          intro A6 c6 w10 S11
                          have c010 := S11.p1.cell 0 _ rfl
                          have f010 := S11.p1.cells_fz 0
                          refine hK.out _ _ ?_ (fun hHeld => ?_)
                          · trivial
                          clear hK K
                          try simp only [Act.put, List.setIfInBounds_toArray, List.set_cons_zero, List.set_cons_succ]
                          refine wpAnyH_take (i := 17) (oi := _) (v := ?_) rfl (by kernel_rfl) (by kernel_rfl) (by kernel_rfl) (fun _ _ _ h => h) (Or.inl ⟨by rfl, ?_⟩) hHeld ?_
                          rotate_left
                          · intro w' hSw
                            (try dsimp only at hSw)
                            go_simp
                            try with_reducible rfl
                          try simp only [Act.put, List.setIfInBounds_toArray, List.set_cons_zero, List.set_cons_succ]
                          refine wpAnyH_take (i := 18) (oi := _) (v := ?_) rfl (by kernel_rfl) (by kernel_rfl) (by kernel_rfl) (fun _ _ _ h => h) (Or.inl ⟨by rfl, ?_⟩) hHeld ?_
                          rotate_left
                          · intro w' hSw
                            (try dsimp only at hSw)
                            go_simp
                            try with_reducible rfl
                          try simp only [Act.put, List.setIfInBounds_toArray, List.set_cons_zero, List.set_cons_succ]
                          refine wpAnyH_ready (rs := [19]) (by kernel_rfl) (by simp) ?_
                          refine AllReadyH.cons rfl (fun K hK => ?_) ?_
                          · go_simp
                            refine hK.out _ _ ?_ (fun hHeld => ?_)
                            · trivial
                            clear hK K
                            try simp only [Act.put, List.setIfInBounds_toArray, List.set_cons_zero, List.set_cons_succ]
                            refine wpAnyH_done (by kernel_rfl) ?_ _
                            simp only [Nat.zero_add, Nat.add_zero, List.nil_append] at S11
                            have hN : i + (M1.length - (i + 1)) = (mdel M1 s).length := by rw [← HCUT.out]; simp; omega
                            have hX : (M1.take i).flatMap entC ++ (M1.drop (i + 1)).flatMap entC = (mdel M1 s).flatMap entC := by rw [← HCUT.out]; simp [List.flatMap_append]
                            have S12 := (S11.p1.setc 0 (.slice A6 (i + (M1.length - (i + 1))) c6)).p2.drop
                            have S13 : Sat g (w10.setCell ⟨b, 0, none⟩ (.slice A6 (i + (M1.length - (i + 1))) c6)) (modA b (mdel M1 s) :: L) := by
                              refine Sat.modShut (v := .slice A6 (mdel M1 s).length c6) ?_
                              rw [← hN, ← hX]
                              exact S12
                            have HS13 := hide S13
                            clear S13 S12 S11 S10 S9
                            go_wp2_with fail
                            go_ret
                            exact HR.out (0, mdel M1 s) HE.out _ HS13.out
                          exact AllReadyH.nil
                        exact AllReadyH.nil
                      exact AllReadyH.nil
                    exact AllReadyH.nil
                  exact AllReadyH.nil
                refine AllReadyH.cons rfl (fun K hK => ?_) ?_
                · go_simp
                  refine hK.out _ _ ?_ (fun hHeld => ?_)
                  · trivial
                  clear hK K
                  try simp only [Act.put, List.setIfInBounds_toArray, List.set_cons_zero, List.set_cons_succ]
                  refine wpAnyH_take (i := 7) (oi := _) (v := ?_) rfl (by kernel_rfl) (by kernel_rfl) (by kernel_rfl) (fun _ _ _ h => h) (Or.inl ⟨by rfl, ?_⟩) hHeld ?_
                  rotate_left
                  · intro w' hSw
                    (try dsimp only at hSw)
                    go_simp
                    try with_reducible rfl
                  try simp only [Act.put, List.setIfInBounds_toArray, List.set_cons_zero, List.set_cons_succ]
                  refine wpAnyH_ready (rs := [1, 12]) (by kernel_rfl) (by simp) ?_
                  refine AllReadyH.cons rfl (fun K hK => ?_) ?_
                  · go_simp
                    refine hK.out _ _ ?_ (fun hHeld => ?_)
                    · trivial
                    clear hK K
                    try simp only [Act.put, List.setIfInBounds_toArray, List.set_cons_zero, List.set_cons_succ]
                    refine wpAnyH_ready (rs := [8, 12]) (by kernel_rfl) (by simp) ?_
                    refine AllReadyH.cons rfl (fun K hK => ?_) ?_
                    · refine step_app slE rfl (.tmp 49) (.tmp 55) rfl (g := g) (S := ((S9.box #[] 71 rfl).drew).rowOf 8 0 rfl (Nat.zero_le _)) (by go_simp) (c := c) hsrc1 (by go_simp) (oneEn _) (by unfold maxLen; omega) (by omega) ?_
                      intro A5 c5 w9 S10
                      have c09 := S10.p1.cell 0 _ rfl
                      refine hK.out _ _ ?_ (fun hHeld => ?_)
                      · trivial
                      clear hK K
                      try simp only [Act.put, List.setIfInBounds_toArray, List.set_cons_zero, List.set_cons_succ]
                      refine wpAnyH_ready (rs := [12]) (by kernel_rfl) (by simp) ?_
                      refine AllReadyH.cons rfl (fun K hK => ?_) ?_
                      · go_simp
                        refine hK.out _ _ ?_ (fun hHeld => ?_)
                        · trivial
                        clear hK K
                        try simp only [Act.put, List.setIfInBounds_toArray, List.set_cons_zero, List.set_cons_succ]
                        refine wpAnyH_take (i := 15) (oi := _) (v := ?_) rfl (by kernel_rfl) (by kernel_rfl) (by kernel_rfl) (fun _ _ _ h => h) (Or.inl ⟨by rfl, ?_⟩) hHeld ?_
                        rotate_left
                        · intro w' hSw
                          (try dsimp only at hSw)
                          go_simp
                          try with_reducible rfl
                        try simp only [Act.put, List.setIfInBounds_toArray, List.set_cons_zero, List.set_cons_succ]
                        refine wpAnyH_ready (rs := [16]) (by kernel_rfl) (by simp) ?_
                        refine AllReadyH.cons rfl (fun K hK => ?_) ?_
                        · refine step_app slE rfl (.tmp 56) (.tmp 63) rfl (g := g) (S := S10) (by go_simp) (c := (c - (i + 1))) (by have h := S10.p2.srcT.suf (i + 1) (by omega); rw [flatK_drop (n := 8) (fun _ => rfl), addr_blk] at h; exact h) (by go_simp) (oneEn _) (by unfold maxLen; omega) (by omega) ?_
                          intro A6 c6 w10 S11
                          have c010 := S11.p1.cell 0 _ rfl
                          have f010 := S11.p1.cells_fz 0
                          refine hK.out _ _ ?_ (fun hHeld => ?_)
                          · trivial
                          clear hK K
                          try simp only [Act.put, List.setIfInBounds_toArray, List.set_cons_zero, List.set_cons_succ]
                          refine wpAnyH_take (i := 17) (oi := _) (v := ?_) rfl (by kernel_rfl) (by kernel_rfl) (by kernel_rfl) (fun _ _ _ h => h) (Or.inl ⟨by rfl, ?_⟩) hHeld ?_
                          rotate_left
                          · intro w' hSw
                            (try dsimp only at hSw)
                            go_simp
                            try with_reducible rfl
                          try simp only [Act.put, List.setIfInBounds_toArray, List.set_cons_zero, List.set_cons_succ]
                          refine wpAnyH_take (i := 18) (oi := _) (v := ?_) rfl (by kernel_rfl) (by kernel_rfl) (by kernel_rfl) (fun _ _ _ h => h) (Or.inl ⟨by rfl, ?_⟩) hHeld ?_
                          rotate_left
                          · intro w' hSw
                            (try dsimp only at hSw)
                            go_simp
                            try with_reducible rfl
                          try simp only [Act.put, List.setIfInBounds_toArray, List.set_cons_zero, List.set_cons_succ]
                          refine wpAnyH_ready (rs := [19]) (by kernel_rfl) (by simp) ?_
                          refine AllReadyH.cons rfl (fun K hK => ?_) ?_
                          · go_simp
                            refine hK.out _ _ ?_ (fun hHeld => ?_)
                            · trivial
                            clear hK K
                            try simp only [Act.put, List.setIfInBounds_toArray, List.set_cons_zero, List.set_cons_succ]
                            refine wpAnyH_done (by kernel_rfl) ?_ _
                            simp only [Nat.zero_add, Nat.add_zero, List.nil_append] at S11
                            have hN : i + (M1.length - (i + 1)) = (mdel M1 s).length := by rw [← HCUT.out]; simp; omega
                            have hX : (M1.take i).flatMap entC ++ (M1.drop (i + 1)).flatMap entC = (mdel M1 s).flatMap entC := by rw [← HCUT.out]; simp [List.flatMap_append]
                            have S12 := (S11.p1.setc 0 (.slice A6 (i + (M1.length - (i + 1))) c6)).p2.drop
                            have S13 : Sat g (w10.setCell ⟨b, 0, none⟩ (.slice A6 (i + (M1.length - (i + 1))) c6)) (modA b (mdel M1 s) :: L) := by
                              refine Sat.modShut (v := .slice A6 (mdel M1 s).length c6) ?_
                              rw [← hN, ← hX]
                              exact S12
                            have HS13 := hide S13
                            clear S13 S12 S11 S10 S9
                            go_wp2_with fail
                            go_ret
                            exact HR.out (0, mdel M1 s) HE.out _ HS13.out
                          exact AllReadyH.nil
                        exact AllReadyH.nil
                      exact AllReadyH.nil
                    refine AllReadyH.cons rfl (fun K hK => ?_) ?_
                    · go_simp
                      refine hK.out _ _ ?_ (fun hHeld => ?_)
                      · trivial
                      clear hK K
                      try simp only [Act.put, List.setIfInBounds_toArray, List.set_cons_zero, List.set_cons_succ]
                      refine wpAnyH_take (i := 15) (oi := _) (v := ?_) rfl (by kernel_rfl) (by kernel_rfl) (by kernel_rfl) (fun _ _ _ h => h) (Or.inl ⟨by rfl, ?_⟩) hHeld ?_
                      rotate_left
                      · intro w' hSw
                        (try dsimp only at hSw)
                        go_simp
                        try with_reducible rfl
                      try simp only [Act.put, List.setIfInBounds_toArray, List.set_cons_zero, List.set_cons_succ]
                      refine wpAnyH_ready (rs := [8]) (by kernel_rfl) (by simp) ?_
                      refine AllReadyH.cons rfl (fun K hK => ?_) ?_
                      · refine step_app slE rfl (.tmp 49) (.tmp 55) rfl (g := g) (S := ((S9.box #[] 71 rfl).drew).rowOf 8 0 rfl (Nat.zero_le _)) (by go_simp) (c := c) hsrc1 (by go_simp) (oneEn _) (by unfold maxLen; omega) (by omega) ?_
                        intro A5 c5 w9 S10
                        have c09 := S10.p1.cell 0 _ rfl
                        refine hK.out _ _ ?_ (fun hHeld => ?_)
                        · trivial
                        clear hK K
                        try simp only [Act.put, List.setIfInBounds_toArray, List.set_cons_zero, List.set_cons_succ]
                        refine wpAnyH_ready (rs := [16]) (by kernel_rfl) (by simp) ?_
                        refine AllReadyH.cons rfl (fun K hK => ?_) ?_
                        · refine step_app slE rfl (.tmp 56) (.tmp 63) rfl (g := g) (S := S10) (by go_simp) (c := (c - (i + 1))) (by have h := S10.p2.srcT.suf (i + 1) (by omega); rw [flatK_drop (n := 8) (fun _ => rfl), addr_blk] at h; exact h) (by go_simp) (oneEn _) (by unfold maxLen; omega) (by omega) ?_
                          intro A6 c6 w10 S11
                          have c010 := S11.p1.cell 0 _ rfl
                          have f010 := S11.p1.cells_fz 0
                          refine hK.out _ _ ?_ (fun hHeld => ?_)
                          · trivial
                          clear hK K
                          try simp only [Act.put, List.setIfInBounds_toArray, List.set_cons_zero, List.set_cons_succ]
                          refine wpAnyH_take (i := 17) (oi := _) (v := ?_) rfl (by kernel_rfl) (by kernel_rfl) (by kernel_rfl) (fun _ _ _ h => h) (Or.inl ⟨by rfl, ?_⟩) hHeld ?_
                          rotate_left
                          · intro w' hSw
                            (try dsimp only at hSw)
                            go_simp
                            try with_reducible rfl
                          try simp only [Act.put, List.setIfInBounds_toArray, List.set_cons_zero, List.set_cons_succ]
                          refine wpAnyH_take (i := 18) (oi := _) (v := ?_) rfl (by kernel_rfl) (by kernel_rfl) (by kernel_rfl) (fun _ _ _ h => h) (Or.inl ⟨by rfl, ?_⟩) hHeld ?_
                          rotate_left
                          · intro w' hSw
                            (try dsimp only at hSw)
                            go_simp
                            try with_reducible rfl
                          try simp only [Act.put, List.setIfInBounds_toArray, List.set_cons_zero, List.set_cons_succ]
                          refine wpAnyH_ready (rs := [19]) (by kernel_rfl) (by simp) ?_
                          refine AllReadyH.cons rfl (fun K hK => ?_) ?_
                          · go_simp
                            refine hK.out _ _ ?_ (fun hHeld => ?_)
                            · trivial
                            clear hK K
                            try simp only [Act.put, List.setIfInBounds_toArray, List.set_cons_zero, List.set_cons_succ]
                            refine wpAnyH_done (by kernel_rfl) ?_ _
                            simp only [Nat.zero_add, Nat.add_zero, List.nil_append] at S11
                            have hN : i + (M1.length - (i + 1)) = (mdel M1 s).length := by rw [← HCUT.out]; simp; omega
                            have hX : (M1.take i).flatMap entC ++ (M1.drop (i + 1)).flatMap entC = (mdel M1 s).flatMap entC := by rw [← HCUT.out]; simp [List.flatMap_append]
                            have S12 := (S11.p1.setc 0 (.slice A6 (i + (M1.length - (i + 1))) c6)).p2.drop
                            have S13 : Sat g (w10.setCell ⟨b, 0, none⟩ (.slice A6 (i + (M1.length - (i + 1))) c6)) (modA b (mdel M1 s) :: L) := by
                              refine Sat.modShut (v := .slice A6 (mdel M1 s).length c6) ?_
                              rw [← hN, ← hX]
                              exact S12
                            have HS13 := hide S13
                            clear S13 S12 S11 S10 S9
                            go_wp2_with fail
                            go_ret
                            exact HR.out (0, mdel M1 s) HE.out _ HS13.out
                          exact AllReadyH.nil
                        exact AllReadyH.nil
                      exact AllReadyH.nil
                    exact AllReadyH.nil
                  refine AllReadyH.cons rfl (fun K hK => ?_) ?_
                  · go_simp
                    refine hK.out _ _ ?_ (fun hHeld => ?_)
                    · trivial
                    clear hK K
                    try simp only [Act.put, List.setIfInBounds_toArray, List.set_cons_zero, List.set_cons_succ]
                    refine wpAnyH_take (i := 15) (oi := _) (v := ?_) rfl (by kernel_rfl) (by kernel_rfl) (by kernel_rfl) (fun _ _ _ h => h) (Or.inl ⟨by rfl, ?_⟩) hHeld ?_
                    rotate_left
                    · intro w' hSw
                      (try dsimp only at hSw)
                      go_simp
                      try with_reducible rfl
                    try simp only [Act.put, List.setIfInBounds_toArray, List.set_cons_zero, List.set_cons_succ]
                    refine wpAnyH_ready (rs := [1]) (by kernel_rfl) (by simp) ?_
                    refine AllReadyH.cons rfl (fun K hK => ?_) ?_
                    · go_simp
                      refine hK.out _ _ ?_ (fun hHeld => ?_)
                      · trivial
                      clear hK K
                      try simp only [Act.put, List.setIfInBounds_toArray, List.set_cons_zero, List.set_cons_succ]
                      refine wpAnyH_ready (rs := [8]) (by kernel_rfl) (by simp) ?_
                      refine AllReadyH.cons rfl (fun K hK => ?_) ?_
                      · refine step_app slE rfl (.tmp 49) (.tmp 55) rfl (g := g) (S := ((S9.box #[] 71 rfl).drew).rowOf 8 0 rfl (Nat.zero_le _)) (by go_simp) (c := c) hsrc1 (by go_simp) (oneEn _) (by unfold maxLen; omega) (by omega) ?_
                        intro A5 c5 w9 S10
                        have c09 := S10.p1.cell 0 _ rfl
                        refine hK.out _ _ ?_ (fun hHeld => ?_)
                        · trivial
                        clear hK K
                        try simp only [Act.put, List.setIfInBounds_toArray, List.set_cons_zero, List.set_cons_succ]
                        refine wpAnyH_ready (rs := [16]) (by kernel_rfl) (by simp) ?_
                        refine AllReadyH.cons rfl (fun K hK => ?_) ?_
                        · refine step_app slE rfl (.tmp 56) (.tmp 63) rfl (g := g) (S := S10) (by go_simp) (c := (c - (i + 1))) (by have h := S10.p2.srcT.suf (i + 1) (by omega); rw [flatK_drop (n := 8) (fun _ => rfl), addr_blk] at h; exact h) (by go_simp) (oneEn _) (by unfold maxLen; omega) (by omega) ?_
                          intro A6 c6 w10 S11
                          have c010 := S11.p1.cell 0 _ rfl
                          have f010 := S11.p1.cells_fz 0
                          refine hK.out _ _ ?_ (fun hHeld => ?_)
                          · trivial
                          clear hK K
                          try simp only [Act.put, List.setIfInBounds_toArray, List.set_cons_zero, List.set_cons_succ]
                          refine wpAnyH_take (i := 17) (oi := _) (v := ?_) rfl (by kernel_rfl) (by kernel_rfl) (by kernel_rfl) (fun _ _ _ h => h) (Or.inl ⟨by rfl, ?_⟩) hHeld ?_
                          rotate_left
                          · intro w' hSw
                            (try dsimp only at hSw)
                            go_simp
                            try with_reducible rfl
                          try simp only [Act.put, List.setIfInBounds_toArray, List.set_cons_zero, List.set_cons_succ]
                          refine wpAnyH_take (i := 18) (oi := _) (v := ?_) rfl (by kernel_rfl) (by kernel_rfl) (by kernel_rfl) (fun _ _ _ h => h) (Or.inl ⟨by rfl, ?_⟩) hHeld ?_
                          rotate_left
                          · intro w' hSw
                            (try dsimp only at hSw)
                            go_simp
                            try with_reducible rfl
                          try simp only [Act.put, List.setIfInBounds_toArray, List.set_cons_zero, List.set_cons_succ]
                          refine wpAnyH_ready (rs := [19]) (by kernel_rfl) (by simp) ?_
                          refine AllReadyH.cons rfl (fun K hK => ?_) ?_
                          · go_simp
                            refine hK.out _ _ ?_ (fun hHeld => ?_)
                            · trivial
                            clear hK K
                            try simp only [Act.put, List.setIfInBounds_toArray, List.set_cons_zero, List.set_cons_succ]
                            refine wpAnyH_done (by kernel_rfl) ?_ _
                            simp only [Nat.zero_add, Nat.add_zero, List.nil_append] at S11
                            have hN : i + (M1.length - (i + 1)) = (mdel M1 s).length := by rw [← HCUT.out]; simp; omega
                            have hX : (M1.take i).flatMap entC ++ (M1.drop (i + 1)).flatMap entC = (mdel M1 s).flatMap entC := by rw [← HCUT.out]; simp [List.flatMap_append]
                            have S12 := (S11.p1.setc 0 (.slice A6 (i + (M1.length - (i + 1))) c6)).p2.drop
                            have S13 : Sat g (w10.setCell ⟨b, 0, none⟩ (.slice A6 (i + (M1.length - (i + 1))) c6)) (modA b (mdel M1 s) :: L) := by
                              refine Sat.modShut (v := .slice A6 (mdel M1 s).length c6) ?_
                              rw [← hN, ← hX]
                              exact S12
                            have HS13 := hide S13
                            clear S13 S12 S11 S10 S9
                            go_wp2_with fail
                            go_ret
                            exact HR.out (0, mdel M1 s) HE.out _ HS13.out
                          exact AllReadyH.nil
                        exact AllReadyH.nil
                      exact AllReadyH.nil
                    exact AllReadyH.nil
                  exact AllReadyH.nil
                refine AllReadyH.cons rfl (fun K hK => ?_) ?_
                · go_simp
                  refine hK.out _ _ ?_ (fun hHeld => ?_)
                  · trivial
                  clear hK K
                  try simp only [Act.put, List.setIfInBounds_toArray, List.set_cons_zero, List.set_cons_succ]
                  refine wpAnyH_take (i := 15) (oi := _) (v := ?_) rfl (by kernel_rfl) (by kernel_rfl) (by kernel_rfl) (fun _ _ _ h => h) (Or.inl ⟨by rfl, ?_⟩) hHeld ?_
                  rotate_left
                  · intro w' hSw
                    (try dsimp only at hSw)
                    go_simp
                    try with_reducible rfl
                  try simp only [Act.put, List.setIfInBounds_toArray, List.set_cons_zero, List.set_cons_succ]
                  refine wpAnyH_ready (rs := [1, 5]) (by kernel_rfl) (by simp) ?_
                  refine AllReadyH.cons rfl (fun K hK => ?_) ?_
                  · go_simp
                    refine hK.out _ _ ?_ (fun hHeld => ?_)
                    · trivial
                    clear hK K
                    try simp only [Act.put, List.setIfInBounds_toArray, List.set_cons_zero, List.set_cons_succ]
                    refine wpAnyH_ready (rs := [5]) (by kernel_rfl) (by simp) ?_
                    refine AllReadyH.cons rfl (fun K hK => ?_) ?_
                    · go_simp
                      refine hK.out _ _ ?_ (fun hHeld => ?_)
                      · trivial
                      clear hK K
                      try simp only [Act.put, List.setIfInBounds_toArray, List.set_cons_zero, List.set_cons_succ]
                      refine wpAnyH_take (i := 7) (oi := _) (v := ?_) rfl (by kernel_rfl) (by kernel_rfl) (by kernel_rfl) (fun _ _ _ h => h) (Or.inl ⟨by rfl, ?_⟩) hHeld ?_
                      rotate_left
                      · intro w' hSw
                        (try dsimp only at hSw)
                        go_simp
                        try with_reducible rfl
                      try simp only [Act.put, List.setIfInBounds_toArray, List.set_cons_zero, List.set_cons_succ]
                      refine wpAnyH_ready (rs := [8]) (by kernel_rfl) (by simp) ?_
                      refine AllReadyH.cons rfl (fun K hK => ?_) ?_
                      · refine step_app slE rfl (.tmp 49) (.tmp 55) rfl (g := g) (S := ((S9.box #[] 71 rfl).drew).rowOf 8 0 rfl (Nat.zero_le _)) (by go_simp) (c := c) hsrc1 (by go_simp) (oneEn _) (by unfold maxLen; omega) (by omega) ?_
                        intro A5 c5 w9 S10
                        have c09 := S10.p1.cell 0 _ rfl
                        refine hK.out _ _ ?_ (fun hHeld => ?_)
                        · trivial
                        clear hK K
                        try simp only [Act.put, List.setIfInBounds_toArray, List.set_cons_zero, List.set_cons_succ]
                        refine wpAnyH_ready (rs := [16]) (by kernel_rfl) (by simp) ?_
                        refine AllReadyH.cons rfl (fun K hK => ?_) ?_
                        · refine step_app slE rfl (.tmp 56) (.tmp 63) rfl (g := g) (S := S10) (by go_simp) (c := (c - (i + 1))) (by have h := S10.p2.srcT.suf (i + 1) (by omega); rw [flatK_drop (n := 8) (fun _ => rfl), addr_blk] at h; exact h) (by go_simp) (oneEn _) (by unfold maxLen; omega) (by omega) ?_
                          intro A6 c6 w10 S11
                          have c010 := S11.p1.cell 0 _ rfl
                          have f010 := S11.p1.cells_fz 0
                          refine hK.out _ _ ?_ (fun hHeld => ?_)
                          · trivial
                          clear hK K
                          try simp only [Act.put, List.setIfInBounds_toArray, List.set_cons_zero, List.set_cons_succ]
                          refine wpAnyH_take (i := 17) (oi := _) (v := ?_) rfl (by kernel_rfl) (by kernel_rfl) (by kernel_rfl) (fun _ _ _ h => h) (Or.inl ⟨by rfl, ?_⟩) hHeld ?_
                          rotate_left
                          · intro w' hSw
                            (try dsimp only at hSw)
                            go_simp
                            try with_reducible rfl
                          try simp only [Act.put, List.setIfInBounds_toArray, List.set_cons_zero, List.set_cons_succ]
                          refine wpAnyH_take (i := 18) (oi := _) (v := ?_) rfl (by kernel_rfl) (by kernel_rfl) (by kernel_rfl) (fun _ _ _ h => h) (Or.inl ⟨by rfl, ?_⟩) hHeld ?_
                          rotate_left
                          · intro w' hSw
                            (try dsimp only at hSw)
                            go_simp
                            try with_reducible rfl
                          try simp only [Act.put, List.setIfInBounds_toArray, List.set_cons_zero, List.set_cons_succ]
                          refine wpAnyH_ready (rs := [19]) (by kernel_rfl) (by simp) ?_
                          refine AllReadyH.cons rfl (fun K hK => ?_) ?_
                          · go_simp
                            refine hK.out _ _ ?_ (fun hHeld => ?_)
                            · trivial
                            clear hK K
                            try simp only [Act.put, List.setIfInBounds_toArray, List.set_cons_zero, List.set_cons_succ]
                            refine wpAnyH_done (by kernel_rfl) ?_ _
                            simp only [Nat.zero_add, Nat.add_zero, List.nil_append] at S11
                            have hN : i + (M1.length - (i + 1)) = (mdel M1 s).length := by rw [← HCUT.out]; simp; omega
                            have hX : (M1.take i).flatMap entC ++ (M1.drop (i + 1)).flatMap entC = (mdel M1 s).flatMap entC := by rw [← HCUT.out]; simp [List.flatMap_append]
                            have S12 := (S11.p1.setc 0 (.slice A6 (i + (M1.length - (i + 1))) c6)).p2.drop
                            have S13 : Sat g (w10.setCell ⟨b, 0, none⟩ (.slice A6 (i + (M1.length - (i + 1))) c6)) (modA b (mdel M1 s) :: L) := by
                              refine Sat.modShut (v := .slice A6 (mdel M1 s).length c6) ?_
                              rw [← hN, ← hX]
                              exact S12
                            have HS13 := hide S13
                            clear S13 S12 S11 S10 S9
                            go_wp2_with fail
                            go_ret
                            exact HR.out (0, mdel M1 s) HE.out _ HS13.out
                          exact AllReadyH.nil
                        exact AllReadyH.nil
                      exact AllReadyH.nil
                    exact AllReadyH.nil
                  refine AllReadyH.cons rfl (fun K hK => ?_) ?_
                  · go_simp
                    refine hK.out _ _ ?_ (fun hHeld => ?_)
                    · trivial
                    clear hK K
                    try simp only [Act.put, List.setIfInBounds_toArray, List.set_cons_zero, List.set_cons_succ]
                    refine wpAnyH_take (i := 7) (oi := _) (v := ?_) rfl (by kernel_rfl) (by kernel_rfl) (by kernel_rfl) (fun _ _ _ h => h) (Or.inl ⟨by rfl, ?_⟩) hHeld ?_
                    rotate_left
                    · intro w' hSw
                      (try dsimp only at hSw)
                      go_simp
                      try with_reducible rfl
                    try simp only [Act.put, List.setIfInBounds_toArray, List.set_cons_zero, List.set_cons_succ]
                    refine wpAnyH_ready (rs := [1]) (by kernel_rfl) (by simp) ?_
                    refine AllReadyH.cons rfl (fun K hK => ?_) ?_
                    · go_simp
                      refine hK.out _ _ ?_ (fun hHeld => ?_)
                      · trivial
                      clear hK K
                      try simp only [Act.put, List.setIfInBounds_toArray, List.set_cons_zero, List.set_cons_succ]
                      refine wpAnyH_ready (rs := [8]) (by kernel_rfl) (by simp) ?_
                      refine AllReadyH.cons rfl (fun K hK => ?_) ?_
                      · refine step_app slE rfl (.tmp 49) (.tmp 55) rfl (g := g) (S := ((S9.box #[] 71 rfl).drew).rowOf 8 0 rfl (Nat.zero_le _)) (by go_simp) (c := c) hsrc1 (by go_simp) (oneEn _) (by unfold maxLen; omega) (by omega) ?_
                        intro A5 c5 w9 S10
                        have c09 := S10.p1.cell 0 _ rfl
                        refine hK.out _ _ ?_ (fun hHeld => ?_)
                        · trivial
                        clear hK K
                        try simp only [Act.put, List.setIfInBounds_toArray, List.set_cons_zero, List.set_cons_succ]
                        refine wpAnyH_ready (rs := [16]) (by kernel_rfl) (by simp) ?_
                        refine AllReadyH.cons rfl (fun K hK => ?_) ?_
                        · refine step_app slE rfl (.tmp 56) (.tmp 63) rfl (g := g) (S := S10) (by go_simp) (c := (c - (i + 1))) (by have h := S10.p2.srcT.suf (i + 1) (by omega); rw [flatK_drop (n := 8) (fun _ => rfl), addr_blk] at h; exact h) (by go_simp) (oneEn _) (by unfold maxLen; omega) (by omega) ?_
                          intro A6 c6 w10 S11
                          have c010 := S11.p1.cell 0 _ rfl
                          have f010 := S11.p1.cells_fz 0
                          refine hK.out _ _ ?_ (fun hHeld => ?_)
                          · trivial
                          clear hK K
                          try simp only [Act.put, List.setIfInBounds_toArray, List.set_cons_zero, List.set_cons_succ]
                          refine wpAnyH_take (i := 17) (oi := _) (v := ?_) rfl (by kernel_rfl) (by kernel_rfl) (by kernel_rfl) (fun _ _ _ h => h) (Or.inl ⟨by rfl, ?_⟩) hHeld ?_
                          rotate_left
                          · intro w' hSw
                            (try dsimp only at hSw)
                            go_simp
                            try with_reducible rfl
                          try simp only [Act.put, List.setIfInBounds_toArray, List.set_cons_zero, List.set_cons_succ]
                          refine wpAnyH_take (i := 18) (oi := _) (v := ?_) rfl (by kernel_rfl) (by kernel_rfl) (by kernel_rfl) (fun _ _ _ h => h) (Or.inl ⟨by rfl, ?_⟩) hHeld ?_
                          rotate_left
                          · intro w' hSw
                            (try dsimp only at hSw)
                            go_simp
                            try with_reducible rfl
                          try simp only [Act.put, List.setIfInBounds_toArray, List.set_cons_zero, List.set_cons_succ]
                          refine wpAnyH_ready (rs := [19]) (by kernel_rfl) (by simp) ?_
                          refine AllReadyH.cons rfl (fun K hK => ?_) ?_
                          · go_simp
                            refine hK.out _ _ ?_ (fun hHeld => ?_)
                            · trivial
                            clear hK K
                            try simp only [Act.put, List.setIfInBounds_toArray, List.set_cons_zero, List.set_cons_succ]
                            refine wpAnyH_done (by kernel_rfl) ?_ _
                            simp only [Nat.zero_add, Nat.add_zero, List.nil_append] at S11
                            have hN : i + (M1.length - (i + 1)) = (mdel M1 s).length := by rw [← HCUT.out]; simp; omega
                            have hX : (M1.take i).flatMap entC ++ (M1.drop (i + 1)).flatMap entC = (mdel M1 s).flatMap entC := by rw [← HCUT.out]; simp [List.flatMap_append]
                            have S12 := (S11.p1.setc 0 (.slice A6 (i + (M1.length - (i + 1))) c6)).p2.drop
                            have S13 : Sat g (w10.setCell ⟨b, 0, none⟩ (.slice A6 (i + (M1.length - (i + 1))) c6)) (modA b (mdel M1 s) :: L) := by
                              refine Sat.modShut (v := .slice A6 (mdel M1 s).length c6) ?_
                              rw [← hN, ← hX]
                              exact S12
                            have HS13 := hide S13
                            clear S13 S12 S11 S10 S9
                            go_wp2_with fail
                            go_ret
                            exact HR.out (0, mdel M1 s) HE.out _ HS13.out
                          exact AllReadyH.nil
                        exact AllReadyH.nil
                      exact AllReadyH.nil
                    exact AllReadyH.nil
                  exact AllReadyH.nil
                exact AllReadyH.nil
            exact AllReadyH.nil
          exact AllReadyH.nil
        exact AllReadyH.nil
        -- END9
      · have hk1 : (0 : Int) < (kn : Int) := by omega
        have e : R = (13, M) := by rw [HF2.out, if_pos (fun h => hk0 (HKK.out.2 h))]
        have HE := hide e
        clear e HF2 HKK hk0
        go_wp2_with fail
        go_ret
        exact HR.out (13, M) HE.out _ S3
  · have h0b : (e0 != 0) = true := by simpa using h0
    have e : R = (e0, M) := by rw [HF.out, if_pos h0]
    have HE := hide e
    clear e HF HAG
    go_wp2_with fail
    go_ret
    exact HR.out (e0, M) HE.out _ S1
end
end Go.Proofs.YtecpfnobnpddaaaGreatDoor
