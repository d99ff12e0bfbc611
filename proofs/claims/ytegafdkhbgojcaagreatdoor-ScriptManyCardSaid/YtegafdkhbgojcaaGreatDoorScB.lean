/- Steps of a script as bytes: the contract. No condition. -/
import Derived.Test.YtegafdkhbgojcaaGreatDoorScQ
import Derived.Deep.RegionHeld3
set_option linter.unusedVariables false
set_option linter.unusedSimpArgs false
namespace Go.Proofs.YtegafdkhbgojcaaGreatDoor
open Go.RowKit

set_option maxRecDepth 100000 in
set_option maxHeartbeats 4000000 in
theorem bytes_steps (w : World) (A : Option Addr) (cap : Nat) (qs : List SQ) (h : Src w 6 A qs.length (qs.flatMap sqL)) (hok : ∀ q ∈ qs, SqOk w q) (hl : qs.length ≤ 9223372036854775807) :
    Calls Tryz.prog 13 #[.slice A qs.length cap] w fun e w' => e = .returned (.tuple #[.string (S (bytesS (qs.map (·.1))).1), .int .i64 (bytesS (qs.map (·.1))).2]) ∧ Keeps (fun _ => False) w w' := by
  have HO := hide hok
  clear hok
  go_enter Tryz.func13, Tryz.ntmps13
  by_cases h5 : 500 < qs.length
  · have h5' : (500 : Int) < qs.length := by omega
    have he : bytesS (qs.map (·.1)) = ([], 3) := by unfold bytesS; rw [if_pos (by rw [List.length_map]; exact h5)]
    have HE := hide he
    clear he
    go_wp2_with fail
    go_ret2
    rw [HE.out]
    exact ⟨rfl, Keeps.refl _ _⟩
  have h5' : ¬ (500 : Int) < qs.length := by omega
  go_wp2_with fail
  refine (s_num [(qs.length : Int)] (((Sat.start w).bytesNil).box _ _ rfl) rfl (by simp) (by simp)).mono ?_
  rintro e w1 ⟨v1, rfl, S1⟩
  rw [List.nil_append] at S1
  generalize hN : nums [(qs.length : Int)] = N at *
  have hNl : N.length = 6 := by rw [← hN]; rfl
  have HN := hide hN
  clear hN
  have HALL0 : Hid (∀ q ∈ qs.take 0, stepR q.1 = true) := hide (by simp)
  go_wp2_with fail
  go_loopw [4, 18] (fun b i wr => ∃ k : Nat, k ≤ qs.length ∧ i = .int .i64 k ∧ Hid (∀ q ∈ qs.take k, stepR q.1 = true) ∧ Sat w wr [bytesA b (N ++ ((qs.take k).map (·.1)).flatMap stepB), oldA w]) (fun _ i _ => qs.length - (RowKit.intOf i).toNat)
  case atStart => exact ⟨0, by omega, rfl, HALL0, by simpa using S1⟩
  case round =>
    obtain ⟨k, hk, rfl, HALL, S2⟩ := hrel
    clear HALL0 S1
    have hle := steps_length ((qs.take k).map (·.1)) (by
      intro s hs
      obtain ⟨q, hq, rfl⟩ := List.mem_map.1 hs
      exact HALL.out q hq)
    have hle2 : ((qs.take k).map (·.1)).length ≤ k := by rw [List.length_map]; exact List.length_take_le _ _
    by_cases hlt : k < qs.length
    · obtain ⟨ad, q, rfl, hx, c0, c1, c2, c3, c4, c5⟩ := sqs_at (h.keepB (by decide) S2.p1.keeps (fun k hk h => by omega)) hlt
      have HT := hide (steps_take qs k q hx)
      have HX := hide hx
      have hq := HO.out q (List.mem_of_getElem? hx)
      clear hx
      obtain ⟨⟨kd, who, n, m, tx, fs⟩, B, cb⟩ := q
      obtain ⟨hq1, hq2, hq3⟩ := hq
      simp only at c0 c1 c2 c3 c4 c5 hq1 hq2 hq3
      generalize hLL : ((qs.take k).map (·.1)).flatMap stepB = LL at *
      have HLL := hide hLL
      clear hLL
      have hb : (N ++ LL).length ≤ 700000 := by rw [List.length_append]; omega
      have S3 := (S2.box #[.int .i64 kd, .int .i64 who, .int .i64 n, .int .i64 m, .string (Go.Proofs.YtegafdkhbgojcaaGreatDoor.S tx), .slice B fs.length cb] 33 rfl)
      have HE : Hid (∀ (w' : World) (L' : List Asn), Sat w w' L' → cellsA wr.heap.size 33 #[.int .i64 kd, .int .i64 who, .int .i64 n, .int .i64 m, .string (Go.Proofs.YtegafdkhbgojcaaGreatDoor.S tx), .slice B fs.length cb] ∈ L' → w'.cell? ⟨wr.heap.size, 0, none⟩ = some (.int .i64 kd) ∧ w'.cell? ⟨wr.heap.size, 1, none⟩ = some (.int .i64 who) ∧ w'.cell? ⟨wr.heap.size, 2, none⟩ = some (.int .i64 n) ∧ w'.cell? ⟨wr.heap.size, 3, none⟩ = some (.int .i64 m) ∧ w'.cell? ⟨wr.heap.size, 4, none⟩ = some (.string (Go.Proofs.YtegafdkhbgojcaaGreatDoor.S tx)) ∧ w'.cell? ⟨wr.heap.size, 5, none⟩ = some (.slice B fs.length cb)) := hide fun w' L' S' h => ⟨S'.cell_of h 0 _ rfl, S'.cell_of h 1 _ rfl, S'.cell_of h 2 _ rfl, S'.cell_of h 3 _ rfl, S'.cell_of h 4 _ rfl, S'.cell_of h 5 _ rfl⟩
      obtain ⟨x0, x1, x2, x3, x4, x5⟩ := HE.out _ _ S3 (by simp)
      go_upto_region 7 with fail
      generalize wr.alloc (.cells #[.int .i64 kd, .int .i64 who, .int .i64 n, .int .i64 m, .string (Go.Proofs.YtegafdkhbgojcaaGreatDoor.S tx), .slice B fs.length cb] 33) = w3 at *
      generalize wr.heap.size = xb at *
      clear S2 c0 c1 c2 c3 c4 c5
      go_wp2_with fail
      refine (right_step w3 ⟨kd, who, n, m, tx, fs⟩ B cb (hq1.keep S3.p2.keep_all (fun _ _ h => h)) hq2 hq3).mono ?_
      rintro e w4 ⟨rfl, hk4⟩
      have S4 := (S3.keep hk4).p1
      clear hk4 S3 x0 x1 x2 x3 x4 x5
      cases hr : stepR ⟨kd, who, n, m, tx, fs⟩
      · have he : bytesS (qs.map (·.1)) = ([], 1) := by
          unfold bytesS
          rw [if_neg (by rw [List.length_map]; exact h5), if_neg]
          intro ha
          rw [List.all_eq_true] at ha
          have := ha _ (List.mem_map.2 ⟨_, List.mem_of_getElem? HX.out, rfl⟩)
          rw [hr] at this
          cases this
        have HB := hide he
        clear he hr
        go_wp2_with fail
        go_ret2
        rw [HB.out]
        exact ⟨rfl, S4.p2.keep_all⟩
      have HR := hide hr
      clear hr
      obtain ⟨q1, q2, q3, q4, q5, q6⟩ := stepR_of HR.out
      simp only at q4 q5
      clear q1 q2 q3 q6
      have hb2 : (N ++ LL ++ nums [kd, who, n, m]).length ≤ 700024 := by rw [List.length_append, nums_length]; simp only [List.length_cons, List.length_nil]; omega
      have hb3 : (N ++ LL ++ nums [kd, who, n, m] ++ txts [tx]).length ≤ 790000 := by
        have h1 := txts_le [tx]
        simp only [List.length_cons, List.length_nil] at h1
        rw [List.length_append]
        omega
      obtain ⟨x0, x1, x2, x3, x4, x5⟩ := HE.out _ _ S4 (by simp)
      go_upto_region 9 with fail
      refine wp_region_held_drew (S := (fun w' => w'.cell? ⟨xb, 0, none⟩ = some (.int .i64 kd) ∧ w'.cell? ⟨xb, 1, none⟩ = some (.int .i64 who) ∧ w'.cell? ⟨xb, 2, none⟩ = some (.int .i64 n) ∧ w'.cell? ⟨xb, 3, none⟩ = some (.int .i64 m) ∧ w'.cell? ⟨xb, 4, none⟩ = some (.string (Go.Proofs.YtegafdkhbgojcaaGreatDoor.S tx)) ∧ w'.cell? ⟨xb, 5, none⟩ = some (.slice B fs.length cb))) (by kernel_rfl) ?_ (fun hHeld => ?_)
      · exact HE.out _ _ S4.drew (by simp)
      refine wpAnyH_take (i := 0) (oi := _) (v := ?_) rfl (by kernel_rfl) (by kernel_rfl) (by kernel_rfl) (fun _ _ _ h => h) (Or.inl ⟨by rfl, ?_⟩) hHeld ?_
      rotate_left
      · intro w' hSw
        (try dsimp only at hSw)
        go_simp
        try with_reducible rfl
      try simp only [Act.put, List.setIfInBounds_toArray, List.set_cons_zero, List.set_cons_succ, List.getElem_toArray, List.getElem_cons_zero, List.getElem_cons_succ]
      refine wpAnyH_take (i := 1) (oi := _) (v := ?_) rfl (by kernel_rfl) (by kernel_rfl) (by kernel_rfl) (fun _ _ _ h => h) (Or.inl ⟨by rfl, ?_⟩) hHeld ?_
      rotate_left
      · intro w' hSw
        (try dsimp only at hSw)
        go_simp
        try with_reducible rfl
      try simp only [Act.put, List.setIfInBounds_toArray, List.set_cons_zero, List.set_cons_succ, List.getElem_toArray, List.getElem_cons_zero, List.getElem_cons_succ]
      refine wpAnyH_take (i := 2) (oi := _) (v := ?_) rfl (by kernel_rfl) (by kernel_rfl) (by kernel_rfl) (fun _ _ _ h => h) (Or.inl ⟨by rfl, ?_⟩) hHeld ?_
      rotate_left
      · intro w' hSw
        (try dsimp only at hSw)
        go_simp
        try with_reducible rfl
      try simp only [Act.put, List.setIfInBounds_toArray, List.set_cons_zero, List.set_cons_succ, List.getElem_toArray, List.getElem_cons_zero, List.getElem_cons_succ]
      refine wpAnyH_take (i := 3) (oi := _) (v := ?_) rfl (by kernel_rfl) (by kernel_rfl) (by kernel_rfl) (fun _ _ _ h => h) (Or.inl ⟨by rfl, ?_⟩) hHeld ?_
      rotate_left
      · intro w' hSw
        (try dsimp only at hSw)
        go_simp
        try with_reducible rfl
      try simp only [Act.put, List.setIfInBounds_toArray, List.set_cons_zero, List.set_cons_succ, List.getElem_toArray, List.getElem_cons_zero, List.getElem_cons_succ]
      refine wpAnyH_take (i := 4) (oi := _) (v := ?_) rfl (by kernel_rfl) (by kernel_rfl) (by kernel_rfl) (fun _ _ _ h => h) (Or.inl ⟨by rfl, ?_⟩) hHeld ?_
      rotate_left
      · intro w' hSw
        (try dsimp only at hSw)
        go_simp
        try with_reducible rfl
      try simp only [Act.put, List.setIfInBounds_toArray, List.set_cons_zero, List.set_cons_succ, List.getElem_toArray, List.getElem_cons_zero, List.getElem_cons_succ]
      refine wpAnyH_take (i := 5) (oi := _) (v := ?_) rfl (by kernel_rfl) (by kernel_rfl) (by kernel_rfl) (fun _ _ _ h => h) (Or.inl ⟨by rfl, ?_⟩) hHeld ?_
      rotate_left
      · intro w' hSw
        (try dsimp only at hSw)
        go_simp
        try with_reducible rfl
      try simp only [Act.put, List.setIfInBounds_toArray, List.set_cons_zero, List.set_cons_succ, List.getElem_toArray, List.getElem_cons_zero, List.getElem_cons_succ]
      refine wpAnyH_take (i := 6) (oi := _) (v := ?_) rfl (by kernel_rfl) (by kernel_rfl) (by kernel_rfl) (fun _ _ _ h => h) (Or.inl ⟨by rfl, ?_⟩) hHeld ?_
      rotate_left
      · intro w' hSw
        (try dsimp only at hSw)
        go_simp
        try with_reducible rfl
      try simp only [Act.put, List.setIfInBounds_toArray, List.set_cons_zero, List.set_cons_succ, List.getElem_toArray, List.getElem_cons_zero, List.getElem_cons_succ]
      refine wpAnyH_take (i := 7) (oi := _) (v := ?_) rfl (by kernel_rfl) (by kernel_rfl) (by kernel_rfl) (fun _ _ _ h => h) (Or.inl ⟨by rfl, ?_⟩) hHeld ?_
      rotate_left
      · intro w' hSw
        (try dsimp only at hSw)
        go_simp
        try with_reducible rfl
      try simp only [Act.put, List.setIfInBounds_toArray, List.set_cons_zero, List.set_cons_succ, List.getElem_toArray, List.getElem_cons_zero, List.getElem_cons_succ]
      refine wpAnyH_take (i := 8) (oi := _) (v := ?_) rfl (by kernel_rfl) (by kernel_rfl) (by kernel_rfl) (fun _ _ _ h => h) (Or.inl ⟨by rfl, ?_⟩) hHeld ?_
      rotate_left
      · intro w' hSw
        (try dsimp only at hSw)
        go_simp
        try with_reducible rfl
      try simp only [Act.put, List.setIfInBounds_toArray, List.set_cons_zero, List.set_cons_succ, List.getElem_toArray, List.getElem_cons_zero, List.getElem_cons_succ]
      refine wpAnyH_take (i := 11) (oi := _) (v := ?_) rfl (by kernel_rfl) (by kernel_rfl) (by kernel_rfl) (fun _ _ _ h => h) (Or.inl ⟨by rfl, ?_⟩) hHeld ?_
      rotate_left
      · intro w' hSw
        (try dsimp only at hSw)
        go_simp
        try with_reducible rfl
      try simp only [Act.put, List.setIfInBounds_toArray, List.set_cons_zero, List.set_cons_succ, List.getElem_toArray, List.getElem_cons_zero, List.getElem_cons_succ]
      refine wpAnyH_take (i := 12) (oi := _) (v := ?_) rfl (by kernel_rfl) (by kernel_rfl) (by kernel_rfl) (fun _ _ _ h => h) (Or.inl ⟨by rfl, ?_⟩) hHeld ?_
      rotate_left
      · intro w' hSw
        (try dsimp only at hSw)
        go_simp
        try with_reducible rfl
      try simp only [Act.put, List.setIfInBounds_toArray, List.set_cons_zero, List.set_cons_succ, List.getElem_toArray, List.getElem_cons_zero, List.getElem_cons_succ]
      refine wpAnyH_take (i := 15) (oi := _) (v := ?_) rfl (by kernel_rfl) (by kernel_rfl) (by kernel_rfl) (fun _ _ _ h => h) (Or.inl ⟨by rfl, ?_⟩) hHeld ?_
      rotate_left
      · intro w' hSw
        (try dsimp only at hSw)
        go_simp
        try with_reducible rfl
      try simp only [Act.put, List.setIfInBounds_toArray, List.set_cons_zero, List.set_cons_succ, List.getElem_toArray, List.getElem_cons_zero, List.getElem_cons_succ]
      refine wpAnyH_take (i := 16) (oi := _) (v := ?_) rfl (by kernel_rfl) (by kernel_rfl) (by kernel_rfl) (fun _ _ _ h => h) (Or.inl ⟨by rfl, ?_⟩) hHeld ?_
      rotate_left
      · intro w' hSw
        (try dsimp only at hSw)
        go_simp
        try with_reducible rfl
      try simp only [Act.put, List.setIfInBounds_toArray, List.set_cons_zero, List.set_cons_succ, List.getElem_toArray, List.getElem_cons_zero, List.getElem_cons_succ]
      refine wpAnyH_take (i := 17) (oi := _) (v := ?_) rfl (by kernel_rfl) (by kernel_rfl) (by kernel_rfl) (fun _ _ _ h => h) (Or.inl ⟨by rfl, ?_⟩) hHeld ?_
      rotate_left
      · intro w' hSw
        (try dsimp only at hSw)
        go_simp
        try with_reducible rfl
      try simp only [Act.put, List.setIfInBounds_toArray, List.set_cons_zero, List.set_cons_succ, List.getElem_toArray, List.getElem_cons_zero, List.getElem_cons_succ]
      refine wpAnyH_ready (rs := [9, 13, 18]) (by kernel_rfl) (by simp) ?_
      refine AllReadyH.cons rfl (fun K hK => ?_) ?_
      · go_simp
        refine hK.out _ _ ?_ (fun hHeld => ?_)
        · exact HE.out _ _ (S4.drew.box #[.int .i64 kd, .int .i64 who, .int .i64 n, .int .i64 m] 3 (b := w4.heap.size) (by first | rfl | simp)) (by simp)
        clear hK K
        try simp only [Act.put, List.setIfInBounds_toArray, List.set_cons_zero, List.set_cons_succ, List.getElem_toArray, List.getElem_cons_zero, List.getElem_cons_succ]
        refine wpAnyH_ready (rs := [10, 13, 18]) (by kernel_rfl) (by simp) ?_
        refine AllReadyH.cons rfl (fun K hK => ?_) ?_
        · go_simp
          go_at_call 63
          refine (s_num [kd, who, n, m] (g := w) (l := N ++ LL) ((S4.drew.box #[.int .i64 kd, .int .i64 who, .int .i64 n, .int .i64 m] 3 (b := w4.heap.size) (by first | rfl | simp)).p1.p1) rfl (by omega) (by simp)).mono ?_
          rintro e w6 ⟨v6, rfl, S6⟩
          refine hK.out _ _ ?_ (fun hHeld => ?_)
          · exact HE.out _ _ S6 (by simp)
          clear hK K
          try simp only [Act.put, List.setIfInBounds_toArray, List.set_cons_zero, List.set_cons_succ, List.getElem_toArray, List.getElem_cons_zero, List.getElem_cons_succ]
          refine wpAnyH_ready (rs := [13, 18]) (by kernel_rfl) (by simp) ?_
          refine AllReadyH.cons rfl (fun K hK => ?_) ?_
          · go_simp
            refine hK.out _ _ ?_ (fun hHeld => ?_)
            · exact HE.out _ _ (S6.box #[.string (Go.Proofs.YtegafdkhbgojcaaGreatDoor.S tx)] 9 (b := w6.heap.size) (by first | rfl | simp)) (by simp)
            clear hK K
            try simp only [Act.put, List.setIfInBounds_toArray, List.set_cons_zero, List.set_cons_succ, List.getElem_toArray, List.getElem_cons_zero, List.getElem_cons_succ]
            refine wpAnyH_ready (rs := [14, 18]) (by kernel_rfl) (by simp) ?_
            refine AllReadyH.cons rfl (fun K hK => ?_) ?_
            · go_simp
              go_at_call 64
              refine (s_text [tx] (g := w) (l := N ++ LL ++ nums [kd, who, n, m]) ((S6.box #[.string (Go.Proofs.YtegafdkhbgojcaaGreatDoor.S tx)] 9 (b := w6.heap.size) (by first | rfl | simp)).p1.p1) rfl (by omega) (by simp)).mono ?_
              rintro e w7 ⟨v7, rfl, S7⟩
              refine hK.out _ _ ?_ (fun hHeld => ?_)
              · exact HE.out _ _ S7 (by simp)
              clear hK K
              try simp only [Act.put, List.setIfInBounds_toArray, List.set_cons_zero, List.set_cons_succ, List.getElem_toArray, List.getElem_cons_zero, List.getElem_cons_succ]
              refine wpAnyH_ready (rs := [18]) (by kernel_rfl) (by simp) ?_
              refine AllReadyH.cons rfl (fun K hK => ?_) ?_
              · go_simp
                refine hK.out _ _ ?_ (fun hHeld => ?_)
                · exact HE.out _ _ (S7.box #[.int .i64 (fs.length : Int)] 3 (b := w7.heap.size) (by first | rfl | simp)) (by simp)
                clear hK K
                try simp only [Act.put, List.setIfInBounds_toArray, List.set_cons_zero, List.set_cons_succ, List.getElem_toArray, List.getElem_cons_zero, List.getElem_cons_succ]
                refine wpAnyH_ready (rs := [19]) (by kernel_rfl) (by simp) ?_
                refine AllReadyH.cons rfl (fun K hK => ?_) ?_
                · go_simp
                  go_at_call 63
                  refine (s_num [(fs.length : Int)] (g := w) (l := N ++ LL ++ nums [kd, who, n, m] ++ txts [tx]) ((S7.box #[.int .i64 (fs.length : Int)] 3 (b := w7.heap.size) (by first | rfl | simp)).p1.p1) rfl (by omega) (by simp)).mono ?_
                  rintro e w8 ⟨v8, rfl, S8⟩
                  refine hK.out _ _ ?_ (fun hHeld => ?_)
                  · exact HE.out _ _ S8 (by simp)
                  clear hK K
                  try simp only [Act.put, List.setIfInBounds_toArray, List.set_cons_zero, List.set_cons_succ, List.getElem_toArray, List.getElem_cons_zero, List.getElem_cons_succ]
                  refine wpAnyH_take (i := 20) (oi := _) (v := ?_) rfl (by kernel_rfl) (by kernel_rfl) (by kernel_rfl) (fun _ _ _ h => h) (Or.inl ⟨by rfl, ?_⟩) hHeld ?_
                  rotate_left
                  · intro w' hSw
                    (try dsimp only at hSw)
                    go_simp
                    try with_reducible rfl
                  try simp only [Act.put, List.setIfInBounds_toArray, List.set_cons_zero, List.set_cons_succ, List.getElem_toArray, List.getElem_cons_zero, List.getElem_cons_succ]
                  refine wpAnyH_done (by kernel_rfl) ?_ _
                  have S9 : Sat w _ (cellsA xb 33 #[.int .i64 kd, .int .i64 who, .int .i64 n, .int .i64 m, .string (Go.Proofs.YtegafdkhbgojcaaGreatDoor.S tx), .slice B fs.length cb] :: bytesA v8 (N ++ LL ++ nums [kd, who, n, m] ++ txts [tx] ++ nums [(fs.length : Int)]) :: [oldA w]) := S8.p1
                  have hb4 : (N ++ LL ++ nums [kd, who, n, m] ++ txts [tx] ++ nums [(fs.length : Int)]).length ≤ 790006 := by
                    rw [List.length_append, nums_length]
                    simp only [List.length_cons, List.length_nil]
                    omega
                  generalize hM : N ++ LL ++ nums [kd, who, n, m] ++ txts [tx] ++ nums [(fs.length : Int)] = M at *
                  have HM := hide hM
                  clear hM
                  have y5 := S9.cell 5 _ rfl
                  go_wp2_with fail
                  go_loopw [4, 48] (fun b i wr => ∃ j : Nat, j ≤ fs.length ∧ i = .int .i64 (j : Int) ∧ Sat w wr (cellsA xb 33 #[.int .i64 kd, .int .i64 who, .int .i64 n, .int .i64 m, .string (Go.Proofs.YtegafdkhbgojcaaGreatDoor.S tx), .slice B fs.length cb] :: bytesA b (M ++ nums (fs.take j)) :: [oldA w])) (fun _ i _ => fs.length - (RowKit.intOf i).toNat)
                  case atStart => exact ⟨0, by omega, rfl, by simpa [nums] using S9⟩
                  case round =>
                    obtain ⟨j, hj, rfl, S10⟩ := hrel
                    by_cases hjl : j < fs.length
                    · obtain ⟨ad2, u, rfl, hu, d0⟩ := Src.at_ (hq1.keep S10.p2.keep_all (fun _ _ h => h)) (k := j) (by omega)
                      obtain ⟨f, hf2, rfl⟩ := is_at hu
                      have HF := hide (nums_snoc fs j f hf2)
                      clear hu hf2
                      have hb5 : (M ++ nums (fs.take j)).length ≤ 800000 := by
                        have := List.length_take_le j fs
                        rw [List.length_append, nums_length]
                        omega
                      go_wp2_with fail
                      refine (s_num [f] (S10.p1.box _ _ rfl) rfl (by omega) (by simp)).mono ?_
                      rintro e w9 ⟨v9, rfl, S11⟩
                      go_wp2_with fail
                      go_roundw
                      case rel => exact ⟨j + 1, by omega, by go_num, by rw [HF.out, ← List.append_assoc]; exact S11.p1⟩
                      case measure => simp [RowKit.intOf]; omega
                    · obtain rfl : j = fs.length := by omega
                      rw [List.take_length] at S10
                      rw [← HM.out] at S10
                      have S11 := S10.drop
                      go_wp2_with fail
                      go_roundw
                      case rel =>
                        refine ⟨k + 1, by omega, by go_num, hide ?_, ?_⟩
                        · intro q hq
                          obtain ⟨hk', hx'⟩ := List.getElem?_eq_some_iff.1 HX.out
                          rw [List.take_succ_eq_append_getElem hk', hx'] at hq
                          rcases List.mem_append.1 hq with hq | hq
                          · exact HALL.out q hq
                          · simp only [List.mem_singleton] at hq
                            subst hq
                            exact HR.out
                        · rw [HT.out, ← List.append_assoc]
                          simp only [stepB, List.append_assoc] at S11 ⊢
                          exact S11
                      case measure => simp [RowKit.intOf]; omega
                exact AllReadyH.nil
              exact AllReadyH.nil
            refine AllReadyH.cons rfl (fun K hK => ?_) ?_
            · go_simp
              refine hK.out _ _ ?_ (fun hHeld => ?_)
              · exact HE.out _ _ ((S6.box #[.string (Go.Proofs.YtegafdkhbgojcaaGreatDoor.S tx)] 9 (b := w6.heap.size) (by first | rfl | simp)).box #[.int .i64 (fs.length : Int)] 3 (b := w6.heap.size + 1) (by first | rfl | simp)) (by simp)
              clear hK K
              try simp only [Act.put, List.setIfInBounds_toArray, List.set_cons_zero, List.set_cons_succ, List.getElem_toArray, List.getElem_cons_zero, List.getElem_cons_succ]
              refine wpAnyH_ready (rs := [14]) (by kernel_rfl) (by simp) ?_
              refine AllReadyH.cons rfl (fun K hK => ?_) ?_
              · go_simp
                go_at_call 64
                refine (s_text [tx] (g := w) (l := N ++ LL ++ nums [kd, who, n, m]) (((S6.box #[.string (Go.Proofs.YtegafdkhbgojcaaGreatDoor.S tx)] 9 (b := w6.heap.size) (by first | rfl | simp)).box #[.int .i64 (fs.length : Int)] 3 (b := w6.heap.size + 1) (by first | rfl | simp)).p2.p2) rfl (by omega) (by simp)).mono ?_
                rintro e w7 ⟨v7, rfl, S7⟩
                refine hK.out _ _ ?_ (fun hHeld => ?_)
                · exact HE.out _ _ S7 (by simp)
                clear hK K
                try simp only [Act.put, List.setIfInBounds_toArray, List.set_cons_zero, List.set_cons_succ, List.getElem_toArray, List.getElem_cons_zero, List.getElem_cons_succ]
                refine wpAnyH_ready (rs := [19]) (by kernel_rfl) (by simp) ?_
                refine AllReadyH.cons rfl (fun K hK => ?_) ?_
                · go_simp
                  go_at_call 63
                  refine (s_num [(fs.length : Int)] (g := w) (l := N ++ LL ++ nums [kd, who, n, m] ++ txts [tx]) (S7.p1) rfl (by omega) (by simp)).mono ?_
                  rintro e w8 ⟨v8, rfl, S8⟩
                  refine hK.out _ _ ?_ (fun hHeld => ?_)
                  · exact HE.out _ _ S8 (by simp)
                  clear hK K
                  try simp only [Act.put, List.setIfInBounds_toArray, List.set_cons_zero, List.set_cons_succ, List.getElem_toArray, List.getElem_cons_zero, List.getElem_cons_succ]
                  refine wpAnyH_take (i := 20) (oi := _) (v := ?_) rfl (by kernel_rfl) (by kernel_rfl) (by kernel_rfl) (fun _ _ _ h => h) (Or.inl ⟨by rfl, ?_⟩) hHeld ?_
                  rotate_left
                  · intro w' hSw
                    (try dsimp only at hSw)
                    go_simp
                    try with_reducible rfl
                  try simp only [Act.put, List.setIfInBounds_toArray, List.set_cons_zero, List.set_cons_succ, List.getElem_toArray, List.getElem_cons_zero, List.getElem_cons_succ]
                  refine wpAnyH_done (by kernel_rfl) ?_ _
                  have S9 : Sat w _ (cellsA xb 33 #[.int .i64 kd, .int .i64 who, .int .i64 n, .int .i64 m, .string (Go.Proofs.YtegafdkhbgojcaaGreatDoor.S tx), .slice B fs.length cb] :: bytesA v8 (N ++ LL ++ nums [kd, who, n, m] ++ txts [tx] ++ nums [(fs.length : Int)]) :: [oldA w]) := S8.p1
                  have hb4 : (N ++ LL ++ nums [kd, who, n, m] ++ txts [tx] ++ nums [(fs.length : Int)]).length ≤ 790006 := by
                    rw [List.length_append, nums_length]
                    simp only [List.length_cons, List.length_nil]
                    omega
                  generalize hM : N ++ LL ++ nums [kd, who, n, m] ++ txts [tx] ++ nums [(fs.length : Int)] = M at *
                  have HM := hide hM
                  clear hM
                  have y5 := S9.cell 5 _ rfl
                  go_wp2_with fail
                  go_loopw [4, 48] (fun b i wr => ∃ j : Nat, j ≤ fs.length ∧ i = .int .i64 (j : Int) ∧ Sat w wr (cellsA xb 33 #[.int .i64 kd, .int .i64 who, .int .i64 n, .int .i64 m, .string (Go.Proofs.YtegafdkhbgojcaaGreatDoor.S tx), .slice B fs.length cb] :: bytesA b (M ++ nums (fs.take j)) :: [oldA w])) (fun _ i _ => fs.length - (RowKit.intOf i).toNat)
                  case atStart => exact ⟨0, by omega, rfl, by simpa [nums] using S9⟩
                  case round =>
                    obtain ⟨j, hj, rfl, S10⟩ := hrel
                    by_cases hjl : j < fs.length
                    · obtain ⟨ad2, u, rfl, hu, d0⟩ := Src.at_ (hq1.keep S10.p2.keep_all (fun _ _ h => h)) (k := j) (by omega)
                      obtain ⟨f, hf2, rfl⟩ := is_at hu
                      have HF := hide (nums_snoc fs j f hf2)
                      clear hu hf2
                      have hb5 : (M ++ nums (fs.take j)).length ≤ 800000 := by
                        have := List.length_take_le j fs
                        rw [List.length_append, nums_length]
                        omega
                      go_wp2_with fail
                      refine (s_num [f] (S10.p1.box _ _ rfl) rfl (by omega) (by simp)).mono ?_
                      rintro e w9 ⟨v9, rfl, S11⟩
                      go_wp2_with fail
                      go_roundw
                      case rel => exact ⟨j + 1, by omega, by go_num, by rw [HF.out, ← List.append_assoc]; exact S11.p1⟩
                      case measure => simp [RowKit.intOf]; omega
                    · obtain rfl : j = fs.length := by omega
                      rw [List.take_length] at S10
                      rw [← HM.out] at S10
                      have S11 := S10.drop
                      go_wp2_with fail
                      go_roundw
                      case rel =>
                        refine ⟨k + 1, by omega, by go_num, hide ?_, ?_⟩
                        · intro q hq
                          obtain ⟨hk', hx'⟩ := List.getElem?_eq_some_iff.1 HX.out
                          rw [List.take_succ_eq_append_getElem hk', hx'] at hq
                          rcases List.mem_append.1 hq with hq | hq
                          · exact HALL.out q hq
                          · simp only [List.mem_singleton] at hq
                            subst hq
                            exact HR.out
                        · rw [HT.out, ← List.append_assoc]
                          simp only [stepB, List.append_assoc] at S11 ⊢
                          exact S11
                      case measure => simp [RowKit.intOf]; omega
                exact AllReadyH.nil
              exact AllReadyH.nil
            exact AllReadyH.nil
          refine AllReadyH.cons rfl (fun K hK => ?_) ?_
          · go_simp
            refine hK.out _ _ ?_ (fun hHeld => ?_)
            · exact HE.out _ _ (S6.box #[.int .i64 (fs.length : Int)] 3 (b := w6.heap.size) (by first | rfl | simp)) (by simp)
            clear hK K
            try simp only [Act.put, List.setIfInBounds_toArray, List.set_cons_zero, List.set_cons_succ, List.getElem_toArray, List.getElem_cons_zero, List.getElem_cons_succ]
            refine wpAnyH_ready (rs := [13]) (by kernel_rfl) (by simp) ?_
            refine AllReadyH.cons rfl (fun K hK => ?_) ?_
            · go_simp
              refine hK.out _ _ ?_ (fun hHeld => ?_)
              · exact HE.out _ _ ((S6.box #[.int .i64 (fs.length : Int)] 3 (b := w6.heap.size) (by first | rfl | simp)).box #[.string (Go.Proofs.YtegafdkhbgojcaaGreatDoor.S tx)] 9 (b := w6.heap.size + 1) (by first | rfl | simp)) (by simp)
              clear hK K
              try simp only [Act.put, List.setIfInBounds_toArray, List.set_cons_zero, List.set_cons_succ, List.getElem_toArray, List.getElem_cons_zero, List.getElem_cons_succ]
              refine wpAnyH_ready (rs := [14]) (by kernel_rfl) (by simp) ?_
              refine AllReadyH.cons rfl (fun K hK => ?_) ?_
              · go_simp
                go_at_call 64
                refine (s_text [tx] (g := w) (l := N ++ LL ++ nums [kd, who, n, m]) (((S6.box #[.int .i64 (fs.length : Int)] 3 (b := w6.heap.size) (by first | rfl | simp)).box #[.string (Go.Proofs.YtegafdkhbgojcaaGreatDoor.S tx)] 9 (b := w6.heap.size + 1) (by first | rfl | simp)).p2.p1) rfl (by omega) (by simp)).mono ?_
                rintro e w7 ⟨v7, rfl, S7⟩
                refine hK.out _ _ ?_ (fun hHeld => ?_)
                · exact HE.out _ _ S7 (by simp)
                clear hK K
                try simp only [Act.put, List.setIfInBounds_toArray, List.set_cons_zero, List.set_cons_succ, List.getElem_toArray, List.getElem_cons_zero, List.getElem_cons_succ]
                refine wpAnyH_ready (rs := [19]) (by kernel_rfl) (by simp) ?_
                refine AllReadyH.cons rfl (fun K hK => ?_) ?_
                · go_simp
                  go_at_call 63
                  refine (s_num [(fs.length : Int)] (g := w) (l := N ++ LL ++ nums [kd, who, n, m] ++ txts [tx]) (S7.p1) rfl (by omega) (by simp)).mono ?_
                  rintro e w8 ⟨v8, rfl, S8⟩
                  refine hK.out _ _ ?_ (fun hHeld => ?_)
                  · exact HE.out _ _ S8 (by simp)
                  clear hK K
                  try simp only [Act.put, List.setIfInBounds_toArray, List.set_cons_zero, List.set_cons_succ, List.getElem_toArray, List.getElem_cons_zero, List.getElem_cons_succ]
                  refine wpAnyH_take (i := 20) (oi := _) (v := ?_) rfl (by kernel_rfl) (by kernel_rfl) (by kernel_rfl) (fun _ _ _ h => h) (Or.inl ⟨by rfl, ?_⟩) hHeld ?_
                  rotate_left
                  · intro w' hSw
                    (try dsimp only at hSw)
                    go_simp
                    try with_reducible rfl
                  try simp only [Act.put, List.setIfInBounds_toArray, List.set_cons_zero, List.set_cons_succ, List.getElem_toArray, List.getElem_cons_zero, List.getElem_cons_succ]
                  refine wpAnyH_done (by kernel_rfl) ?_ _
                  have S9 : Sat w _ (cellsA xb 33 #[.int .i64 kd, .int .i64 who, .int .i64 n, .int .i64 m, .string (Go.Proofs.YtegafdkhbgojcaaGreatDoor.S tx), .slice B fs.length cb] :: bytesA v8 (N ++ LL ++ nums [kd, who, n, m] ++ txts [tx] ++ nums [(fs.length : Int)]) :: [oldA w]) := S8.p1
                  have hb4 : (N ++ LL ++ nums [kd, who, n, m] ++ txts [tx] ++ nums [(fs.length : Int)]).length ≤ 790006 := by
                    rw [List.length_append, nums_length]
                    simp only [List.length_cons, List.length_nil]
                    omega
                  generalize hM : N ++ LL ++ nums [kd, who, n, m] ++ txts [tx] ++ nums [(fs.length : Int)] = M at *
                  have HM := hide hM
                  clear hM
                  have y5 := S9.cell 5 _ rfl
                  go_wp2_with fail
                  go_loopw [4, 48] (fun b i wr => ∃ j : Nat, j ≤ fs.length ∧ i = .int .i64 (j : Int) ∧ Sat w wr (cellsA xb 33 #[.int .i64 kd, .int .i64 who, .int .i64 n, .int .i64 m, .string (Go.Proofs.YtegafdkhbgojcaaGreatDoor.S tx), .slice B fs.length cb] :: bytesA b (M ++ nums (fs.take j)) :: [oldA w])) (fun _ i _ => fs.length - (RowKit.intOf i).toNat)
                  case atStart => exact ⟨0, by omega, rfl, by simpa [nums] using S9⟩
                  case round =>
                    obtain ⟨j, hj, rfl, S10⟩ := hrel
                    by_cases hjl : j < fs.length
                    · obtain ⟨ad2, u, rfl, hu, d0⟩ := Src.at_ (hq1.keep S10.p2.keep_all (fun _ _ h => h)) (k := j) (by omega)
                      obtain ⟨f, hf2, rfl⟩ := is_at hu
                      have HF := hide (nums_snoc fs j f hf2)
                      clear hu hf2
                      have hb5 : (M ++ nums (fs.take j)).length ≤ 800000 := by
                        have := List.length_take_le j fs
                        rw [List.length_append, nums_length]
                        omega
                      go_wp2_with fail
                      refine (s_num [f] (S10.p1.box _ _ rfl) rfl (by omega) (by simp)).mono ?_
                      rintro e w9 ⟨v9, rfl, S11⟩
                      go_wp2_with fail
                      go_roundw
                      case rel => exact ⟨j + 1, by omega, by go_num, by rw [HF.out, ← List.append_assoc]; exact S11.p1⟩
                      case measure => simp [RowKit.intOf]; omega
                    · obtain rfl : j = fs.length := by omega
                      rw [List.take_length] at S10
                      rw [← HM.out] at S10
                      have S11 := S10.drop
                      go_wp2_with fail
                      go_roundw
                      case rel =>
                        refine ⟨k + 1, by omega, by go_num, hide ?_, ?_⟩
                        · intro q hq
                          obtain ⟨hk', hx'⟩ := List.getElem?_eq_some_iff.1 HX.out
                          rw [List.take_succ_eq_append_getElem hk', hx'] at hq
                          rcases List.mem_append.1 hq with hq | hq
                          · exact HALL.out q hq
                          · simp only [List.mem_singleton] at hq
                            subst hq
                            exact HR.out
                        · rw [HT.out, ← List.append_assoc]
                          simp only [stepB, List.append_assoc] at S11 ⊢
                          exact S11
                      case measure => simp [RowKit.intOf]; omega
                exact AllReadyH.nil
              exact AllReadyH.nil
            exact AllReadyH.nil
          exact AllReadyH.nil
        refine AllReadyH.cons rfl (fun K hK => ?_) ?_
        · go_simp
          refine hK.out _ _ ?_ (fun hHeld => ?_)
          · exact HE.out _ _ ((S4.drew.box #[.int .i64 kd, .int .i64 who, .int .i64 n, .int .i64 m] 3 (b := w4.heap.size) (by first | rfl | simp)).box #[.string (Go.Proofs.YtegafdkhbgojcaaGreatDoor.S tx)] 9 (b := w4.heap.size + 1) (by first | rfl | simp)) (by simp)
          clear hK K
          try simp only [Act.put, List.setIfInBounds_toArray, List.set_cons_zero, List.set_cons_succ, List.getElem_toArray, List.getElem_cons_zero, List.getElem_cons_succ]
          refine wpAnyH_ready (rs := [10, 18]) (by kernel_rfl) (by simp) ?_
          refine AllReadyH.cons rfl (fun K hK => ?_) ?_
          · go_simp
            go_at_call 63
            refine (s_num [kd, who, n, m] (g := w) (l := N ++ LL) (((S4.drew.box #[.int .i64 kd, .int .i64 who, .int .i64 n, .int .i64 m] 3 (b := w4.heap.size) (by first | rfl | simp)).box #[.string (Go.Proofs.YtegafdkhbgojcaaGreatDoor.S tx)] 9 (b := w4.heap.size + 1) (by first | rfl | simp)).p2.p2) rfl (by omega) (by simp)).mono ?_
            rintro e w6 ⟨v6, rfl, S6⟩
            refine hK.out _ _ ?_ (fun hHeld => ?_)
            · exact HE.out _ _ S6 (by simp)
            clear hK K
            try simp only [Act.put, List.setIfInBounds_toArray, List.set_cons_zero, List.set_cons_succ, List.getElem_toArray, List.getElem_cons_zero, List.getElem_cons_succ]
            refine wpAnyH_ready (rs := [14, 18]) (by kernel_rfl) (by simp) ?_
            refine AllReadyH.cons rfl (fun K hK => ?_) ?_
            · go_simp
              go_at_call 64
              refine (s_text [tx] (g := w) (l := N ++ LL ++ nums [kd, who, n, m]) (S6.p1) rfl (by omega) (by simp)).mono ?_
              rintro e w7 ⟨v7, rfl, S7⟩
              refine hK.out _ _ ?_ (fun hHeld => ?_)
              · exact HE.out _ _ S7 (by simp)
              clear hK K
              try simp only [Act.put, List.setIfInBounds_toArray, List.set_cons_zero, List.set_cons_succ, List.getElem_toArray, List.getElem_cons_zero, List.getElem_cons_succ]
              refine wpAnyH_ready (rs := [18]) (by kernel_rfl) (by simp) ?_
              refine AllReadyH.cons rfl (fun K hK => ?_) ?_
              · go_simp
                refine hK.out _ _ ?_ (fun hHeld => ?_)
                · exact HE.out _ _ (S7.box #[.int .i64 (fs.length : Int)] 3 (b := w7.heap.size) (by first | rfl | simp)) (by simp)
                clear hK K
                try simp only [Act.put, List.setIfInBounds_toArray, List.set_cons_zero, List.set_cons_succ, List.getElem_toArray, List.getElem_cons_zero, List.getElem_cons_succ]
                refine wpAnyH_ready (rs := [19]) (by kernel_rfl) (by simp) ?_
                refine AllReadyH.cons rfl (fun K hK => ?_) ?_
                · go_simp
                  go_at_call 63
                  refine (s_num [(fs.length : Int)] (g := w) (l := N ++ LL ++ nums [kd, who, n, m] ++ txts [tx]) ((S7.box #[.int .i64 (fs.length : Int)] 3 (b := w7.heap.size) (by first | rfl | simp)).p1.p1) rfl (by omega) (by simp)).mono ?_
                  rintro e w8 ⟨v8, rfl, S8⟩
                  refine hK.out _ _ ?_ (fun hHeld => ?_)
                  · exact HE.out _ _ S8 (by simp)
                  clear hK K
                  try simp only [Act.put, List.setIfInBounds_toArray, List.set_cons_zero, List.set_cons_succ, List.getElem_toArray, List.getElem_cons_zero, List.getElem_cons_succ]
                  refine wpAnyH_take (i := 20) (oi := _) (v := ?_) rfl (by kernel_rfl) (by kernel_rfl) (by kernel_rfl) (fun _ _ _ h => h) (Or.inl ⟨by rfl, ?_⟩) hHeld ?_
                  rotate_left
                  · intro w' hSw
                    (try dsimp only at hSw)
                    go_simp
                    try with_reducible rfl
                  try simp only [Act.put, List.setIfInBounds_toArray, List.set_cons_zero, List.set_cons_succ, List.getElem_toArray, List.getElem_cons_zero, List.getElem_cons_succ]
                  refine wpAnyH_done (by kernel_rfl) ?_ _
                  have S9 : Sat w _ (cellsA xb 33 #[.int .i64 kd, .int .i64 who, .int .i64 n, .int .i64 m, .string (Go.Proofs.YtegafdkhbgojcaaGreatDoor.S tx), .slice B fs.length cb] :: bytesA v8 (N ++ LL ++ nums [kd, who, n, m] ++ txts [tx] ++ nums [(fs.length : Int)]) :: [oldA w]) := S8.p1
                  have hb4 : (N ++ LL ++ nums [kd, who, n, m] ++ txts [tx] ++ nums [(fs.length : Int)]).length ≤ 790006 := by
                    rw [List.length_append, nums_length]
                    simp only [List.length_cons, List.length_nil]
                    omega
                  generalize hM : N ++ LL ++ nums [kd, who, n, m] ++ txts [tx] ++ nums [(fs.length : Int)] = M at *
                  have HM := hide hM
                  clear hM
                  have y5 := S9.cell 5 _ rfl
                  go_wp2_with fail
                  go_loopw [4, 48] (fun b i wr => ∃ j : Nat, j ≤ fs.length ∧ i = .int .i64 (j : Int) ∧ Sat w wr (cellsA xb 33 #[.int .i64 kd, .int .i64 who, .int .i64 n, .int .i64 m, .string (Go.Proofs.YtegafdkhbgojcaaGreatDoor.S tx), .slice B fs.length cb] :: bytesA b (M ++ nums (fs.take j)) :: [oldA w])) (fun _ i _ => fs.length - (RowKit.intOf i).toNat)
                  case atStart => exact ⟨0, by omega, rfl, by simpa [nums] using S9⟩
                  case round =>
                    obtain ⟨j, hj, rfl, S10⟩ := hrel
                    by_cases hjl : j < fs.length
                    · obtain ⟨ad2, u, rfl, hu, d0⟩ := Src.at_ (hq1.keep S10.p2.keep_all (fun _ _ h => h)) (k := j) (by omega)
                      obtain ⟨f, hf2, rfl⟩ := is_at hu
                      have HF := hide (nums_snoc fs j f hf2)
                      clear hu hf2
                      have hb5 : (M ++ nums (fs.take j)).length ≤ 800000 := by
                        have := List.length_take_le j fs
                        rw [List.length_append, nums_length]
                        omega
                      go_wp2_with fail
                      refine (s_num [f] (S10.p1.box _ _ rfl) rfl (by omega) (by simp)).mono ?_
                      rintro e w9 ⟨v9, rfl, S11⟩
                      go_wp2_with fail
                      go_roundw
                      case rel => exact ⟨j + 1, by omega, by go_num, by rw [HF.out, ← List.append_assoc]; exact S11.p1⟩
                      case measure => simp [RowKit.intOf]; omega
                    · obtain rfl : j = fs.length := by omega
                      rw [List.take_length] at S10
                      rw [← HM.out] at S10
                      have S11 := S10.drop
                      go_wp2_with fail
                      go_roundw
                      case rel =>
                        refine ⟨k + 1, by omega, by go_num, hide ?_, ?_⟩
                        · intro q hq
                          obtain ⟨hk', hx'⟩ := List.getElem?_eq_some_iff.1 HX.out
                          rw [List.take_succ_eq_append_getElem hk', hx'] at hq
                          rcases List.mem_append.1 hq with hq | hq
                          · exact HALL.out q hq
                          · simp only [List.mem_singleton] at hq
                            subst hq
                            exact HR.out
                        · rw [HT.out, ← List.append_assoc]
                          simp only [stepB, List.append_assoc] at S11 ⊢
                          exact S11
                      case measure => simp [RowKit.intOf]; omega
                exact AllReadyH.nil
              exact AllReadyH.nil
            refine AllReadyH.cons rfl (fun K hK => ?_) ?_
            · go_simp
              refine hK.out _ _ ?_ (fun hHeld => ?_)
              · exact HE.out _ _ (S6.box #[.int .i64 (fs.length : Int)] 3 (b := w6.heap.size) (by first | rfl | simp)) (by simp)
              clear hK K
              try simp only [Act.put, List.setIfInBounds_toArray, List.set_cons_zero, List.set_cons_succ, List.getElem_toArray, List.getElem_cons_zero, List.getElem_cons_succ]
              refine wpAnyH_ready (rs := [14]) (by kernel_rfl) (by simp) ?_
              refine AllReadyH.cons rfl (fun K hK => ?_) ?_
              · go_simp
                go_at_call 64
                refine (s_text [tx] (g := w) (l := N ++ LL ++ nums [kd, who, n, m]) ((S6.box #[.int .i64 (fs.length : Int)] 3 (b := w6.heap.size) (by first | rfl | simp)).p1.p2) rfl (by omega) (by simp)).mono ?_
                rintro e w7 ⟨v7, rfl, S7⟩
                refine hK.out _ _ ?_ (fun hHeld => ?_)
                · exact HE.out _ _ S7 (by simp)
                clear hK K
                try simp only [Act.put, List.setIfInBounds_toArray, List.set_cons_zero, List.set_cons_succ, List.getElem_toArray, List.getElem_cons_zero, List.getElem_cons_succ]
                refine wpAnyH_ready (rs := [19]) (by kernel_rfl) (by simp) ?_
                refine AllReadyH.cons rfl (fun K hK => ?_) ?_
                · go_simp
                  go_at_call 63
                  refine (s_num [(fs.length : Int)] (g := w) (l := N ++ LL ++ nums [kd, who, n, m] ++ txts [tx]) (S7.p1) rfl (by omega) (by simp)).mono ?_
                  rintro e w8 ⟨v8, rfl, S8⟩
                  refine hK.out _ _ ?_ (fun hHeld => ?_)
                  · exact HE.out _ _ S8 (by simp)
                  clear hK K
                  try simp only [Act.put, List.setIfInBounds_toArray, List.set_cons_zero, List.set_cons_succ, List.getElem_toArray, List.getElem_cons_zero, List.getElem_cons_succ]
                  refine wpAnyH_take (i := 20) (oi := _) (v := ?_) rfl (by kernel_rfl) (by kernel_rfl) (by kernel_rfl) (fun _ _ _ h => h) (Or.inl ⟨by rfl, ?_⟩) hHeld ?_
                  rotate_left
                  · intro w' hSw
                    (try dsimp only at hSw)
                    go_simp
                    try with_reducible rfl
                  try simp only [Act.put, List.setIfInBounds_toArray, List.set_cons_zero, List.set_cons_succ, List.getElem_toArray, List.getElem_cons_zero, List.getElem_cons_succ]
                  refine wpAnyH_done (by kernel_rfl) ?_ _
                  have S9 : Sat w _ (cellsA xb 33 #[.int .i64 kd, .int .i64 who, .int .i64 n, .int .i64 m, .string (Go.Proofs.YtegafdkhbgojcaaGreatDoor.S tx), .slice B fs.length cb] :: bytesA v8 (N ++ LL ++ nums [kd, who, n, m] ++ txts [tx] ++ nums [(fs.length : Int)]) :: [oldA w]) := S8.p1
                  have hb4 : (N ++ LL ++ nums [kd, who, n, m] ++ txts [tx] ++ nums [(fs.length : Int)]).length ≤ 790006 := by
                    rw [List.length_append, nums_length]
                    simp only [List.length_cons, List.length_nil]
                    omega
                  generalize hM : N ++ LL ++ nums [kd, who, n, m] ++ txts [tx] ++ nums [(fs.length : Int)] = M at *
                  have HM := hide hM
                  clear hM
                  have y5 := S9.cell 5 _ rfl
                  go_wp2_with fail
                  go_loopw [4, 48] (fun b i wr => ∃ j : Nat, j ≤ fs.length ∧ i = .int .i64 (j : Int) ∧ Sat w wr (cellsA xb 33 #[.int .i64 kd, .int .i64 who, .int .i64 n, .int .i64 m, .string (Go.Proofs.YtegafdkhbgojcaaGreatDoor.S tx), .slice B fs.length cb] :: bytesA b (M ++ nums (fs.take j)) :: [oldA w])) (fun _ i _ => fs.length - (RowKit.intOf i).toNat)
                  case atStart => exact ⟨0, by omega, rfl, by simpa [nums] using S9⟩
                  case round =>
                    obtain ⟨j, hj, rfl, S10⟩ := hrel
                    by_cases hjl : j < fs.length
                    · obtain ⟨ad2, u, rfl, hu, d0⟩ := Src.at_ (hq1.keep S10.p2.keep_all (fun _ _ h => h)) (k := j) (by omega)
                      obtain ⟨f, hf2, rfl⟩ := is_at hu
                      have HF := hide (nums_snoc fs j f hf2)
                      clear hu hf2
                      have hb5 : (M ++ nums (fs.take j)).length ≤ 800000 := by
                        have := List.length_take_le j fs
                        rw [List.length_append, nums_length]
                        omega
                      go_wp2_with fail
                      refine (s_num [f] (S10.p1.box _ _ rfl) rfl (by omega) (by simp)).mono ?_
                      rintro e w9 ⟨v9, rfl, S11⟩
                      go_wp2_with fail
                      go_roundw
                      case rel => exact ⟨j + 1, by omega, by go_num, by rw [HF.out, ← List.append_assoc]; exact S11.p1⟩
                      case measure => simp [RowKit.intOf]; omega
                    · obtain rfl : j = fs.length := by omega
                      rw [List.take_length] at S10
                      rw [← HM.out] at S10
                      have S11 := S10.drop
                      go_wp2_with fail
                      go_roundw
                      case rel =>
                        refine ⟨k + 1, by omega, by go_num, hide ?_, ?_⟩
                        · intro q hq
                          obtain ⟨hk', hx'⟩ := List.getElem?_eq_some_iff.1 HX.out
                          rw [List.take_succ_eq_append_getElem hk', hx'] at hq
                          rcases List.mem_append.1 hq with hq | hq
                          · exact HALL.out q hq
                          · simp only [List.mem_singleton] at hq
                            subst hq
                            exact HR.out
                        · rw [HT.out, ← List.append_assoc]
                          simp only [stepB, List.append_assoc] at S11 ⊢
                          exact S11
                      case measure => simp [RowKit.intOf]; omega
                exact AllReadyH.nil
              exact AllReadyH.nil
            exact AllReadyH.nil
          refine AllReadyH.cons rfl (fun K hK => ?_) ?_
          · go_simp
            refine hK.out _ _ ?_ (fun hHeld => ?_)
            · exact HE.out _ _ (((S4.drew.box #[.int .i64 kd, .int .i64 who, .int .i64 n, .int .i64 m] 3 (b := w4.heap.size) (by first | rfl | simp)).box #[.string (Go.Proofs.YtegafdkhbgojcaaGreatDoor.S tx)] 9 (b := w4.heap.size + 1) (by first | rfl | simp)).box #[.int .i64 (fs.length : Int)] 3 (b := w4.heap.size + 2) (by first | rfl | simp)) (by simp)
            clear hK K
            try simp only [Act.put, List.setIfInBounds_toArray, List.set_cons_zero, List.set_cons_succ, List.getElem_toArray, List.getElem_cons_zero, List.getElem_cons_succ]
            refine wpAnyH_ready (rs := [10]) (by kernel_rfl) (by simp) ?_
            refine AllReadyH.cons rfl (fun K hK => ?_) ?_
            · go_simp
              go_at_call 63
              refine (s_num [kd, who, n, m] (g := w) (l := N ++ LL) ((((S4.drew.box #[.int .i64 kd, .int .i64 who, .int .i64 n, .int .i64 m] 3 (b := w4.heap.size) (by first | rfl | simp)).box #[.string (Go.Proofs.YtegafdkhbgojcaaGreatDoor.S tx)] 9 (b := w4.heap.size + 1) (by first | rfl | simp)).box #[.int .i64 (fs.length : Int)] 3 (b := w4.heap.size + 2) (by first | rfl | simp)).p3.p3) rfl (by omega) (by simp)).mono ?_
              rintro e w6 ⟨v6, rfl, S6⟩
              refine hK.out _ _ ?_ (fun hHeld => ?_)
              · exact HE.out _ _ S6 (by simp)
              clear hK K
              try simp only [Act.put, List.setIfInBounds_toArray, List.set_cons_zero, List.set_cons_succ, List.getElem_toArray, List.getElem_cons_zero, List.getElem_cons_succ]
              refine wpAnyH_ready (rs := [14]) (by kernel_rfl) (by simp) ?_
              refine AllReadyH.cons rfl (fun K hK => ?_) ?_
              · go_simp
                go_at_call 64
                refine (s_text [tx] (g := w) (l := N ++ LL ++ nums [kd, who, n, m]) (S6.p2) rfl (by omega) (by simp)).mono ?_
                rintro e w7 ⟨v7, rfl, S7⟩
                refine hK.out _ _ ?_ (fun hHeld => ?_)
                · exact HE.out _ _ S7 (by simp)
                clear hK K
                try simp only [Act.put, List.setIfInBounds_toArray, List.set_cons_zero, List.set_cons_succ, List.getElem_toArray, List.getElem_cons_zero, List.getElem_cons_succ]
                refine wpAnyH_ready (rs := [19]) (by kernel_rfl) (by simp) ?_
                refine AllReadyH.cons rfl (fun K hK => ?_) ?_
                · go_simp
                  go_at_call 63
                  refine (s_num [(fs.length : Int)] (g := w) (l := N ++ LL ++ nums [kd, who, n, m] ++ txts [tx]) (S7.p1) rfl (by omega) (by simp)).mono ?_
                  rintro e w8 ⟨v8, rfl, S8⟩
                  refine hK.out _ _ ?_ (fun hHeld => ?_)
                  · exact HE.out _ _ S8 (by simp)
                  clear hK K
                  try simp only [Act.put, List.setIfInBounds_toArray, List.set_cons_zero, List.set_cons_succ, List.getElem_toArray, List.getElem_cons_zero, List.getElem_cons_succ]
                  refine wpAnyH_take (i := 20) (oi := _) (v := ?_) rfl (by kernel_rfl) (by kernel_rfl) (by kernel_rfl) (fun _ _ _ h => h) (Or.inl ⟨by rfl, ?_⟩) hHeld ?_
                  rotate_left
                  · intro w' hSw
                    (try dsimp only at hSw)
                    go_simp
                    try with_reducible rfl
                  try simp only [Act.put, List.setIfInBounds_toArray, List.set_cons_zero, List.set_cons_succ, List.getElem_toArray, List.getElem_cons_zero, List.getElem_cons_succ]
                  refine wpAnyH_done (by kernel_rfl) ?_ _
                  have S9 : Sat w _ (cellsA xb 33 #[.int .i64 kd, .int .i64 who, .int .i64 n, .int .i64 m, .string (Go.Proofs.YtegafdkhbgojcaaGreatDoor.S tx), .slice B fs.length cb] :: bytesA v8 (N ++ LL ++ nums [kd, who, n, m] ++ txts [tx] ++ nums [(fs.length : Int)]) :: [oldA w]) := S8.p1
                  have hb4 : (N ++ LL ++ nums [kd, who, n, m] ++ txts [tx] ++ nums [(fs.length : Int)]).length ≤ 790006 := by
                    rw [List.length_append, nums_length]
                    simp only [List.length_cons, List.length_nil]
                    omega
                  generalize hM : N ++ LL ++ nums [kd, who, n, m] ++ txts [tx] ++ nums [(fs.length : Int)] = M at *
                  have HM := hide hM
                  clear hM
                  have y5 := S9.cell 5 _ rfl
                  go_wp2_with fail
                  go_loopw [4, 48] (fun b i wr => ∃ j : Nat, j ≤ fs.length ∧ i = .int .i64 (j : Int) ∧ Sat w wr (cellsA xb 33 #[.int .i64 kd, .int .i64 who, .int .i64 n, .int .i64 m, .string (Go.Proofs.YtegafdkhbgojcaaGreatDoor.S tx), .slice B fs.length cb] :: bytesA b (M ++ nums (fs.take j)) :: [oldA w])) (fun _ i _ => fs.length - (RowKit.intOf i).toNat)
                  case atStart => exact ⟨0, by omega, rfl, by simpa [nums] using S9⟩
                  case round =>
                    obtain ⟨j, hj, rfl, S10⟩ := hrel
                    by_cases hjl : j < fs.length
                    · obtain ⟨ad2, u, rfl, hu, d0⟩ := Src.at_ (hq1.keep S10.p2.keep_all (fun _ _ h => h)) (k := j) (by omega)
                      obtain ⟨f, hf2, rfl⟩ := is_at hu
                      have HF := hide (nums_snoc fs j f hf2)
                      clear hu hf2
                      have hb5 : (M ++ nums (fs.take j)).length ≤ 800000 := by
                        have := List.length_take_le j fs
                        rw [List.length_append, nums_length]
                        omega
                      go_wp2_with fail
                      refine (s_num [f] (S10.p1.box _ _ rfl) rfl (by omega) (by simp)).mono ?_
                      rintro e w9 ⟨v9, rfl, S11⟩
                      go_wp2_with fail
                      go_roundw
                      case rel => exact ⟨j + 1, by omega, by go_num, by rw [HF.out, ← List.append_assoc]; exact S11.p1⟩
                      case measure => simp [RowKit.intOf]; omega
                    · obtain rfl : j = fs.length := by omega
                      rw [List.take_length] at S10
                      rw [← HM.out] at S10
                      have S11 := S10.drop
                      go_wp2_with fail
                      go_roundw
                      case rel =>
                        refine ⟨k + 1, by omega, by go_num, hide ?_, ?_⟩
                        · intro q hq
                          obtain ⟨hk', hx'⟩ := List.getElem?_eq_some_iff.1 HX.out
                          rw [List.take_succ_eq_append_getElem hk', hx'] at hq
                          rcases List.mem_append.1 hq with hq | hq
                          · exact HALL.out q hq
                          · simp only [List.mem_singleton] at hq
                            subst hq
                            exact HR.out
                        · rw [HT.out, ← List.append_assoc]
                          simp only [stepB, List.append_assoc] at S11 ⊢
                          exact S11
                      case measure => simp [RowKit.intOf]; omega
                exact AllReadyH.nil
              exact AllReadyH.nil
            exact AllReadyH.nil
          exact AllReadyH.nil
        refine AllReadyH.cons rfl (fun K hK => ?_) ?_
        · go_simp
          refine hK.out _ _ ?_ (fun hHeld => ?_)
          · exact HE.out _ _ ((S4.drew.box #[.int .i64 kd, .int .i64 who, .int .i64 n, .int .i64 m] 3 (b := w4.heap.size) (by first | rfl | simp)).box #[.int .i64 (fs.length : Int)] 3 (b := w4.heap.size + 1) (by first | rfl | simp)) (by simp)
          clear hK K
          try simp only [Act.put, List.setIfInBounds_toArray, List.set_cons_zero, List.set_cons_succ, List.getElem_toArray, List.getElem_cons_zero, List.getElem_cons_succ]
          refine wpAnyH_ready (rs := [10, 13]) (by kernel_rfl) (by simp) ?_
          refine AllReadyH.cons rfl (fun K hK => ?_) ?_
          · go_simp
            go_at_call 63
            refine (s_num [kd, who, n, m] (g := w) (l := N ++ LL) (((S4.drew.box #[.int .i64 kd, .int .i64 who, .int .i64 n, .int .i64 m] 3 (b := w4.heap.size) (by first | rfl | simp)).box #[.int .i64 (fs.length : Int)] 3 (b := w4.heap.size + 1) (by first | rfl | simp)).p2.p2) rfl (by omega) (by simp)).mono ?_
            rintro e w6 ⟨v6, rfl, S6⟩
            refine hK.out _ _ ?_ (fun hHeld => ?_)
            · exact HE.out _ _ S6 (by simp)
            clear hK K
            try simp only [Act.put, List.setIfInBounds_toArray, List.set_cons_zero, List.set_cons_succ, List.getElem_toArray, List.getElem_cons_zero, List.getElem_cons_succ]
            refine wpAnyH_ready (rs := [13]) (by kernel_rfl) (by simp) ?_
            refine AllReadyH.cons rfl (fun K hK => ?_) ?_
            · go_simp
              refine hK.out _ _ ?_ (fun hHeld => ?_)
              · exact HE.out _ _ (S6.box #[.string (Go.Proofs.YtegafdkhbgojcaaGreatDoor.S tx)] 9 (b := w6.heap.size) (by first | rfl | simp)) (by simp)
              clear hK K
              try simp only [Act.put, List.setIfInBounds_toArray, List.set_cons_zero, List.set_cons_succ, List.getElem_toArray, List.getElem_cons_zero, List.getElem_cons_succ]
              refine wpAnyH_ready (rs := [14]) (by kernel_rfl) (by simp) ?_
              refine AllReadyH.cons rfl (fun K hK => ?_) ?_
              · go_simp
                go_at_call 64
                refine (s_text [tx] (g := w) (l := N ++ LL ++ nums [kd, who, n, m]) ((S6.box #[.string (Go.Proofs.YtegafdkhbgojcaaGreatDoor.S tx)] 9 (b := w6.heap.size) (by first | rfl | simp)).p1.p1) rfl (by omega) (by simp)).mono ?_
                rintro e w7 ⟨v7, rfl, S7⟩
                refine hK.out _ _ ?_ (fun hHeld => ?_)
                · exact HE.out _ _ S7 (by simp)
                clear hK K
                try simp only [Act.put, List.setIfInBounds_toArray, List.set_cons_zero, List.set_cons_succ, List.getElem_toArray, List.getElem_cons_zero, List.getElem_cons_succ]
                refine wpAnyH_ready (rs := [19]) (by kernel_rfl) (by simp) ?_
                refine AllReadyH.cons rfl (fun K hK => ?_) ?_
                · go_simp
                  go_at_call 63
                  refine (s_num [(fs.length : Int)] (g := w) (l := N ++ LL ++ nums [kd, who, n, m] ++ txts [tx]) (S7.p1) rfl (by omega) (by simp)).mono ?_
                  rintro e w8 ⟨v8, rfl, S8⟩
                  refine hK.out _ _ ?_ (fun hHeld => ?_)
                  · exact HE.out _ _ S8 (by simp)
                  clear hK K
                  try simp only [Act.put, List.setIfInBounds_toArray, List.set_cons_zero, List.set_cons_succ, List.getElem_toArray, List.getElem_cons_zero, List.getElem_cons_succ]
                  refine wpAnyH_take (i := 20) (oi := _) (v := ?_) rfl (by kernel_rfl) (by kernel_rfl) (by kernel_rfl) (fun _ _ _ h => h) (Or.inl ⟨by rfl, ?_⟩) hHeld ?_
                  rotate_left
                  · intro w' hSw
                    (try dsimp only at hSw)
                    go_simp
                    try with_reducible rfl
                  try simp only [Act.put, List.setIfInBounds_toArray, List.set_cons_zero, List.set_cons_succ, List.getElem_toArray, List.getElem_cons_zero, List.getElem_cons_succ]
                  refine wpAnyH_done (by kernel_rfl) ?_ _
                  have S9 : Sat w _ (cellsA xb 33 #[.int .i64 kd, .int .i64 who, .int .i64 n, .int .i64 m, .string (Go.Proofs.YtegafdkhbgojcaaGreatDoor.S tx), .slice B fs.length cb] :: bytesA v8 (N ++ LL ++ nums [kd, who, n, m] ++ txts [tx] ++ nums [(fs.length : Int)]) :: [oldA w]) := S8.p1
                  have hb4 : (N ++ LL ++ nums [kd, who, n, m] ++ txts [tx] ++ nums [(fs.length : Int)]).length ≤ 790006 := by
                    rw [List.length_append, nums_length]
                    simp only [List.length_cons, List.length_nil]
                    omega
                  generalize hM : N ++ LL ++ nums [kd, who, n, m] ++ txts [tx] ++ nums [(fs.length : Int)] = M at *
                  have HM := hide hM
                  clear hM
                  have y5 := S9.cell 5 _ rfl
                  go_wp2_with fail
                  go_loopw [4, 48] (fun b i wr => ∃ j : Nat, j ≤ fs.length ∧ i = .int .i64 (j : Int) ∧ Sat w wr (cellsA xb 33 #[.int .i64 kd, .int .i64 who, .int .i64 n, .int .i64 m, .string (Go.Proofs.YtegafdkhbgojcaaGreatDoor.S tx), .slice B fs.length cb] :: bytesA b (M ++ nums (fs.take j)) :: [oldA w])) (fun _ i _ => fs.length - (RowKit.intOf i).toNat)
                  case atStart => exact ⟨0, by omega, rfl, by simpa [nums] using S9⟩
                  case round =>
                    obtain ⟨j, hj, rfl, S10⟩ := hrel
                    by_cases hjl : j < fs.length
                    · obtain ⟨ad2, u, rfl, hu, d0⟩ := Src.at_ (hq1.keep S10.p2.keep_all (fun _ _ h => h)) (k := j) (by omega)
                      obtain ⟨f, hf2, rfl⟩ := is_at hu
                      have HF := hide (nums_snoc fs j f hf2)
                      clear hu hf2
                      have hb5 : (M ++ nums (fs.take j)).length ≤ 800000 := by
                        have := List.length_take_le j fs
                        rw [List.length_append, nums_length]
                        omega
                      go_wp2_with fail
                      refine (s_num [f] (S10.p1.box _ _ rfl) rfl (by omega) (by simp)).mono ?_
                      rintro e w9 ⟨v9, rfl, S11⟩
                      go_wp2_with fail
                      go_roundw
                      case rel => exact ⟨j + 1, by omega, by go_num, by rw [HF.out, ← List.append_assoc]; exact S11.p1⟩
                      case measure => simp [RowKit.intOf]; omega
                    · obtain rfl : j = fs.length := by omega
                      rw [List.take_length] at S10
                      rw [← HM.out] at S10
                      have S11 := S10.drop
                      go_wp2_with fail
                      go_roundw
                      case rel =>
                        refine ⟨k + 1, by omega, by go_num, hide ?_, ?_⟩
                        · intro q hq
                          obtain ⟨hk', hx'⟩ := List.getElem?_eq_some_iff.1 HX.out
                          rw [List.take_succ_eq_append_getElem hk', hx'] at hq
                          rcases List.mem_append.1 hq with hq | hq
                          · exact HALL.out q hq
                          · simp only [List.mem_singleton] at hq
                            subst hq
                            exact HR.out
                        · rw [HT.out, ← List.append_assoc]
                          simp only [stepB, List.append_assoc] at S11 ⊢
                          exact S11
                      case measure => simp [RowKit.intOf]; omega
                exact AllReadyH.nil
              exact AllReadyH.nil
            exact AllReadyH.nil
          refine AllReadyH.cons rfl (fun K hK => ?_) ?_
          · go_simp
            refine hK.out _ _ ?_ (fun hHeld => ?_)
            · exact HE.out _ _ (((S4.drew.box #[.int .i64 kd, .int .i64 who, .int .i64 n, .int .i64 m] 3 (b := w4.heap.size) (by first | rfl | simp)).box #[.int .i64 (fs.length : Int)] 3 (b := w4.heap.size + 1) (by first | rfl | simp)).box #[.string (Go.Proofs.YtegafdkhbgojcaaGreatDoor.S tx)] 9 (b := w4.heap.size + 2) (by first | rfl | simp)) (by simp)
            clear hK K
            try simp only [Act.put, List.setIfInBounds_toArray, List.set_cons_zero, List.set_cons_succ, List.getElem_toArray, List.getElem_cons_zero, List.getElem_cons_succ]
            refine wpAnyH_ready (rs := [10]) (by kernel_rfl) (by simp) ?_
            refine AllReadyH.cons rfl (fun K hK => ?_) ?_
            · go_simp
              go_at_call 63
              refine (s_num [kd, who, n, m] (g := w) (l := N ++ LL) ((((S4.drew.box #[.int .i64 kd, .int .i64 who, .int .i64 n, .int .i64 m] 3 (b := w4.heap.size) (by first | rfl | simp)).box #[.int .i64 (fs.length : Int)] 3 (b := w4.heap.size + 1) (by first | rfl | simp)).box #[.string (Go.Proofs.YtegafdkhbgojcaaGreatDoor.S tx)] 9 (b := w4.heap.size + 2) (by first | rfl | simp)).p3.p3) rfl (by omega) (by simp)).mono ?_
              rintro e w6 ⟨v6, rfl, S6⟩
              refine hK.out _ _ ?_ (fun hHeld => ?_)
              · exact HE.out _ _ S6 (by simp)
              clear hK K
              try simp only [Act.put, List.setIfInBounds_toArray, List.set_cons_zero, List.set_cons_succ, List.getElem_toArray, List.getElem_cons_zero, List.getElem_cons_succ]
              refine wpAnyH_ready (rs := [14]) (by kernel_rfl) (by simp) ?_
              refine AllReadyH.cons rfl (fun K hK => ?_) ?_
              · go_simp
                go_at_call 64
                refine (s_text [tx] (g := w) (l := N ++ LL ++ nums [kd, who, n, m]) (S6.p1) rfl (by omega) (by simp)).mono ?_
                rintro e w7 ⟨v7, rfl, S7⟩
                refine hK.out _ _ ?_ (fun hHeld => ?_)
                · exact HE.out _ _ S7 (by simp)
                clear hK K
                try simp only [Act.put, List.setIfInBounds_toArray, List.set_cons_zero, List.set_cons_succ, List.getElem_toArray, List.getElem_cons_zero, List.getElem_cons_succ]
                refine wpAnyH_ready (rs := [19]) (by kernel_rfl) (by simp) ?_
                refine AllReadyH.cons rfl (fun K hK => ?_) ?_
                · go_simp
                  go_at_call 63
                  refine (s_num [(fs.length : Int)] (g := w) (l := N ++ LL ++ nums [kd, who, n, m] ++ txts [tx]) (S7.p1) rfl (by omega) (by simp)).mono ?_
                  rintro e w8 ⟨v8, rfl, S8⟩
                  refine hK.out _ _ ?_ (fun hHeld => ?_)
                  · exact HE.out _ _ S8 (by simp)
                  clear hK K
                  try simp only [Act.put, List.setIfInBounds_toArray, List.set_cons_zero, List.set_cons_succ, List.getElem_toArray, List.getElem_cons_zero, List.getElem_cons_succ]
                  refine wpAnyH_take (i := 20) (oi := _) (v := ?_) rfl (by kernel_rfl) (by kernel_rfl) (by kernel_rfl) (fun _ _ _ h => h) (Or.inl ⟨by rfl, ?_⟩) hHeld ?_
                  rotate_left
                  · intro w' hSw
                    (try dsimp only at hSw)
                    go_simp
                    try with_reducible rfl
                  try simp only [Act.put, List.setIfInBounds_toArray, List.set_cons_zero, List.set_cons_succ, List.getElem_toArray, List.getElem_cons_zero, List.getElem_cons_succ]
                  refine wpAnyH_done (by kernel_rfl) ?_ _
                  have S9 : Sat w _ (cellsA xb 33 #[.int .i64 kd, .int .i64 who, .int .i64 n, .int .i64 m, .string (Go.Proofs.YtegafdkhbgojcaaGreatDoor.S tx), .slice B fs.length cb] :: bytesA v8 (N ++ LL ++ nums [kd, who, n, m] ++ txts [tx] ++ nums [(fs.length : Int)]) :: [oldA w]) := S8.p1
                  have hb4 : (N ++ LL ++ nums [kd, who, n, m] ++ txts [tx] ++ nums [(fs.length : Int)]).length ≤ 790006 := by
                    rw [List.length_append, nums_length]
                    simp only [List.length_cons, List.length_nil]
                    omega
                  generalize hM : N ++ LL ++ nums [kd, who, n, m] ++ txts [tx] ++ nums [(fs.length : Int)] = M at *
                  have HM := hide hM
                  clear hM
                  have y5 := S9.cell 5 _ rfl
                  go_wp2_with fail
                  go_loopw [4, 48] (fun b i wr => ∃ j : Nat, j ≤ fs.length ∧ i = .int .i64 (j : Int) ∧ Sat w wr (cellsA xb 33 #[.int .i64 kd, .int .i64 who, .int .i64 n, .int .i64 m, .string (Go.Proofs.YtegafdkhbgojcaaGreatDoor.S tx), .slice B fs.length cb] :: bytesA b (M ++ nums (fs.take j)) :: [oldA w])) (fun _ i _ => fs.length - (RowKit.intOf i).toNat)
                  case atStart => exact ⟨0, by omega, rfl, by simpa [nums] using S9⟩
                  case round =>
                    obtain ⟨j, hj, rfl, S10⟩ := hrel
                    by_cases hjl : j < fs.length
                    · obtain ⟨ad2, u, rfl, hu, d0⟩ := Src.at_ (hq1.keep S10.p2.keep_all (fun _ _ h => h)) (k := j) (by omega)
                      obtain ⟨f, hf2, rfl⟩ := is_at hu
                      have HF := hide (nums_snoc fs j f hf2)
                      clear hu hf2
                      have hb5 : (M ++ nums (fs.take j)).length ≤ 800000 := by
                        have := List.length_take_le j fs
                        rw [List.length_append, nums_length]
                        omega
                      go_wp2_with fail
                      refine (s_num [f] (S10.p1.box _ _ rfl) rfl (by omega) (by simp)).mono ?_
                      rintro e w9 ⟨v9, rfl, S11⟩
                      go_wp2_with fail
                      go_roundw
                      case rel => exact ⟨j + 1, by omega, by go_num, by rw [HF.out, ← List.append_assoc]; exact S11.p1⟩
                      case measure => simp [RowKit.intOf]; omega
                    · obtain rfl : j = fs.length := by omega
                      rw [List.take_length] at S10
                      rw [← HM.out] at S10
                      have S11 := S10.drop
                      go_wp2_with fail
                      go_roundw
                      case rel =>
                        refine ⟨k + 1, by omega, by go_num, hide ?_, ?_⟩
                        · intro q hq
                          obtain ⟨hk', hx'⟩ := List.getElem?_eq_some_iff.1 HX.out
                          rw [List.take_succ_eq_append_getElem hk', hx'] at hq
                          rcases List.mem_append.1 hq with hq | hq
                          · exact HALL.out q hq
                          · simp only [List.mem_singleton] at hq
                            subst hq
                            exact HR.out
                        · rw [HT.out, ← List.append_assoc]
                          simp only [stepB, List.append_assoc] at S11 ⊢
                          exact S11
                      case measure => simp [RowKit.intOf]; omega
                exact AllReadyH.nil
              exact AllReadyH.nil
            exact AllReadyH.nil
          exact AllReadyH.nil
        exact AllReadyH.nil
      refine AllReadyH.cons rfl (fun K hK => ?_) ?_
      · go_simp
        refine hK.out _ _ ?_ (fun hHeld => ?_)
        · exact HE.out _ _ (S4.drew.box #[.string (Go.Proofs.YtegafdkhbgojcaaGreatDoor.S tx)] 9 (b := w4.heap.size) (by first | rfl | simp)) (by simp)
        clear hK K
        try simp only [Act.put, List.setIfInBounds_toArray, List.set_cons_zero, List.set_cons_succ, List.getElem_toArray, List.getElem_cons_zero, List.getElem_cons_succ]
        refine wpAnyH_ready (rs := [9, 18]) (by kernel_rfl) (by simp) ?_
        refine AllReadyH.cons rfl (fun K hK => ?_) ?_
        · go_simp
          refine hK.out _ _ ?_ (fun hHeld => ?_)
          · exact HE.out _ _ ((S4.drew.box #[.string (Go.Proofs.YtegafdkhbgojcaaGreatDoor.S tx)] 9 (b := w4.heap.size) (by first | rfl | simp)).box #[.int .i64 kd, .int .i64 who, .int .i64 n, .int .i64 m] 3 (b := w4.heap.size + 1) (by first | rfl | simp)) (by simp)
          clear hK K
          try simp only [Act.put, List.setIfInBounds_toArray, List.set_cons_zero, List.set_cons_succ, List.getElem_toArray, List.getElem_cons_zero, List.getElem_cons_succ]
          refine wpAnyH_ready (rs := [10, 18]) (by kernel_rfl) (by simp) ?_
          refine AllReadyH.cons rfl (fun K hK => ?_) ?_
          · go_simp
            go_at_call 63
            refine (s_num [kd, who, n, m] (g := w) (l := N ++ LL) (((S4.drew.box #[.string (Go.Proofs.YtegafdkhbgojcaaGreatDoor.S tx)] 9 (b := w4.heap.size) (by first | rfl | simp)).box #[.int .i64 kd, .int .i64 who, .int .i64 n, .int .i64 m] 3 (b := w4.heap.size + 1) (by first | rfl | simp)).p2.p1) rfl (by omega) (by simp)).mono ?_
            rintro e w6 ⟨v6, rfl, S6⟩
            refine hK.out _ _ ?_ (fun hHeld => ?_)
            · exact HE.out _ _ S6 (by simp)
            clear hK K
            try simp only [Act.put, List.setIfInBounds_toArray, List.set_cons_zero, List.set_cons_succ, List.getElem_toArray, List.getElem_cons_zero, List.getElem_cons_succ]
            refine wpAnyH_ready (rs := [14, 18]) (by kernel_rfl) (by simp) ?_
            refine AllReadyH.cons rfl (fun K hK => ?_) ?_
            · go_simp
              go_at_call 64
              refine (s_text [tx] (g := w) (l := N ++ LL ++ nums [kd, who, n, m]) (S6.p1) rfl (by omega) (by simp)).mono ?_
              rintro e w7 ⟨v7, rfl, S7⟩
              refine hK.out _ _ ?_ (fun hHeld => ?_)
              · exact HE.out _ _ S7 (by simp)
              clear hK K
              try simp only [Act.put, List.setIfInBounds_toArray, List.set_cons_zero, List.set_cons_succ, List.getElem_toArray, List.getElem_cons_zero, List.getElem_cons_succ]
              refine wpAnyH_ready (rs := [18]) (by kernel_rfl) (by simp) ?_
              refine AllReadyH.cons rfl (fun K hK => ?_) ?_
              · go_simp
                refine hK.out _ _ ?_ (fun hHeld => ?_)
                · exact HE.out _ _ (S7.box #[.int .i64 (fs.length : Int)] 3 (b := w7.heap.size) (by first | rfl | simp)) (by simp)
                clear hK K
                try simp only [Act.put, List.setIfInBounds_toArray, List.set_cons_zero, List.set_cons_succ, List.getElem_toArray, List.getElem_cons_zero, List.getElem_cons_succ]
                refine wpAnyH_ready (rs := [19]) (by kernel_rfl) (by simp) ?_
                refine AllReadyH.cons rfl (fun K hK => ?_) ?_
                · go_simp
                  go_at_call 63
                  refine (s_num [(fs.length : Int)] (g := w) (l := N ++ LL ++ nums [kd, who, n, m] ++ txts [tx]) ((S7.box #[.int .i64 (fs.length : Int)] 3 (b := w7.heap.size) (by first | rfl | simp)).p1.p1) rfl (by omega) (by simp)).mono ?_
                  rintro e w8 ⟨v8, rfl, S8⟩
                  refine hK.out _ _ ?_ (fun hHeld => ?_)
                  · exact HE.out _ _ S8 (by simp)
                  clear hK K
                  try simp only [Act.put, List.setIfInBounds_toArray, List.set_cons_zero, List.set_cons_succ, List.getElem_toArray, List.getElem_cons_zero, List.getElem_cons_succ]
                  refine wpAnyH_take (i := 20) (oi := _) (v := ?_) rfl (by kernel_rfl) (by kernel_rfl) (by kernel_rfl) (fun _ _ _ h => h) (Or.inl ⟨by rfl, ?_⟩) hHeld ?_
                  rotate_left
                  · intro w' hSw
                    (try dsimp only at hSw)
                    go_simp
                    try with_reducible rfl
                  try simp only [Act.put, List.setIfInBounds_toArray, List.set_cons_zero, List.set_cons_succ, List.getElem_toArray, List.getElem_cons_zero, List.getElem_cons_succ]
                  refine wpAnyH_done (by kernel_rfl) ?_ _
                  have S9 : Sat w _ (cellsA xb 33 #[.int .i64 kd, .int .i64 who, .int .i64 n, .int .i64 m, .string (Go.Proofs.YtegafdkhbgojcaaGreatDoor.S tx), .slice B fs.length cb] :: bytesA v8 (N ++ LL ++ nums [kd, who, n, m] ++ txts [tx] ++ nums [(fs.length : Int)]) :: [oldA w]) := S8.p1
                  have hb4 : (N ++ LL ++ nums [kd, who, n, m] ++ txts [tx] ++ nums [(fs.length : Int)]).length ≤ 790006 := by
                    rw [List.length_append, nums_length]
                    simp only [List.length_cons, List.length_nil]
                    omega
                  generalize hM : N ++ LL ++ nums [kd, who, n, m] ++ txts [tx] ++ nums [(fs.length : Int)] = M at *
                  have HM := hide hM
                  clear hM
                  have y5 := S9.cell 5 _ rfl
                  go_wp2_with fail
                  go_loopw [4, 48] (fun b i wr => ∃ j : Nat, j ≤ fs.length ∧ i = .int .i64 (j : Int) ∧ Sat w wr (cellsA xb 33 #[.int .i64 kd, .int .i64 who, .int .i64 n, .int .i64 m, .string (Go.Proofs.YtegafdkhbgojcaaGreatDoor.S tx), .slice B fs.length cb] :: bytesA b (M ++ nums (fs.take j)) :: [oldA w])) (fun _ i _ => fs.length - (RowKit.intOf i).toNat)
                  case atStart => exact ⟨0, by omega, rfl, by simpa [nums] using S9⟩
                  case round =>
                    obtain ⟨j, hj, rfl, S10⟩ := hrel
                    by_cases hjl : j < fs.length
                    · obtain ⟨ad2, u, rfl, hu, d0⟩ := Src.at_ (hq1.keep S10.p2.keep_all (fun _ _ h => h)) (k := j) (by omega)
                      obtain ⟨f, hf2, rfl⟩ := is_at hu
                      have HF := hide (nums_snoc fs j f hf2)
                      clear hu hf2
                      have hb5 : (M ++ nums (fs.take j)).length ≤ 800000 := by
                        have := List.length_take_le j fs
                        rw [List.length_append, nums_length]
                        omega
                      go_wp2_with fail
                      refine (s_num [f] (S10.p1.box _ _ rfl) rfl (by omega) (by simp)).mono ?_
                      rintro e w9 ⟨v9, rfl, S11⟩
                      go_wp2_with fail
                      go_roundw
                      case rel => exact ⟨j + 1, by omega, by go_num, by rw [HF.out, ← List.append_assoc]; exact S11.p1⟩
                      case measure => simp [RowKit.intOf]; omega
                    · obtain rfl : j = fs.length := by omega
                      rw [List.take_length] at S10
                      rw [← HM.out] at S10
                      have S11 := S10.drop
                      go_wp2_with fail
                      go_roundw
                      case rel =>
                        refine ⟨k + 1, by omega, by go_num, hide ?_, ?_⟩
                        · intro q hq
                          obtain ⟨hk', hx'⟩ := List.getElem?_eq_some_iff.1 HX.out
                          rw [List.take_succ_eq_append_getElem hk', hx'] at hq
                          rcases List.mem_append.1 hq with hq | hq
                          · exact HALL.out q hq
                          · simp only [List.mem_singleton] at hq
                            subst hq
                            exact HR.out
                        · rw [HT.out, ← List.append_assoc]
                          simp only [stepB, List.append_assoc] at S11 ⊢
                          exact S11
                      case measure => simp [RowKit.intOf]; omega
                exact AllReadyH.nil
              exact AllReadyH.nil
            refine AllReadyH.cons rfl (fun K hK => ?_) ?_
            · go_simp
              refine hK.out _ _ ?_ (fun hHeld => ?_)
              · exact HE.out _ _ (S6.box #[.int .i64 (fs.length : Int)] 3 (b := w6.heap.size) (by first | rfl | simp)) (by simp)
              clear hK K
              try simp only [Act.put, List.setIfInBounds_toArray, List.set_cons_zero, List.set_cons_succ, List.getElem_toArray, List.getElem_cons_zero, List.getElem_cons_succ]
              refine wpAnyH_ready (rs := [14]) (by kernel_rfl) (by simp) ?_
              refine AllReadyH.cons rfl (fun K hK => ?_) ?_
              · go_simp
                go_at_call 64
                refine (s_text [tx] (g := w) (l := N ++ LL ++ nums [kd, who, n, m]) ((S6.box #[.int .i64 (fs.length : Int)] 3 (b := w6.heap.size) (by first | rfl | simp)).p1.p2) rfl (by omega) (by simp)).mono ?_
                rintro e w7 ⟨v7, rfl, S7⟩
                refine hK.out _ _ ?_ (fun hHeld => ?_)
                · exact HE.out _ _ S7 (by simp)
                clear hK K
                try simp only [Act.put, List.setIfInBounds_toArray, List.set_cons_zero, List.set_cons_succ, List.getElem_toArray, List.getElem_cons_zero, List.getElem_cons_succ]
                refine wpAnyH_ready (rs := [19]) (by kernel_rfl) (by simp) ?_
                refine AllReadyH.cons rfl (fun K hK => ?_) ?_
                · go_simp
                  go_at_call 63
                  refine (s_num [(fs.length : Int)] (g := w) (l := N ++ LL ++ nums [kd, who, n, m] ++ txts [tx]) (S7.p1) rfl (by omega) (by simp)).mono ?_
                  rintro e w8 ⟨v8, rfl, S8⟩
                  refine hK.out _ _ ?_ (fun hHeld => ?_)
                  · exact HE.out _ _ S8 (by simp)
                  clear hK K
                  try simp only [Act.put, List.setIfInBounds_toArray, List.set_cons_zero, List.set_cons_succ, List.getElem_toArray, List.getElem_cons_zero, List.getElem_cons_succ]
                  refine wpAnyH_take (i := 20) (oi := _) (v := ?_) rfl (by kernel_rfl) (by kernel_rfl) (by kernel_rfl) (fun _ _ _ h => h) (Or.inl ⟨by rfl, ?_⟩) hHeld ?_
                  rotate_left
                  · intro w' hSw
                    (try dsimp only at hSw)
                    go_simp
                    try with_reducible rfl
                  try simp only [Act.put, List.setIfInBounds_toArray, List.set_cons_zero, List.set_cons_succ, List.getElem_toArray, List.getElem_cons_zero, List.getElem_cons_succ]
                  refine wpAnyH_done (by kernel_rfl) ?_ _
                  have S9 : Sat w _ (cellsA xb 33 #[.int .i64 kd, .int .i64 who, .int .i64 n, .int .i64 m, .string (Go.Proofs.YtegafdkhbgojcaaGreatDoor.S tx), .slice B fs.length cb] :: bytesA v8 (N ++ LL ++ nums [kd, who, n, m] ++ txts [tx] ++ nums [(fs.length : Int)]) :: [oldA w]) := S8.p1
                  have hb4 : (N ++ LL ++ nums [kd, who, n, m] ++ txts [tx] ++ nums [(fs.length : Int)]).length ≤ 790006 := by
                    rw [List.length_append, nums_length]
                    simp only [List.length_cons, List.length_nil]
                    omega
                  generalize hM : N ++ LL ++ nums [kd, who, n, m] ++ txts [tx] ++ nums [(fs.length : Int)] = M at *
                  have HM := hide hM
                  clear hM
                  have y5 := S9.cell 5 _ rfl
                  go_wp2_with fail
                  go_loopw [4, 48] (fun b i wr => ∃ j : Nat, j ≤ fs.length ∧ i = .int .i64 (j : Int) ∧ Sat w wr (cellsA xb 33 #[.int .i64 kd, .int .i64 who, .int .i64 n, .int .i64 m, .string (Go.Proofs.YtegafdkhbgojcaaGreatDoor.S tx), .slice B fs.length cb] :: bytesA b (M ++ nums (fs.take j)) :: [oldA w])) (fun _ i _ => fs.length - (RowKit.intOf i).toNat)
                  case atStart => exact ⟨0, by omega, rfl, by simpa [nums] using S9⟩
                  case round =>
                    obtain ⟨j, hj, rfl, S10⟩ := hrel
                    by_cases hjl : j < fs.length
                    · obtain ⟨ad2, u, rfl, hu, d0⟩ := Src.at_ (hq1.keep S10.p2.keep_all (fun _ _ h => h)) (k := j) (by omega)
                      obtain ⟨f, hf2, rfl⟩ := is_at hu
                      have HF := hide (nums_snoc fs j f hf2)
                      clear hu hf2
                      have hb5 : (M ++ nums (fs.take j)).length ≤ 800000 := by
                        have := List.length_take_le j fs
                        rw [List.length_append, nums_length]
                        omega
                      go_wp2_with fail
                      refine (s_num [f] (S10.p1.box _ _ rfl) rfl (by omega) (by simp)).mono ?_
                      rintro e w9 ⟨v9, rfl, S11⟩
                      go_wp2_with fail
                      go_roundw
                      case rel => exact ⟨j + 1, by omega, by go_num, by rw [HF.out, ← List.append_assoc]; exact S11.p1⟩
                      case measure => simp [RowKit.intOf]; omega
                    · obtain rfl : j = fs.length := by omega
                      rw [List.take_length] at S10
                      rw [← HM.out] at S10
                      have S11 := S10.drop
                      go_wp2_with fail
                      go_roundw
                      case rel =>
                        refine ⟨k + 1, by omega, by go_num, hide ?_, ?_⟩
                        · intro q hq
                          obtain ⟨hk', hx'⟩ := List.getElem?_eq_some_iff.1 HX.out
                          rw [List.take_succ_eq_append_getElem hk', hx'] at hq
                          rcases List.mem_append.1 hq with hq | hq
                          · exact HALL.out q hq
                          · simp only [List.mem_singleton] at hq
                            subst hq
                            exact HR.out
                        · rw [HT.out, ← List.append_assoc]
                          simp only [stepB, List.append_assoc] at S11 ⊢
                          exact S11
                      case measure => simp [RowKit.intOf]; omega
                exact AllReadyH.nil
              exact AllReadyH.nil
            exact AllReadyH.nil
          refine AllReadyH.cons rfl (fun K hK => ?_) ?_
          · go_simp
            refine hK.out _ _ ?_ (fun hHeld => ?_)
            · exact HE.out _ _ (((S4.drew.box #[.string (Go.Proofs.YtegafdkhbgojcaaGreatDoor.S tx)] 9 (b := w4.heap.size) (by first | rfl | simp)).box #[.int .i64 kd, .int .i64 who, .int .i64 n, .int .i64 m] 3 (b := w4.heap.size + 1) (by first | rfl | simp)).box #[.int .i64 (fs.length : Int)] 3 (b := w4.heap.size + 2) (by first | rfl | simp)) (by simp)
            clear hK K
            try simp only [Act.put, List.setIfInBounds_toArray, List.set_cons_zero, List.set_cons_succ, List.getElem_toArray, List.getElem_cons_zero, List.getElem_cons_succ]
            refine wpAnyH_ready (rs := [10]) (by kernel_rfl) (by simp) ?_
            refine AllReadyH.cons rfl (fun K hK => ?_) ?_
            · go_simp
              go_at_call 63
              refine (s_num [kd, who, n, m] (g := w) (l := N ++ LL) ((((S4.drew.box #[.string (Go.Proofs.YtegafdkhbgojcaaGreatDoor.S tx)] 9 (b := w4.heap.size) (by first | rfl | simp)).box #[.int .i64 kd, .int .i64 who, .int .i64 n, .int .i64 m] 3 (b := w4.heap.size + 1) (by first | rfl | simp)).box #[.int .i64 (fs.length : Int)] 3 (b := w4.heap.size + 2) (by first | rfl | simp)).p3.p2) rfl (by omega) (by simp)).mono ?_
              rintro e w6 ⟨v6, rfl, S6⟩
              refine hK.out _ _ ?_ (fun hHeld => ?_)
              · exact HE.out _ _ S6 (by simp)
              clear hK K
              try simp only [Act.put, List.setIfInBounds_toArray, List.set_cons_zero, List.set_cons_succ, List.getElem_toArray, List.getElem_cons_zero, List.getElem_cons_succ]
              refine wpAnyH_ready (rs := [14]) (by kernel_rfl) (by simp) ?_
              refine AllReadyH.cons rfl (fun K hK => ?_) ?_
              · go_simp
                go_at_call 64
                refine (s_text [tx] (g := w) (l := N ++ LL ++ nums [kd, who, n, m]) (S6.p2) rfl (by omega) (by simp)).mono ?_
                rintro e w7 ⟨v7, rfl, S7⟩
                refine hK.out _ _ ?_ (fun hHeld => ?_)
                · exact HE.out _ _ S7 (by simp)
                clear hK K
                try simp only [Act.put, List.setIfInBounds_toArray, List.set_cons_zero, List.set_cons_succ, List.getElem_toArray, List.getElem_cons_zero, List.getElem_cons_succ]
                refine wpAnyH_ready (rs := [19]) (by kernel_rfl) (by simp) ?_
                refine AllReadyH.cons rfl (fun K hK => ?_) ?_
                · go_simp
                  go_at_call 63
                  refine (s_num [(fs.length : Int)] (g := w) (l := N ++ LL ++ nums [kd, who, n, m] ++ txts [tx]) (S7.p1) rfl (by omega) (by simp)).mono ?_
                  rintro e w8 ⟨v8, rfl, S8⟩
                  refine hK.out _ _ ?_ (fun hHeld => ?_)
                  · exact HE.out _ _ S8 (by simp)
                  clear hK K
                  try simp only [Act.put, List.setIfInBounds_toArray, List.set_cons_zero, List.set_cons_succ, List.getElem_toArray, List.getElem_cons_zero, List.getElem_cons_succ]
                  refine wpAnyH_take (i := 20) (oi := _) (v := ?_) rfl (by kernel_rfl) (by kernel_rfl) (by kernel_rfl) (fun _ _ _ h => h) (Or.inl ⟨by rfl, ?_⟩) hHeld ?_
                  rotate_left
                  · intro w' hSw
                    (try dsimp only at hSw)
                    go_simp
                    try with_reducible rfl
                  try simp only [Act.put, List.setIfInBounds_toArray, List.set_cons_zero, List.set_cons_succ, List.getElem_toArray, List.getElem_cons_zero, List.getElem_cons_succ]
                  refine wpAnyH_done (by kernel_rfl) ?_ _
                  have S9 : Sat w _ (cellsA xb 33 #[.int .i64 kd, .int .i64 who, .int .i64 n, .int .i64 m, .string (Go.Proofs.YtegafdkhbgojcaaGreatDoor.S tx), .slice B fs.length cb] :: bytesA v8 (N ++ LL ++ nums [kd, who, n, m] ++ txts [tx] ++ nums [(fs.length : Int)]) :: [oldA w]) := S8.p1
                  have hb4 : (N ++ LL ++ nums [kd, who, n, m] ++ txts [tx] ++ nums [(fs.length : Int)]).length ≤ 790006 := by
                    rw [List.length_append, nums_length]
                    simp only [List.length_cons, List.length_nil]
                    omega
                  generalize hM : N ++ LL ++ nums [kd, who, n, m] ++ txts [tx] ++ nums [(fs.length : Int)] = M at *
                  have HM := hide hM
                  clear hM
                  have y5 := S9.cell 5 _ rfl
                  go_wp2_with fail
                  go_loopw [4, 48] (fun b i wr => ∃ j : Nat, j ≤ fs.length ∧ i = .int .i64 (j : Int) ∧ Sat w wr (cellsA xb 33 #[.int .i64 kd, .int .i64 who, .int .i64 n, .int .i64 m, .string (Go.Proofs.YtegafdkhbgojcaaGreatDoor.S tx), .slice B fs.length cb] :: bytesA b (M ++ nums (fs.take j)) :: [oldA w])) (fun _ i _ => fs.length - (RowKit.intOf i).toNat)
                  case atStart => exact ⟨0, by omega, rfl, by simpa [nums] using S9⟩
                  case round =>
                    obtain ⟨j, hj, rfl, S10⟩ := hrel
                    by_cases hjl : j < fs.length
                    · obtain ⟨ad2, u, rfl, hu, d0⟩ := Src.at_ (hq1.keep S10.p2.keep_all (fun _ _ h => h)) (k := j) (by omega)
                      obtain ⟨f, hf2, rfl⟩ := is_at hu
                      have HF := hide (nums_snoc fs j f hf2)
                      clear hu hf2
                      have hb5 : (M ++ nums (fs.take j)).length ≤ 800000 := by
                        have := List.length_take_le j fs
                        rw [List.length_append, nums_length]
                        omega
                      go_wp2_with fail
                      refine (s_num [f] (S10.p1.box _ _ rfl) rfl (by omega) (by simp)).mono ?_
                      rintro e w9 ⟨v9, rfl, S11⟩
                      go_wp2_with fail
                      go_roundw
                      case rel => exact ⟨j + 1, by omega, by go_num, by rw [HF.out, ← List.append_assoc]; exact S11.p1⟩
                      case measure => simp [RowKit.intOf]; omega
                    · obtain rfl : j = fs.length := by omega
                      rw [List.take_length] at S10
                      rw [← HM.out] at S10
                      have S11 := S10.drop
                      go_wp2_with fail
                      go_roundw
                      case rel =>
                        refine ⟨k + 1, by omega, by go_num, hide ?_, ?_⟩
                        · intro q hq
                          obtain ⟨hk', hx'⟩ := List.getElem?_eq_some_iff.1 HX.out
                          rw [List.take_succ_eq_append_getElem hk', hx'] at hq
                          rcases List.mem_append.1 hq with hq | hq
                          · exact HALL.out q hq
                          · simp only [List.mem_singleton] at hq
                            subst hq
                            exact HR.out
                        · rw [HT.out, ← List.append_assoc]
                          simp only [stepB, List.append_assoc] at S11 ⊢
                          exact S11
                      case measure => simp [RowKit.intOf]; omega
                exact AllReadyH.nil
              exact AllReadyH.nil
            exact AllReadyH.nil
          exact AllReadyH.nil
        refine AllReadyH.cons rfl (fun K hK => ?_) ?_
        · go_simp
          refine hK.out _ _ ?_ (fun hHeld => ?_)
          · exact HE.out _ _ ((S4.drew.box #[.string (Go.Proofs.YtegafdkhbgojcaaGreatDoor.S tx)] 9 (b := w4.heap.size) (by first | rfl | simp)).box #[.int .i64 (fs.length : Int)] 3 (b := w4.heap.size + 1) (by first | rfl | simp)) (by simp)
          clear hK K
          try simp only [Act.put, List.setIfInBounds_toArray, List.set_cons_zero, List.set_cons_succ, List.getElem_toArray, List.getElem_cons_zero, List.getElem_cons_succ]
          refine wpAnyH_ready (rs := [9]) (by kernel_rfl) (by simp) ?_
          refine AllReadyH.cons rfl (fun K hK => ?_) ?_
          · go_simp
            refine hK.out _ _ ?_ (fun hHeld => ?_)
            · exact HE.out _ _ (((S4.drew.box #[.string (Go.Proofs.YtegafdkhbgojcaaGreatDoor.S tx)] 9 (b := w4.heap.size) (by first | rfl | simp)).box #[.int .i64 (fs.length : Int)] 3 (b := w4.heap.size + 1) (by first | rfl | simp)).box #[.int .i64 kd, .int .i64 who, .int .i64 n, .int .i64 m] 3 (b := w4.heap.size + 2) (by first | rfl | simp)) (by simp)
            clear hK K
            try simp only [Act.put, List.setIfInBounds_toArray, List.set_cons_zero, List.set_cons_succ, List.getElem_toArray, List.getElem_cons_zero, List.getElem_cons_succ]
            refine wpAnyH_ready (rs := [10]) (by kernel_rfl) (by simp) ?_
            refine AllReadyH.cons rfl (fun K hK => ?_) ?_
            · go_simp
              go_at_call 63
              refine (s_num [kd, who, n, m] (g := w) (l := N ++ LL) ((((S4.drew.box #[.string (Go.Proofs.YtegafdkhbgojcaaGreatDoor.S tx)] 9 (b := w4.heap.size) (by first | rfl | simp)).box #[.int .i64 (fs.length : Int)] 3 (b := w4.heap.size + 1) (by first | rfl | simp)).box #[.int .i64 kd, .int .i64 who, .int .i64 n, .int .i64 m] 3 (b := w4.heap.size + 2) (by first | rfl | simp)).p3.p1) rfl (by omega) (by simp)).mono ?_
              rintro e w6 ⟨v6, rfl, S6⟩
              refine hK.out _ _ ?_ (fun hHeld => ?_)
              · exact HE.out _ _ S6 (by simp)
              clear hK K
              try simp only [Act.put, List.setIfInBounds_toArray, List.set_cons_zero, List.set_cons_succ, List.getElem_toArray, List.getElem_cons_zero, List.getElem_cons_succ]
              refine wpAnyH_ready (rs := [14]) (by kernel_rfl) (by simp) ?_
              refine AllReadyH.cons rfl (fun K hK => ?_) ?_
              · go_simp
                go_at_call 64
                refine (s_text [tx] (g := w) (l := N ++ LL ++ nums [kd, who, n, m]) (S6.p2) rfl (by omega) (by simp)).mono ?_
                rintro e w7 ⟨v7, rfl, S7⟩
                refine hK.out _ _ ?_ (fun hHeld => ?_)
                · exact HE.out _ _ S7 (by simp)
                clear hK K
                try simp only [Act.put, List.setIfInBounds_toArray, List.set_cons_zero, List.set_cons_succ, List.getElem_toArray, List.getElem_cons_zero, List.getElem_cons_succ]
                refine wpAnyH_ready (rs := [19]) (by kernel_rfl) (by simp) ?_
                refine AllReadyH.cons rfl (fun K hK => ?_) ?_
                · go_simp
                  go_at_call 63
                  refine (s_num [(fs.length : Int)] (g := w) (l := N ++ LL ++ nums [kd, who, n, m] ++ txts [tx]) (S7.p1) rfl (by omega) (by simp)).mono ?_
                  rintro e w8 ⟨v8, rfl, S8⟩
                  refine hK.out _ _ ?_ (fun hHeld => ?_)
                  · exact HE.out _ _ S8 (by simp)
                  clear hK K
                  try simp only [Act.put, List.setIfInBounds_toArray, List.set_cons_zero, List.set_cons_succ, List.getElem_toArray, List.getElem_cons_zero, List.getElem_cons_succ]
                  refine wpAnyH_take (i := 20) (oi := _) (v := ?_) rfl (by kernel_rfl) (by kernel_rfl) (by kernel_rfl) (fun _ _ _ h => h) (Or.inl ⟨by rfl, ?_⟩) hHeld ?_
                  rotate_left
                  · intro w' hSw
                    (try dsimp only at hSw)
                    go_simp
                    try with_reducible rfl
                  try simp only [Act.put, List.setIfInBounds_toArray, List.set_cons_zero, List.set_cons_succ, List.getElem_toArray, List.getElem_cons_zero, List.getElem_cons_succ]
                  refine wpAnyH_done (by kernel_rfl) ?_ _
                  have S9 : Sat w _ (cellsA xb 33 #[.int .i64 kd, .int .i64 who, .int .i64 n, .int .i64 m, .string (Go.Proofs.YtegafdkhbgojcaaGreatDoor.S tx), .slice B fs.length cb] :: bytesA v8 (N ++ LL ++ nums [kd, who, n, m] ++ txts [tx] ++ nums [(fs.length : Int)]) :: [oldA w]) := S8.p1
                  have hb4 : (N ++ LL ++ nums [kd, who, n, m] ++ txts [tx] ++ nums [(fs.length : Int)]).length ≤ 790006 := by
                    rw [List.length_append, nums_length]
                    simp only [List.length_cons, List.length_nil]
                    omega
                  generalize hM : N ++ LL ++ nums [kd, who, n, m] ++ txts [tx] ++ nums [(fs.length : Int)] = M at *
                  have HM := hide hM
                  clear hM
                  have y5 := S9.cell 5 _ rfl
                  go_wp2_with fail
                  go_loopw [4, 48] (fun b i wr => ∃ j : Nat, j ≤ fs.length ∧ i = .int .i64 (j : Int) ∧ Sat w wr (cellsA xb 33 #[.int .i64 kd, .int .i64 who, .int .i64 n, .int .i64 m, .string (Go.Proofs.YtegafdkhbgojcaaGreatDoor.S tx), .slice B fs.length cb] :: bytesA b (M ++ nums (fs.take j)) :: [oldA w])) (fun _ i _ => fs.length - (RowKit.intOf i).toNat)
                  case atStart => exact ⟨0, by omega, rfl, by simpa [nums] using S9⟩
                  case round =>
                    obtain ⟨j, hj, rfl, S10⟩ := hrel
                    by_cases hjl : j < fs.length
                    · obtain ⟨ad2, u, rfl, hu, d0⟩ := Src.at_ (hq1.keep S10.p2.keep_all (fun _ _ h => h)) (k := j) (by omega)
                      obtain ⟨f, hf2, rfl⟩ := is_at hu
                      have HF := hide (nums_snoc fs j f hf2)
                      clear hu hf2
                      have hb5 : (M ++ nums (fs.take j)).length ≤ 800000 := by
                        have := List.length_take_le j fs
                        rw [List.length_append, nums_length]
                        omega
                      go_wp2_with fail
                      refine (s_num [f] (S10.p1.box _ _ rfl) rfl (by omega) (by simp)).mono ?_
                      rintro e w9 ⟨v9, rfl, S11⟩
                      go_wp2_with fail
                      go_roundw
                      case rel => exact ⟨j + 1, by omega, by go_num, by rw [HF.out, ← List.append_assoc]; exact S11.p1⟩
                      case measure => simp [RowKit.intOf]; omega
                    · obtain rfl : j = fs.length := by omega
                      rw [List.take_length] at S10
                      rw [← HM.out] at S10
                      have S11 := S10.drop
                      go_wp2_with fail
                      go_roundw
                      case rel =>
                        refine ⟨k + 1, by omega, by go_num, hide ?_, ?_⟩
                        · intro q hq
                          obtain ⟨hk', hx'⟩ := List.getElem?_eq_some_iff.1 HX.out
                          rw [List.take_succ_eq_append_getElem hk', hx'] at hq
                          rcases List.mem_append.1 hq with hq | hq
                          · exact HALL.out q hq
                          · simp only [List.mem_singleton] at hq
                            subst hq
                            exact HR.out
                        · rw [HT.out, ← List.append_assoc]
                          simp only [stepB, List.append_assoc] at S11 ⊢
                          exact S11
                      case measure => simp [RowKit.intOf]; omega
                exact AllReadyH.nil
              exact AllReadyH.nil
            exact AllReadyH.nil
          exact AllReadyH.nil
        exact AllReadyH.nil
      refine AllReadyH.cons rfl (fun K hK => ?_) ?_
      · go_simp
        refine hK.out _ _ ?_ (fun hHeld => ?_)
        · exact HE.out _ _ (S4.drew.box #[.int .i64 (fs.length : Int)] 3 (b := w4.heap.size) (by first | rfl | simp)) (by simp)
        clear hK K
        try simp only [Act.put, List.setIfInBounds_toArray, List.set_cons_zero, List.set_cons_succ, List.getElem_toArray, List.getElem_cons_zero, List.getElem_cons_succ]
        refine wpAnyH_ready (rs := [9, 13]) (by kernel_rfl) (by simp) ?_
        refine AllReadyH.cons rfl (fun K hK => ?_) ?_
        · go_simp
          refine hK.out _ _ ?_ (fun hHeld => ?_)
          · exact HE.out _ _ ((S4.drew.box #[.int .i64 (fs.length : Int)] 3 (b := w4.heap.size) (by first | rfl | simp)).box #[.int .i64 kd, .int .i64 who, .int .i64 n, .int .i64 m] 3 (b := w4.heap.size + 1) (by first | rfl | simp)) (by simp)
          clear hK K
          try simp only [Act.put, List.setIfInBounds_toArray, List.set_cons_zero, List.set_cons_succ, List.getElem_toArray, List.getElem_cons_zero, List.getElem_cons_succ]
          refine wpAnyH_ready (rs := [10, 13]) (by kernel_rfl) (by simp) ?_
          refine AllReadyH.cons rfl (fun K hK => ?_) ?_
          · go_simp
            go_at_call 63
            refine (s_num [kd, who, n, m] (g := w) (l := N ++ LL) (((S4.drew.box #[.int .i64 (fs.length : Int)] 3 (b := w4.heap.size) (by first | rfl | simp)).box #[.int .i64 kd, .int .i64 who, .int .i64 n, .int .i64 m] 3 (b := w4.heap.size + 1) (by first | rfl | simp)).p2.p1) rfl (by omega) (by simp)).mono ?_
            rintro e w6 ⟨v6, rfl, S6⟩
            refine hK.out _ _ ?_ (fun hHeld => ?_)
            · exact HE.out _ _ S6 (by simp)
            clear hK K
            try simp only [Act.put, List.setIfInBounds_toArray, List.set_cons_zero, List.set_cons_succ, List.getElem_toArray, List.getElem_cons_zero, List.getElem_cons_succ]
            refine wpAnyH_ready (rs := [13]) (by kernel_rfl) (by simp) ?_
            refine AllReadyH.cons rfl (fun K hK => ?_) ?_
            · go_simp
              refine hK.out _ _ ?_ (fun hHeld => ?_)
              · exact HE.out _ _ (S6.box #[.string (Go.Proofs.YtegafdkhbgojcaaGreatDoor.S tx)] 9 (b := w6.heap.size) (by first | rfl | simp)) (by simp)
              clear hK K
              try simp only [Act.put, List.setIfInBounds_toArray, List.set_cons_zero, List.set_cons_succ, List.getElem_toArray, List.getElem_cons_zero, List.getElem_cons_succ]
              refine wpAnyH_ready (rs := [14]) (by kernel_rfl) (by simp) ?_
              refine AllReadyH.cons rfl (fun K hK => ?_) ?_
              · go_simp
                go_at_call 64
                refine (s_text [tx] (g := w) (l := N ++ LL ++ nums [kd, who, n, m]) ((S6.box #[.string (Go.Proofs.YtegafdkhbgojcaaGreatDoor.S tx)] 9 (b := w6.heap.size) (by first | rfl | simp)).p1.p1) rfl (by omega) (by simp)).mono ?_
                rintro e w7 ⟨v7, rfl, S7⟩
                refine hK.out _ _ ?_ (fun hHeld => ?_)
                · exact HE.out _ _ S7 (by simp)
                clear hK K
                try simp only [Act.put, List.setIfInBounds_toArray, List.set_cons_zero, List.set_cons_succ, List.getElem_toArray, List.getElem_cons_zero, List.getElem_cons_succ]
                refine wpAnyH_ready (rs := [19]) (by kernel_rfl) (by simp) ?_
                refine AllReadyH.cons rfl (fun K hK => ?_) ?_
                · go_simp
                  go_at_call 63
                  refine (s_num [(fs.length : Int)] (g := w) (l := N ++ LL ++ nums [kd, who, n, m] ++ txts [tx]) (S7.p1) rfl (by omega) (by simp)).mono ?_
                  rintro e w8 ⟨v8, rfl, S8⟩
                  refine hK.out _ _ ?_ (fun hHeld => ?_)
                  · exact HE.out _ _ S8 (by simp)
                  clear hK K
                  try simp only [Act.put, List.setIfInBounds_toArray, List.set_cons_zero, List.set_cons_succ, List.getElem_toArray, List.getElem_cons_zero, List.getElem_cons_succ]
                  refine wpAnyH_take (i := 20) (oi := _) (v := ?_) rfl (by kernel_rfl) (by kernel_rfl) (by kernel_rfl) (fun _ _ _ h => h) (Or.inl ⟨by rfl, ?_⟩) hHeld ?_
                  rotate_left
                  · intro w' hSw
                    (try dsimp only at hSw)
                    go_simp
                    try with_reducible rfl
                  try simp only [Act.put, List.setIfInBounds_toArray, List.set_cons_zero, List.set_cons_succ, List.getElem_toArray, List.getElem_cons_zero, List.getElem_cons_succ]
                  refine wpAnyH_done (by kernel_rfl) ?_ _
                  have S9 : Sat w _ (cellsA xb 33 #[.int .i64 kd, .int .i64 who, .int .i64 n, .int .i64 m, .string (Go.Proofs.YtegafdkhbgojcaaGreatDoor.S tx), .slice B fs.length cb] :: bytesA v8 (N ++ LL ++ nums [kd, who, n, m] ++ txts [tx] ++ nums [(fs.length : Int)]) :: [oldA w]) := S8.p1
                  have hb4 : (N ++ LL ++ nums [kd, who, n, m] ++ txts [tx] ++ nums [(fs.length : Int)]).length ≤ 790006 := by
                    rw [List.length_append, nums_length]
                    simp only [List.length_cons, List.length_nil]
                    omega
                  generalize hM : N ++ LL ++ nums [kd, who, n, m] ++ txts [tx] ++ nums [(fs.length : Int)] = M at *
                  have HM := hide hM
                  clear hM
                  have y5 := S9.cell 5 _ rfl
                  go_wp2_with fail
                  go_loopw [4, 48] (fun b i wr => ∃ j : Nat, j ≤ fs.length ∧ i = .int .i64 (j : Int) ∧ Sat w wr (cellsA xb 33 #[.int .i64 kd, .int .i64 who, .int .i64 n, .int .i64 m, .string (Go.Proofs.YtegafdkhbgojcaaGreatDoor.S tx), .slice B fs.length cb] :: bytesA b (M ++ nums (fs.take j)) :: [oldA w])) (fun _ i _ => fs.length - (RowKit.intOf i).toNat)
                  case atStart => exact ⟨0, by omega, rfl, by simpa [nums] using S9⟩
                  case round =>
                    obtain ⟨j, hj, rfl, S10⟩ := hrel
                    by_cases hjl : j < fs.length
                    · obtain ⟨ad2, u, rfl, hu, d0⟩ := Src.at_ (hq1.keep S10.p2.keep_all (fun _ _ h => h)) (k := j) (by omega)
                      obtain ⟨f, hf2, rfl⟩ := is_at hu
                      have HF := hide (nums_snoc fs j f hf2)
                      clear hu hf2
                      have hb5 : (M ++ nums (fs.take j)).length ≤ 800000 := by
                        have := List.length_take_le j fs
                        rw [List.length_append, nums_length]
                        omega
                      go_wp2_with fail
                      refine (s_num [f] (S10.p1.box _ _ rfl) rfl (by omega) (by simp)).mono ?_
                      rintro e w9 ⟨v9, rfl, S11⟩
                      go_wp2_with fail
                      go_roundw
                      case rel => exact ⟨j + 1, by omega, by go_num, by rw [HF.out, ← List.append_assoc]; exact S11.p1⟩
                      case measure => simp [RowKit.intOf]; omega
                    · obtain rfl : j = fs.length := by omega
                      rw [List.take_length] at S10
                      rw [← HM.out] at S10
                      have S11 := S10.drop
                      go_wp2_with fail
                      go_roundw
                      case rel =>
                        refine ⟨k + 1, by omega, by go_num, hide ?_, ?_⟩
                        · intro q hq
                          obtain ⟨hk', hx'⟩ := List.getElem?_eq_some_iff.1 HX.out
                          rw [List.take_succ_eq_append_getElem hk', hx'] at hq
                          rcases List.mem_append.1 hq with hq | hq
                          · exact HALL.out q hq
                          · simp only [List.mem_singleton] at hq
                            subst hq
                            exact HR.out
                        · rw [HT.out, ← List.append_assoc]
                          simp only [stepB, List.append_assoc] at S11 ⊢
                          exact S11
                      case measure => simp [RowKit.intOf]; omega
                exact AllReadyH.nil
              exact AllReadyH.nil
            exact AllReadyH.nil
          refine AllReadyH.cons rfl (fun K hK => ?_) ?_
          · go_simp
            refine hK.out _ _ ?_ (fun hHeld => ?_)
            · exact HE.out _ _ (((S4.drew.box #[.int .i64 (fs.length : Int)] 3 (b := w4.heap.size) (by first | rfl | simp)).box #[.int .i64 kd, .int .i64 who, .int .i64 n, .int .i64 m] 3 (b := w4.heap.size + 1) (by first | rfl | simp)).box #[.string (Go.Proofs.YtegafdkhbgojcaaGreatDoor.S tx)] 9 (b := w4.heap.size + 2) (by first | rfl | simp)) (by simp)
            clear hK K
            try simp only [Act.put, List.setIfInBounds_toArray, List.set_cons_zero, List.set_cons_succ, List.getElem_toArray, List.getElem_cons_zero, List.getElem_cons_succ]
            refine wpAnyH_ready (rs := [10]) (by kernel_rfl) (by simp) ?_
            refine AllReadyH.cons rfl (fun K hK => ?_) ?_
            · go_simp
              go_at_call 63
              refine (s_num [kd, who, n, m] (g := w) (l := N ++ LL) ((((S4.drew.box #[.int .i64 (fs.length : Int)] 3 (b := w4.heap.size) (by first | rfl | simp)).box #[.int .i64 kd, .int .i64 who, .int .i64 n, .int .i64 m] 3 (b := w4.heap.size + 1) (by first | rfl | simp)).box #[.string (Go.Proofs.YtegafdkhbgojcaaGreatDoor.S tx)] 9 (b := w4.heap.size + 2) (by first | rfl | simp)).p3.p2) rfl (by omega) (by simp)).mono ?_
              rintro e w6 ⟨v6, rfl, S6⟩
              refine hK.out _ _ ?_ (fun hHeld => ?_)
              · exact HE.out _ _ S6 (by simp)
              clear hK K
              try simp only [Act.put, List.setIfInBounds_toArray, List.set_cons_zero, List.set_cons_succ, List.getElem_toArray, List.getElem_cons_zero, List.getElem_cons_succ]
              refine wpAnyH_ready (rs := [14]) (by kernel_rfl) (by simp) ?_
              refine AllReadyH.cons rfl (fun K hK => ?_) ?_
              · go_simp
                go_at_call 64
                refine (s_text [tx] (g := w) (l := N ++ LL ++ nums [kd, who, n, m]) (S6.p1) rfl (by omega) (by simp)).mono ?_
                rintro e w7 ⟨v7, rfl, S7⟩
                refine hK.out _ _ ?_ (fun hHeld => ?_)
                · exact HE.out _ _ S7 (by simp)
                clear hK K
                try simp only [Act.put, List.setIfInBounds_toArray, List.set_cons_zero, List.set_cons_succ, List.getElem_toArray, List.getElem_cons_zero, List.getElem_cons_succ]
                refine wpAnyH_ready (rs := [19]) (by kernel_rfl) (by simp) ?_
                refine AllReadyH.cons rfl (fun K hK => ?_) ?_
                · go_simp
                  go_at_call 63
                  refine (s_num [(fs.length : Int)] (g := w) (l := N ++ LL ++ nums [kd, who, n, m] ++ txts [tx]) (S7.p1) rfl (by omega) (by simp)).mono ?_
                  rintro e w8 ⟨v8, rfl, S8⟩
                  refine hK.out _ _ ?_ (fun hHeld => ?_)
                  · exact HE.out _ _ S8 (by simp)
                  clear hK K
                  try simp only [Act.put, List.setIfInBounds_toArray, List.set_cons_zero, List.set_cons_succ, List.getElem_toArray, List.getElem_cons_zero, List.getElem_cons_succ]
                  refine wpAnyH_take (i := 20) (oi := _) (v := ?_) rfl (by kernel_rfl) (by kernel_rfl) (by kernel_rfl) (fun _ _ _ h => h) (Or.inl ⟨by rfl, ?_⟩) hHeld ?_
                  rotate_left
                  · intro w' hSw
                    (try dsimp only at hSw)
                    go_simp
                    try with_reducible rfl
                  try simp only [Act.put, List.setIfInBounds_toArray, List.set_cons_zero, List.set_cons_succ, List.getElem_toArray, List.getElem_cons_zero, List.getElem_cons_succ]
                  refine wpAnyH_done (by kernel_rfl) ?_ _
                  have S9 : Sat w _ (cellsA xb 33 #[.int .i64 kd, .int .i64 who, .int .i64 n, .int .i64 m, .string (Go.Proofs.YtegafdkhbgojcaaGreatDoor.S tx), .slice B fs.length cb] :: bytesA v8 (N ++ LL ++ nums [kd, who, n, m] ++ txts [tx] ++ nums [(fs.length : Int)]) :: [oldA w]) := S8.p1
                  have hb4 : (N ++ LL ++ nums [kd, who, n, m] ++ txts [tx] ++ nums [(fs.length : Int)]).length ≤ 790006 := by
                    rw [List.length_append, nums_length]
                    simp only [List.length_cons, List.length_nil]
                    omega
                  generalize hM : N ++ LL ++ nums [kd, who, n, m] ++ txts [tx] ++ nums [(fs.length : Int)] = M at *
                  have HM := hide hM
                  clear hM
                  have y5 := S9.cell 5 _ rfl
                  go_wp2_with fail
                  go_loopw [4, 48] (fun b i wr => ∃ j : Nat, j ≤ fs.length ∧ i = .int .i64 (j : Int) ∧ Sat w wr (cellsA xb 33 #[.int .i64 kd, .int .i64 who, .int .i64 n, .int .i64 m, .string (Go.Proofs.YtegafdkhbgojcaaGreatDoor.S tx), .slice B fs.length cb] :: bytesA b (M ++ nums (fs.take j)) :: [oldA w])) (fun _ i _ => fs.length - (RowKit.intOf i).toNat)
                  case atStart => exact ⟨0, by omega, rfl, by simpa [nums] using S9⟩
                  case round =>
                    obtain ⟨j, hj, rfl, S10⟩ := hrel
                    by_cases hjl : j < fs.length
                    · obtain ⟨ad2, u, rfl, hu, d0⟩ := Src.at_ (hq1.keep S10.p2.keep_all (fun _ _ h => h)) (k := j) (by omega)
                      obtain ⟨f, hf2, rfl⟩ := is_at hu
                      have HF := hide (nums_snoc fs j f hf2)
                      clear hu hf2
                      have hb5 : (M ++ nums (fs.take j)).length ≤ 800000 := by
                        have := List.length_take_le j fs
                        rw [List.length_append, nums_length]
                        omega
                      go_wp2_with fail
                      refine (s_num [f] (S10.p1.box _ _ rfl) rfl (by omega) (by simp)).mono ?_
                      rintro e w9 ⟨v9, rfl, S11⟩
                      go_wp2_with fail
                      go_roundw
                      case rel => exact ⟨j + 1, by omega, by go_num, by rw [HF.out, ← List.append_assoc]; exact S11.p1⟩
                      case measure => simp [RowKit.intOf]; omega
                    · obtain rfl : j = fs.length := by omega
                      rw [List.take_length] at S10
                      rw [← HM.out] at S10
                      have S11 := S10.drop
                      go_wp2_with fail
                      go_roundw
                      case rel =>
                        refine ⟨k + 1, by omega, by go_num, hide ?_, ?_⟩
                        · intro q hq
                          obtain ⟨hk', hx'⟩ := List.getElem?_eq_some_iff.1 HX.out
                          rw [List.take_succ_eq_append_getElem hk', hx'] at hq
                          rcases List.mem_append.1 hq with hq | hq
                          · exact HALL.out q hq
                          · simp only [List.mem_singleton] at hq
                            subst hq
                            exact HR.out
                        · rw [HT.out, ← List.append_assoc]
                          simp only [stepB, List.append_assoc] at S11 ⊢
                          exact S11
                      case measure => simp [RowKit.intOf]; omega
                exact AllReadyH.nil
              exact AllReadyH.nil
            exact AllReadyH.nil
          exact AllReadyH.nil
        refine AllReadyH.cons rfl (fun K hK => ?_) ?_
        · go_simp
          refine hK.out _ _ ?_ (fun hHeld => ?_)
          · exact HE.out _ _ ((S4.drew.box #[.int .i64 (fs.length : Int)] 3 (b := w4.heap.size) (by first | rfl | simp)).box #[.string (Go.Proofs.YtegafdkhbgojcaaGreatDoor.S tx)] 9 (b := w4.heap.size + 1) (by first | rfl | simp)) (by simp)
          clear hK K
          try simp only [Act.put, List.setIfInBounds_toArray, List.set_cons_zero, List.set_cons_succ, List.getElem_toArray, List.getElem_cons_zero, List.getElem_cons_succ]
          refine wpAnyH_ready (rs := [9]) (by kernel_rfl) (by simp) ?_
          refine AllReadyH.cons rfl (fun K hK => ?_) ?_
          · go_simp
            refine hK.out _ _ ?_ (fun hHeld => ?_)
            · exact HE.out _ _ (((S4.drew.box #[.int .i64 (fs.length : Int)] 3 (b := w4.heap.size) (by first | rfl | simp)).box #[.string (Go.Proofs.YtegafdkhbgojcaaGreatDoor.S tx)] 9 (b := w4.heap.size + 1) (by first | rfl | simp)).box #[.int .i64 kd, .int .i64 who, .int .i64 n, .int .i64 m] 3 (b := w4.heap.size + 2) (by first | rfl | simp)) (by simp)
            clear hK K
            try simp only [Act.put, List.setIfInBounds_toArray, List.set_cons_zero, List.set_cons_succ, List.getElem_toArray, List.getElem_cons_zero, List.getElem_cons_succ]
            refine wpAnyH_ready (rs := [10]) (by kernel_rfl) (by simp) ?_
            refine AllReadyH.cons rfl (fun K hK => ?_) ?_
            · go_simp
              go_at_call 63
              refine (s_num [kd, who, n, m] (g := w) (l := N ++ LL) ((((S4.drew.box #[.int .i64 (fs.length : Int)] 3 (b := w4.heap.size) (by first | rfl | simp)).box #[.string (Go.Proofs.YtegafdkhbgojcaaGreatDoor.S tx)] 9 (b := w4.heap.size + 1) (by first | rfl | simp)).box #[.int .i64 kd, .int .i64 who, .int .i64 n, .int .i64 m] 3 (b := w4.heap.size + 2) (by first | rfl | simp)).p3.p1) rfl (by omega) (by simp)).mono ?_
              rintro e w6 ⟨v6, rfl, S6⟩
              refine hK.out _ _ ?_ (fun hHeld => ?_)
              · exact HE.out _ _ S6 (by simp)
              clear hK K
              try simp only [Act.put, List.setIfInBounds_toArray, List.set_cons_zero, List.set_cons_succ, List.getElem_toArray, List.getElem_cons_zero, List.getElem_cons_succ]
              refine wpAnyH_ready (rs := [14]) (by kernel_rfl) (by simp) ?_
              refine AllReadyH.cons rfl (fun K hK => ?_) ?_
              · go_simp
                go_at_call 64
                refine (s_text [tx] (g := w) (l := N ++ LL ++ nums [kd, who, n, m]) (S6.p1) rfl (by omega) (by simp)).mono ?_
                rintro e w7 ⟨v7, rfl, S7⟩
                refine hK.out _ _ ?_ (fun hHeld => ?_)
                · exact HE.out _ _ S7 (by simp)
                clear hK K
                try simp only [Act.put, List.setIfInBounds_toArray, List.set_cons_zero, List.set_cons_succ, List.getElem_toArray, List.getElem_cons_zero, List.getElem_cons_succ]
                refine wpAnyH_ready (rs := [19]) (by kernel_rfl) (by simp) ?_
                refine AllReadyH.cons rfl (fun K hK => ?_) ?_
                · go_simp
                  go_at_call 63
                  refine (s_num [(fs.length : Int)] (g := w) (l := N ++ LL ++ nums [kd, who, n, m] ++ txts [tx]) (S7.p1) rfl (by omega) (by simp)).mono ?_
                  rintro e w8 ⟨v8, rfl, S8⟩
                  refine hK.out _ _ ?_ (fun hHeld => ?_)
                  · exact HE.out _ _ S8 (by simp)
                  clear hK K
                  try simp only [Act.put, List.setIfInBounds_toArray, List.set_cons_zero, List.set_cons_succ, List.getElem_toArray, List.getElem_cons_zero, List.getElem_cons_succ]
                  refine wpAnyH_take (i := 20) (oi := _) (v := ?_) rfl (by kernel_rfl) (by kernel_rfl) (by kernel_rfl) (fun _ _ _ h => h) (Or.inl ⟨by rfl, ?_⟩) hHeld ?_
                  rotate_left
                  · intro w' hSw
                    (try dsimp only at hSw)
                    go_simp
                    try with_reducible rfl
                  try simp only [Act.put, List.setIfInBounds_toArray, List.set_cons_zero, List.set_cons_succ, List.getElem_toArray, List.getElem_cons_zero, List.getElem_cons_succ]
                  refine wpAnyH_done (by kernel_rfl) ?_ _
                  have S9 : Sat w _ (cellsA xb 33 #[.int .i64 kd, .int .i64 who, .int .i64 n, .int .i64 m, .string (Go.Proofs.YtegafdkhbgojcaaGreatDoor.S tx), .slice B fs.length cb] :: bytesA v8 (N ++ LL ++ nums [kd, who, n, m] ++ txts [tx] ++ nums [(fs.length : Int)]) :: [oldA w]) := S8.p1
                  have hb4 : (N ++ LL ++ nums [kd, who, n, m] ++ txts [tx] ++ nums [(fs.length : Int)]).length ≤ 790006 := by
                    rw [List.length_append, nums_length]
                    simp only [List.length_cons, List.length_nil]
                    omega
                  generalize hM : N ++ LL ++ nums [kd, who, n, m] ++ txts [tx] ++ nums [(fs.length : Int)] = M at *
                  have HM := hide hM
                  clear hM
                  have y5 := S9.cell 5 _ rfl
                  go_wp2_with fail
                  go_loopw [4, 48] (fun b i wr => ∃ j : Nat, j ≤ fs.length ∧ i = .int .i64 (j : Int) ∧ Sat w wr (cellsA xb 33 #[.int .i64 kd, .int .i64 who, .int .i64 n, .int .i64 m, .string (Go.Proofs.YtegafdkhbgojcaaGreatDoor.S tx), .slice B fs.length cb] :: bytesA b (M ++ nums (fs.take j)) :: [oldA w])) (fun _ i _ => fs.length - (RowKit.intOf i).toNat)
                  case atStart => exact ⟨0, by omega, rfl, by simpa [nums] using S9⟩
                  case round =>
                    obtain ⟨j, hj, rfl, S10⟩ := hrel
                    by_cases hjl : j < fs.length
                    · obtain ⟨ad2, u, rfl, hu, d0⟩ := Src.at_ (hq1.keep S10.p2.keep_all (fun _ _ h => h)) (k := j) (by omega)
                      obtain ⟨f, hf2, rfl⟩ := is_at hu
                      have HF := hide (nums_snoc fs j f hf2)
                      clear hu hf2
                      have hb5 : (M ++ nums (fs.take j)).length ≤ 800000 := by
                        have := List.length_take_le j fs
                        rw [List.length_append, nums_length]
                        omega
                      go_wp2_with fail
                      refine (s_num [f] (S10.p1.box _ _ rfl) rfl (by omega) (by simp)).mono ?_
                      rintro e w9 ⟨v9, rfl, S11⟩
                      go_wp2_with fail
                      go_roundw
                      case rel => exact ⟨j + 1, by omega, by go_num, by rw [HF.out, ← List.append_assoc]; exact S11.p1⟩
                      case measure => simp [RowKit.intOf]; omega
                    · obtain rfl : j = fs.length := by omega
                      rw [List.take_length] at S10
                      rw [← HM.out] at S10
                      have S11 := S10.drop
                      go_wp2_with fail
                      go_roundw
                      case rel =>
                        refine ⟨k + 1, by omega, by go_num, hide ?_, ?_⟩
                        · intro q hq
                          obtain ⟨hk', hx'⟩ := List.getElem?_eq_some_iff.1 HX.out
                          rw [List.take_succ_eq_append_getElem hk', hx'] at hq
                          rcases List.mem_append.1 hq with hq | hq
                          · exact HALL.out q hq
                          · simp only [List.mem_singleton] at hq
                            subst hq
                            exact HR.out
                        · rw [HT.out, ← List.append_assoc]
                          simp only [stepB, List.append_assoc] at S11 ⊢
                          exact S11
                      case measure => simp [RowKit.intOf]; omega
                exact AllReadyH.nil
              exact AllReadyH.nil
            exact AllReadyH.nil
          exact AllReadyH.nil
        exact AllReadyH.nil
      exact AllReadyH.nil
    · obtain rfl : k = qs.length := by omega
      rw [List.take_length] at S2 HALL
      have he : bytesS (qs.map (·.1)) = (stepsB (qs.map (·.1)), 0) := by
        unfold bytesS
        rw [if_neg (by rw [List.length_map]; exact h5), if_pos]
        rw [List.all_eq_true]
        intro s hs
        obtain ⟨q, hq, rfl⟩ := List.mem_map.1 hs
        exact HALL.out q hq
      have he2 : stepsB (qs.map (·.1)) = N ++ (qs.map (·.1)).flatMap stepB := by
        rw [← HN.out]; unfold stepsB; rw [List.length_map]
      have HB := hide he
      have HB2 := hide he2
      clear he he2
      obtain ⟨A2, n2, cap2, e2, hsrc⟩ := S2.bytesForm
      subst e2
      have hconv := run_ofBytes (P := Tryz.prog) (dst := 9) Tryz.underlying117 Tryz.underlying5 Tryz.underlying9 hsrc cap2
      go_wp2_with fail
      go_ret2
      rw [HB.out, HB2.out]
      exact ⟨rfl, S2.p1.keep_all⟩
end Go.Proofs.YtegafdkhbgojcaaGreatDoor
