/- The steps that bytes are: the contract. No condition. -/
import Derived.Test.YtegafdkhbgojcaaGreatDoorScQ
set_option linter.unusedVariables false
set_option linter.unusedSimpArgs false
namespace Go.Proofs.YtegafdkhbgojcaaGreatDoor
open Go.RowKit

theorem slF : Sl Tryz.prog 31 116 1 8 (.int .i64 0) := .mk' Tryz.underlying31 (by kernel_rfl) rfl (by decide)
theorem slSt6 : Sl Tryz.prog 23 33 6 72 (.agg #[.int .i64 0, .int .i64 0, .int .i64 0, .int .i64 0, .string ⟨#[]⟩, .slice none 0 0]) := .mk' Tryz.underlying23 (by kernel_rfl) rfl (by decide)
/-- fates that were read -/
def fatesA (q : SQ) : Asn := rowA 116 1 (.slice q.2.1 q.1.fates.length q.2.2) q.1.fates.length (Is q.1.fates)
def poolA : List SQ → Asn
  | [] => pureA True
  | q :: l => star (fatesA q) (poolA l)
theorem pool_src {g w : World} : ∀ {ps : List SQ} {L : List Asn}, Sat g w (poolA ps :: L) → ∀ q ∈ ps, Src w 1 q.2.1 q.1.fates.length (Is q.1.fates)
  | [], _, _, q, hq => by cases hq
  | p :: ps, L, S0, q, hq => by
    have S1 : Sat g w (fatesA p :: poolA ps :: L) := Sat.split S0
    rcases List.mem_cons.1 hq with rfl | hq
    · exact Sat.srcR S1
    · exact pool_src S1.drop q hq
/-- what is kept of the steps that were read -/
structure Had (k : Nat) (x : RS) (qs ps : List SQ) : Prop where
  same : qs.map (·.1) = (rSt k x).1
  right : ∀ t ∈ (rSt k x).1, stepR t = true
  good : ∀ q ∈ qs, q ∈ ps ∧ q.1.fates.length ≤ 9223372036854775807 ∧ q.1.text.length ≤ 9223372036854775807
theorem Had.nil (x : RS) : Had 0 x [] [] := ⟨rfl, by simp [rSt], by simp⟩
theorem Had.snoc {k : Nat} {x : RS} {qs ps : List SQ} (h : Had k x qs ps) {q : SQ} (hq : (rStep (rSt k x).2).1 = q.1) (hr : stepR q.1 = true) : Had (k + 1) x (qs ++ [q]) (q :: ps) := by
  obtain ⟨q1, q2, q3, q4, q5, q6⟩ := stepR_of hr
  refine ⟨?_, ?_, ?_⟩
  · rw [List.map_append, h.same, rSt]
    simp only [List.map_cons, List.map_nil, hq]
  · intro t ht
    rw [rSt] at ht
    simp only [List.mem_append, List.mem_singleton] at ht
    rcases ht with ht | rfl
    · exact h.right t ht
    · rw [hq]; exact hr
  · intro p hp
    rcases List.mem_append.1 hp with hp | hp
    · obtain ⟨h1, h2⟩ := h.good p hp
      exact ⟨List.mem_cons_of_mem _ h1, h2⟩
    · simp only [List.mem_singleton] at hp
      subst hp
      exact ⟨List.mem_cons_self, by omega, by omega⟩

set_option maxRecDepth 100000 in
set_option maxHeartbeats 4000000 in
theorem parse_steps (w : World) (s : List UInt8) (hs : s.length ≤ 9223372036854775807) :
    Calls Tryz.prog 12 #[.string (S s)] w fun e w' =>
      (e = .returned (.tuple #[.slice none 0 0, .int .i64 2]) ∧ StNo s ∧ Keeps (fun k => w.heap.size ≤ k) w w') ∨
      (∃ (A : Option Addr) (c : Nat) (qs : List SQ), e = .returned (.tuple #[.slice A qs.length c, .int .i64 0]) ∧ StYes s (qs.map (·.1)) ∧ Src w' 6 A qs.length (qs.flatMap sqL) ∧ (∀ q ∈ qs, SqOk w' q) ∧ Keeps (fun k => w.heap.size ≤ k) w w') := by
  have S0 := Sat.start w
  have hlo := rn_lo (s, false) 500
  have hhi := rn_hi (s, false) 500 (by decide)
  obtain ⟨N, hN⟩ : ∃ N, stN s = N := ⟨_, rfl⟩
  obtain ⟨X, hX⟩ : ∃ X, stX s = X := ⟨_, rfl⟩
  have hn : (rn (s, false) 500).1 = (N : Int) := by rw [← hN]; unfold stN; omega
  have hx : (rn (s, false) 500).2 = X := hX
  have hN5 : N ≤ 500 := by omega
  have HNX := hide (show stN s = N ∧ stX s = X from ⟨hN, hX⟩)
  clear hN hX hlo hhi
  go_enter Tryz.func12, Tryz.ntmps12
  go_wp2_with fail
  refine (s_read S0 s hs).mono ?_
  rintro e w1 ⟨r, rfl, S1⟩
  go_wp2_with fail
  refine (s_rnum 500 S1).mono ?_
  rw [hn, hx]
  rintro e w2 ⟨rfl, S2⟩
  clear hn hx S0 S1
  have S3 : Sat w w2 (rowA 33 6 (.slice none 0 0) 0 (([] : List SQ).flatMap sqL) :: rdA r (rSt 0 X).2 :: poolA [] :: [oldA w]) := ((S2.p1.nil trivial).p2).nilRow _ _
  go_wp2_with fail
  go_loopw [5, 11] (fun o i wr => ∃ k : Nat, k ≤ N ∧ i = .int .i64 (k : Int) ∧ ∃ (A : Option Addr) (c : Nat) (qs ps : List SQ), o = .slice A k c ∧ Hid (Had k X qs ps) ∧ Sat w wr (rowA 33 6 (.slice A k c) k (qs.flatMap sqL) :: rdA r (rSt k X).2 :: poolA ps :: [oldA w])) (fun _ i _ => N - (RowKit.intOf i).toNat)
  case atStart => exact ⟨0, by omega, rfl, none, 0, [], [], rfl, hide (Had.nil X), S3⟩
  case round =>
    obtain ⟨k, hk, rfl, A, c, qs, ps, rfl, HAD, S4⟩ := hrel
    clear S2 S3
    by_cases hlt : k < N
    · obtain ⟨⟨a1, x1⟩, h1⟩ : ∃ a, rn (rSt k X).2 13 = a := ⟨_, rfl⟩
      obtain ⟨⟨a2, x2⟩, h2⟩ : ∃ a, rn x1 1048576 = a := ⟨_, rfl⟩
      obtain ⟨⟨a3, x3⟩, h3⟩ : ∃ a, rn x2 1048576 = a := ⟨_, rfl⟩
      obtain ⟨⟨a4, x4⟩, h4⟩ : ∃ a, rn x3 1048576 = a := ⟨_, rfl⟩
      obtain ⟨⟨a5, x5⟩, h5⟩ : ∃ a, rt x4 500 = a := ⟨_, rfl⟩
      obtain ⟨⟨a6, x6⟩, h6⟩ : ∃ a, rn x5 100 = a := ⟨_, rfl⟩
      have hl5 := rt_len x4 500 (by decide)
      have hlo6 := rn_lo x5 100
      have hhi6 := rn_hi x5 100 (by decide)
      rw [h5] at hl5
      rw [h6] at hlo6 hhi6
      simp only at hl5 hlo6 hhi6
      obtain ⟨n6, rfl⟩ : ∃ n6 : Nat, a6 = (n6 : Int) := ⟨a6.toNat, by omega⟩
      have hst : rStep (rSt k X).2 = (⟨a1, a2, a3, a4, a5, (rFates n6 x6).1⟩, (rFates n6 x6).2) := by
        unfold rStep rA2 rA3 rA4 rA5 rA6 rA7
        rw [h1]; simp only
        rw [h2]; simp only
        rw [h3]; simp only
        rw [h4]; simp only
        rw [h5]; simp only
        rw [h6]; simp only [Int.toNat_natCast]
      have HST := hide hst
      clear hst
      go_wp2_with fail
      refine (s_rnum 13 S4.p1).mono ?_
      rw [h1]
      rintro e w3 ⟨rfl, S5⟩
      go_wp2_with fail
      refine (s_rnum 1048576 S5).mono ?_
      rw [h2]
      rintro e w4 ⟨rfl, S6⟩
      go_wp2_with fail
      refine (s_rnum 1048576 S6).mono ?_
      rw [h3]
      rintro e w5 ⟨rfl, S7⟩
      go_wp2_with fail
      refine (s_rnum 1048576 S7).mono ?_
      rw [h4]
      rintro e w6 ⟨rfl, S8⟩
      go_wp2_with fail
      refine (s_rtext 500 S8).mono ?_
      rw [h5]
      rintro e w7 ⟨rfl, S9⟩
      clear S4 S5 S6 S7 S8 h1 h2 h3 h4 h5
      simp only at S9
      go_upto_region 6 with fail
      have S10 := S9.box #[.int .i64 a1, .int .i64 a2, .int .i64 a3, .int .i64 a4, .string (Go.Proofs.YtegafdkhbgojcaaGreatDoor.S a5), .slice none 0 0] 33 rfl
      generalize w7.alloc (.cells #[.int .i64 a1, .int .i64 a2, .int .i64 a3, .int .i64 a4, .string (Go.Proofs.YtegafdkhbgojcaaGreatDoor.S a5), .slice none 0 0] 33) = w8 at *
      generalize w7.heap.size = xb at *
      go_wp2_with fail
      refine (s_rnum 100 S10.p1).mono ?_
      rw [h6]
      rintro e w9 ⟨rfl, S11⟩
      have S12 : Sat w w9 (cellsA xb 33 #[.int .i64 a1, .int .i64 a2, .int .i64 a3, .int .i64 a4, .string (Go.Proofs.YtegafdkhbgojcaaGreatDoor.S a5), .slice none 0 0] :: rowA 116 1 (.slice none 0 0) 0 (Is (rFates 0 x6).1) :: rdA r (rFates 0 x6).2 :: rowA 33 6 (.slice A k c) k (qs.flatMap sqL) :: poolA ps :: [oldA w]) := (S11.p1.nilRow 116 1).p1
      clear S9 S10 S11 h6
      go_wp2_with fail
      go_loopw [26] (fun i wr => ∃ j : Nat, j ≤ n6 ∧ i = .int .i64 (j : Int) ∧ ∃ (B : Option Addr) (cb : Nat), Sat w wr (cellsA xb 33 #[.int .i64 a1, .int .i64 a2, .int .i64 a3, .int .i64 a4, .string (Go.Proofs.YtegafdkhbgojcaaGreatDoor.S a5), .slice B j cb] :: rowA 116 1 (.slice B j cb) j (Is (rFates j x6).1) :: rdA r (rFates j x6).2 :: rowA 33 6 (.slice A k c) k (qs.flatMap sqL) :: poolA ps :: [oldA w])) (fun i _ => n6 - (RowKit.intOf i).toNat)
      case atStart => exact ⟨0, by omega, rfl, none, 0, S12⟩
      case round =>
        obtain ⟨j, hj, rfl, B, cb, S10⟩ := hrel
        clear S12
        by_cases hjl : j < n6
        · have y5 := S10.cell 5 _ rfl
          go_upto_region 8 with fail
          refine wp_region_held_drew (S := (fun _ => True)) (by kernel_rfl) ?_ (fun hHeld => ?_)
          · exact trivial
          refine wpAnyH_take (i := 0) (oi := _) (v := ?_) rfl (by kernel_rfl) (by kernel_rfl) (by kernel_rfl) (fun _ _ _ h => h) (Or.inl ⟨by rfl, ?_⟩) hHeld ?_
          rotate_left
          · intro w' hSw
            (try dsimp only at hSw)
            go_simp
            try with_reducible rfl
          try simp only [Act.put, List.setIfInBounds_toArray, List.set_cons_zero, List.set_cons_succ, List.getElem_toArray, List.getElem_cons_zero, List.getElem_cons_succ]
          refine wpAnyH_take (i := 2) (oi := _) (v := ?_) rfl (by kernel_rfl) (by kernel_rfl) (by kernel_rfl) (fun _ _ _ h => h) (Or.inl ⟨by rfl, ?_⟩) hHeld ?_
          rotate_left
          · intro w' hSw
            (try dsimp only at hSw)
            go_simp
            try with_reducible rfl
          try simp only [Act.put, List.setIfInBounds_toArray, List.set_cons_zero, List.set_cons_succ, List.getElem_toArray, List.getElem_cons_zero, List.getElem_cons_succ]
          refine wpAnyH_ready (rs := [1, 3]) (by kernel_rfl) (by simp) ?_
          refine AllReadyH.cons rfl (fun K hK => ?_) ?_
          · go_simp
            refine hK.out _ _ ?_ (fun hHeld => ?_)
            · exact trivial
            clear hK K
            try simp only [Act.put, List.setIfInBounds_toArray, List.set_cons_zero, List.set_cons_succ, List.getElem_toArray, List.getElem_cons_zero, List.getElem_cons_succ]
            refine wpAnyH_ready (rs := [3]) (by kernel_rfl) (by simp) ?_
            refine AllReadyH.cons rfl (fun K hK => ?_) ?_
            · go_simp
              refine (s_rnum 2 (S10.p2.drew)).mono ?_
              rintro e w5 ⟨rfl, S11⟩
              have z5 := S11.p1.cell 5 _ rfl
              refine hK.out _ _ ?_ (fun hHeld => ?_)
              · exact trivial
              clear hK K
              try simp only [Act.put, List.setIfInBounds_toArray, List.set_cons_zero, List.set_cons_succ, List.getElem_toArray, List.getElem_cons_zero, List.getElem_cons_succ]
              refine wpAnyH_ready (rs := [4]) (by kernel_rfl) (by simp) ?_
              refine AllReadyH.cons rfl (fun K hK => ?_) ?_
              · go_simp
                have u5 := (S11.box #[.int .i64 (rn (rFates j x6).2 2).1] 116 rfl).p2.cell 5 _ rfl
                refine hK.out _ _ ?_ (fun hHeld => ?_)
                · exact trivial
                clear hK K
                try simp only [Act.put, List.setIfInBounds_toArray, List.set_cons_zero, List.set_cons_succ, List.getElem_toArray, List.getElem_cons_zero, List.getElem_cons_succ]
                refine wpAnyH_ready (rs := [5]) (by kernel_rfl) (by simp) ?_
                refine AllReadyH.cons rfl (fun K hK => ?_) ?_
                · refine step_app slF rfl (.tmp 29) (.tmp 32) rfl (g := w) (S := (S11.box #[.int .i64 (rn (rFates j x6).2 2).1] 116 rfl).p3) (by go_simp) (c := 1) (Src.block (heap_alloc_new _ _) 1 1 rfl) (by go_simp) (by simp [Value.oneCell']) (by unfold maxLen; omega) (by omega) ?_
                  intro A8 c8 w8 S13
                  have k0 := S13.p3.cell 5 _ rfl
                  have k1 := S13.p3.cells_fz 5
                  refine hK.out _ _ ?_ (fun hHeld => ?_)
                  · exact trivial
                  clear hK K
                  try simp only [Act.put, List.setIfInBounds_toArray, List.set_cons_zero, List.set_cons_succ, List.getElem_toArray, List.getElem_cons_zero, List.getElem_cons_succ]
                  refine wpAnyH_take (i := 6) (oi := _) (v := ?_) rfl (by kernel_rfl) (by kernel_rfl) (by kernel_rfl) (fun _ _ _ h => h) (Or.inl ⟨by rfl, ?_⟩) hHeld ?_
                  rotate_left
                  · intro w' hSw
                    (try dsimp only at hSw)
                    go_simp
                    try with_reducible rfl
                  try simp only [Act.put, List.setIfInBounds_toArray, List.set_cons_zero, List.set_cons_succ, List.getElem_toArray, List.getElem_cons_zero, List.getElem_cons_succ]
                  refine wpAnyH_ready (rs := [7]) (by kernel_rfl) (by simp) ?_
                  refine AllReadyH.cons rfl (fun K hK => ?_) ?_
                  · go_simp
                    refine hK.out _ _ ?_ (fun hHeld => ?_)
                    · exact trivial
                    clear hK K
                    try simp only [Act.put, List.setIfInBounds_toArray, List.set_cons_zero, List.set_cons_succ, List.getElem_toArray, List.getElem_cons_zero, List.getElem_cons_succ]
                    refine wpAnyH_done (by kernel_rfl) ?_ _
                    have S14 := (S13.p3.setc 5 (.slice A8 (j + 1) c8)).p2.drop
                    rw [show Is (rFates j x6).1 ++ [.int .i64 (rn (rFates j x6).2 2).1] = Is (rFates (j + 1) x6).1 from by simp [Is, rFates]] at S14
                    clear S10 S11 S13
                    go_wp2_with fail
                    go_roundw
                    case rel => exact ⟨j + 1, by omega, by go_num, A8, c8, S14⟩
                    case measure => simp [RowKit.intOf]; omega
                  exact AllReadyH.nil
                exact AllReadyH.nil
              exact AllReadyH.nil
            exact AllReadyH.nil
          refine AllReadyH.cons rfl (fun K hK => ?_) ?_
          · go_simp
            refine (s_rnum 2 (S10.p2.drew)).mono ?_
            rintro e w5 ⟨rfl, S11⟩
            have z5 := S11.p1.cell 5 _ rfl
            refine hK.out _ _ ?_ (fun hHeld => ?_)
            · exact trivial
            clear hK K
            try simp only [Act.put, List.setIfInBounds_toArray, List.set_cons_zero, List.set_cons_succ, List.getElem_toArray, List.getElem_cons_zero, List.getElem_cons_succ]
            refine wpAnyH_ready (rs := [1, 4]) (by kernel_rfl) (by simp) ?_
            refine AllReadyH.cons rfl (fun K hK => ?_) ?_
            · go_simp
              refine hK.out _ _ ?_ (fun hHeld => ?_)
              · exact trivial
              clear hK K
              try simp only [Act.put, List.setIfInBounds_toArray, List.set_cons_zero, List.set_cons_succ, List.getElem_toArray, List.getElem_cons_zero, List.getElem_cons_succ]
              refine wpAnyH_ready (rs := [4]) (by kernel_rfl) (by simp) ?_
              refine AllReadyH.cons rfl (fun K hK => ?_) ?_
              · go_simp
                have u5 := (S11.box #[.int .i64 (rn (rFates j x6).2 2).1] 116 rfl).p2.cell 5 _ rfl
                refine hK.out _ _ ?_ (fun hHeld => ?_)
                · exact trivial
                clear hK K
                try simp only [Act.put, List.setIfInBounds_toArray, List.set_cons_zero, List.set_cons_succ, List.getElem_toArray, List.getElem_cons_zero, List.getElem_cons_succ]
                refine wpAnyH_ready (rs := [5]) (by kernel_rfl) (by simp) ?_
                refine AllReadyH.cons rfl (fun K hK => ?_) ?_
                · refine step_app slF rfl (.tmp 29) (.tmp 32) rfl (g := w) (S := (S11.box #[.int .i64 (rn (rFates j x6).2 2).1] 116 rfl).p3) (by go_simp) (c := 1) (Src.block (heap_alloc_new _ _) 1 1 rfl) (by go_simp) (by simp [Value.oneCell']) (by unfold maxLen; omega) (by omega) ?_
                  intro A8 c8 w8 S13
                  have k0 := S13.p3.cell 5 _ rfl
                  have k1 := S13.p3.cells_fz 5
                  refine hK.out _ _ ?_ (fun hHeld => ?_)
                  · exact trivial
                  clear hK K
                  try simp only [Act.put, List.setIfInBounds_toArray, List.set_cons_zero, List.set_cons_succ, List.getElem_toArray, List.getElem_cons_zero, List.getElem_cons_succ]
                  refine wpAnyH_take (i := 6) (oi := _) (v := ?_) rfl (by kernel_rfl) (by kernel_rfl) (by kernel_rfl) (fun _ _ _ h => h) (Or.inl ⟨by rfl, ?_⟩) hHeld ?_
                  rotate_left
                  · intro w' hSw
                    (try dsimp only at hSw)
                    go_simp
                    try with_reducible rfl
                  try simp only [Act.put, List.setIfInBounds_toArray, List.set_cons_zero, List.set_cons_succ, List.getElem_toArray, List.getElem_cons_zero, List.getElem_cons_succ]
                  refine wpAnyH_ready (rs := [7]) (by kernel_rfl) (by simp) ?_
                  refine AllReadyH.cons rfl (fun K hK => ?_) ?_
                  · go_simp
                    refine hK.out _ _ ?_ (fun hHeld => ?_)
                    · exact trivial
                    clear hK K
                    try simp only [Act.put, List.setIfInBounds_toArray, List.set_cons_zero, List.set_cons_succ, List.getElem_toArray, List.getElem_cons_zero, List.getElem_cons_succ]
                    refine wpAnyH_done (by kernel_rfl) ?_ _
                    have S14 := (S13.p3.setc 5 (.slice A8 (j + 1) c8)).p2.drop
                    rw [show Is (rFates j x6).1 ++ [.int .i64 (rn (rFates j x6).2 2).1] = Is (rFates (j + 1) x6).1 from by simp [Is, rFates]] at S14
                    clear S10 S11 S13
                    go_wp2_with fail
                    go_roundw
                    case rel => exact ⟨j + 1, by omega, by go_num, A8, c8, S14⟩
                    case measure => simp [RowKit.intOf]; omega
                  exact AllReadyH.nil
                exact AllReadyH.nil
              exact AllReadyH.nil
            refine AllReadyH.cons rfl (fun K hK => ?_) ?_
            · go_simp
              have u5 := (S11.box #[.int .i64 (rn (rFates j x6).2 2).1] 116 rfl).p2.cell 5 _ rfl
              refine hK.out _ _ ?_ (fun hHeld => ?_)
              · exact trivial
              clear hK K
              try simp only [Act.put, List.setIfInBounds_toArray, List.set_cons_zero, List.set_cons_succ, List.getElem_toArray, List.getElem_cons_zero, List.getElem_cons_succ]
              refine wpAnyH_ready (rs := [1]) (by kernel_rfl) (by simp) ?_
              refine AllReadyH.cons rfl (fun K hK => ?_) ?_
              · go_simp
                refine hK.out _ _ ?_ (fun hHeld => ?_)
                · exact trivial
                clear hK K
                try simp only [Act.put, List.setIfInBounds_toArray, List.set_cons_zero, List.set_cons_succ, List.getElem_toArray, List.getElem_cons_zero, List.getElem_cons_succ]
                refine wpAnyH_ready (rs := [5]) (by kernel_rfl) (by simp) ?_
                refine AllReadyH.cons rfl (fun K hK => ?_) ?_
                · refine step_app slF rfl (.tmp 29) (.tmp 32) rfl (g := w) (S := (S11.box #[.int .i64 (rn (rFates j x6).2 2).1] 116 rfl).p3) (by go_simp) (c := 1) (Src.block (heap_alloc_new _ _) 1 1 rfl) (by go_simp) (by simp [Value.oneCell']) (by unfold maxLen; omega) (by omega) ?_
                  intro A8 c8 w8 S13
                  have k0 := S13.p3.cell 5 _ rfl
                  have k1 := S13.p3.cells_fz 5
                  refine hK.out _ _ ?_ (fun hHeld => ?_)
                  · exact trivial
                  clear hK K
                  try simp only [Act.put, List.setIfInBounds_toArray, List.set_cons_zero, List.set_cons_succ, List.getElem_toArray, List.getElem_cons_zero, List.getElem_cons_succ]
                  refine wpAnyH_take (i := 6) (oi := _) (v := ?_) rfl (by kernel_rfl) (by kernel_rfl) (by kernel_rfl) (fun _ _ _ h => h) (Or.inl ⟨by rfl, ?_⟩) hHeld ?_
                  rotate_left
                  · intro w' hSw
                    (try dsimp only at hSw)
                    go_simp
                    try with_reducible rfl
                  try simp only [Act.put, List.setIfInBounds_toArray, List.set_cons_zero, List.set_cons_succ, List.getElem_toArray, List.getElem_cons_zero, List.getElem_cons_succ]
                  refine wpAnyH_ready (rs := [7]) (by kernel_rfl) (by simp) ?_
                  refine AllReadyH.cons rfl (fun K hK => ?_) ?_
                  · go_simp
                    refine hK.out _ _ ?_ (fun hHeld => ?_)
                    · exact trivial
                    clear hK K
                    try simp only [Act.put, List.setIfInBounds_toArray, List.set_cons_zero, List.set_cons_succ, List.getElem_toArray, List.getElem_cons_zero, List.getElem_cons_succ]
                    refine wpAnyH_done (by kernel_rfl) ?_ _
                    have S14 := (S13.p3.setc 5 (.slice A8 (j + 1) c8)).p2.drop
                    rw [show Is (rFates j x6).1 ++ [.int .i64 (rn (rFates j x6).2 2).1] = Is (rFates (j + 1) x6).1 from by simp [Is, rFates]] at S14
                    clear S10 S11 S13
                    go_wp2_with fail
                    go_roundw
                    case rel => exact ⟨j + 1, by omega, by go_num, A8, c8, S14⟩
                    case measure => simp [RowKit.intOf]; omega
                  exact AllReadyH.nil
                exact AllReadyH.nil
              exact AllReadyH.nil
            exact AllReadyH.nil
          exact AllReadyH.nil
        · obtain rfl : j = n6 := by omega
          obtain ⟨fs, hfs⟩ : ∃ fs, (rFates j x6).1 = fs := ⟨_, rfl⟩
          obtain ⟨⟨yl, yb⟩, hy⟩ : ∃ y, (rFates j x6).2 = y := ⟨_, rfl⟩
          have hl : fs.length = j := by rw [← hfs, rFates_length]
          have hst2 : rStep (rSt k X).2 = (⟨a1, a2, a3, a4, a5, fs⟩, (yl, yb)) := by rw [HST.out, hfs, hy]
          have HST2 := hide hst2
          rw [hfs, hy] at S10
          clear hst2 hfs hy HST
          subst hl
          go_wp2_with fail
          refine (s_rok S10.p2).mono ?_
          rintro e w10 ⟨rfl, S11⟩
          clear S10
          cases yb
          · have u0 := S11.p1.cell 0 _ rfl
            have u1 := S11.p1.cell 1 _ rfl
            have u2 := S11.p1.cell 2 _ rfl
            have u3 := S11.p1.cell 3 _ rfl
            have u4 := S11.p1.cell 4 _ rfl
            have u5 := S11.p1.cell 5 _ rfl
            go_wp2_with fail
            refine (right_step w10 ⟨a1, a2, a3, a4, a5, fs⟩ B cb (S11.p2.srcR) (by simp only; omega) (by simp only; omega)).mono ?_
            rintro e w11 ⟨rfl, hk11⟩
            have S12 := S11.keep hk11
            clear hk11 S11 u0 u1 u2 u3 u4 u5
            cases hr : stepR ⟨a1, a2, a3, a4, a5, fs⟩
            · have HR := hide hr
              clear hr
              go_wp2_with fail
              go_ret2
              obtain ⟨e1, e2⟩ := HNX.out
              refine .inl ⟨rfl, .inl ⟨k, by rw [e1]; exact hlt, .inr ?_⟩, (S12.p5).keeps⟩
              rw [e2, HST2.out]
              exact HR.out
            · have HR := hide hr
              clear hr
              have u0 := S12.p1.cell 0 _ rfl
              have u1 := S12.p1.cell 1 _ rfl
              have u2 := S12.p1.cell 2 _ rfl
              have u3 := S12.p1.cell 3 _ rfl
              have u4 := S12.p1.cell 4 _ rfl
              have u5 := S12.p1.cell 5 _ rfl
              go_wp2_with (at_builtin; refine wpList_sapp slSt6 rfl (.tmp 44) (.tmp 46) rfl (g := w) (S := (S12.box #[.int .i64 a1, .int .i64 a2, .int .i64 a3, .int .i64 a4, .string (Go.Proofs.YtegafdkhbgojcaaGreatDoor.S a5), .slice B fs.length cb] 33 rfl).p4) rfl (Src.block (heap_alloc_new _ _) 6 1 rfl) rfl (by simp [Value.oneCell']) (by unfold maxLen; omega) (by omega) ?_; intro A9 c9 w12 S13)
              have e9 : (rSt (k + 1) X).2 = (yl, false) := by rw [rSt, HST2.out]
              have S14 : Sat w w12 (rowA 33 6 (.slice A9 (k + 1) c9) (k + 1) ((qs ++ [((⟨a1, a2, a3, a4, a5, fs⟩, B, cb) : SQ)]).flatMap sqL) :: rdA r (rSt (k + 1) X).2 :: poolA (((⟨a1, a2, a3, a4, a5, fs⟩, B, cb) : SQ) :: ps) :: [oldA w]) := by
                rw [e9, List.flatMap_append]
                exact (Sat.join (A := fatesA ((⟨a1, a2, a3, a4, a5, fs⟩, B, cb) : SQ)) (B := poolA ps) (S13.p1.drop.p2.drop.p2.p3.p1)).b2
              have HH := hide (HAD.out.snoc (q := ((⟨a1, a2, a3, a4, a5, fs⟩, B, cb) : SQ)) (by rw [HST2.out]) HR.out)
              clear S12 S13 u0 u1 u2 u3 u4 u5
              go_wp2_with fail
              go_roundw
              case rel => exact ⟨k + 1, by omega, by go_num, A9, c9, _, _, rfl, HH, S14⟩
              case measure => simp [RowKit.intOf]; omega
          · go_wp2_with fail
            go_ret2
            obtain ⟨e1, e2⟩ := HNX.out
            refine .inl ⟨rfl, .inl ⟨k, by rw [e1]; exact hlt, .inl ?_⟩, (S11.p5).keeps⟩
            rw [e2, HST2.out]
    · obtain rfl : k = N := by omega
      go_wp2_with fail
      refine (s_rdone S4.p1).mono ?_
      rintro e w3 ⟨rfl, S5⟩
      by_cases h0 : rdone (rSt k X).2 = 0
      · rw [h0]
        go_wp2_with fail
        go_ret2
        obtain ⟨e1, e2⟩ := HNX.out
        obtain ⟨hd1, hd2, hd3⟩ := HAD.out
        have hl : qs.length = k := by
          have := congrArg List.length hd1
          rw [List.length_map, rSt_length] at this
          exact this
        refine .inr ⟨A, c, qs, by rw [hl]; rfl, ?_, ?_, ?_, (S5.p3).keeps⟩
        · unfold StYes
          rw [e1, e2]
          exact ⟨hd1, by rw [hd1]; exact hd2, h0⟩
        · rw [hl]
          exact S5.p1.srcR
        · intro q hq
          obtain ⟨m1, m2, m3⟩ := hd3 q hq
          exact ⟨pool_src S5.p2 q m1, m2, m3⟩
      · have h0' : (rdone (rSt k X).2 != 0) = true := by simpa using h0
        have HZ := hide h0
        go_wp2_with fail
        go_ret2
        obtain ⟨e1, e2⟩ := HNX.out
        refine .inl ⟨rfl, .inr ?_, (S5.p3).keeps⟩
        rw [e1, e2]
        exact HZ.out
end Go.Proofs.YtegafdkhbgojcaaGreatDoor
