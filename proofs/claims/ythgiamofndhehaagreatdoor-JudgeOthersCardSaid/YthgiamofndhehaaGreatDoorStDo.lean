/- What a session asks for, walked. No condition. -/
import Derived.Test.YthgiamofndhehaaGreatDoorStUpd
set_option linter.unusedVariables false
set_option linter.unusedSimpArgs false
namespace Go.Proofs.YthgiamofndhehaaGreatDoor
open Go.RowKit

set_option maxRecDepth 100000 in
set_option maxHeartbeats 16000000 in
theorem do_state {g w : World} {L : List Asn} {b : Nat} {s : StT} {M : TreeT} {n : Nat} {cm : CmdT} {A0 : Option Addr} {c0 : Nat} (S0 : Sat g w (stateA b s :: rowA 103 6 (.slice A0 cm.ops.length c0) cm.ops.length (cm.ops.flatMap opC) :: L)) (hG : GL g) (hm : oldA g ∈ L)
    (hi : InvS s M n) (hn0 : n ≤ 90 ∨ (n ≤ 900 ∧ TabE g)) (hc : cmdR cm = true) (when_ : Int) (hw : 0 ≤ when_ ∧ when_ ≤ 1000) :
    Calls Tryz.prog 92 #[ptr b, cmdV cm A0 c0, .int .i64 when_] w fun e w' => ∃ A c, e = .returned (resV (doF s cm when_).1 A c) ∧ Sat g w' (rowA 129 2 (.slice A (doF s cm when_).1.outs.length c) (doF s cm when_).1.outs.length ((doF s cm when_).1.outs.flatMap outC) :: stateA b (doF s cm when_).2 :: rowA 103 6 (.slice A0 cm.ops.length c0) cm.ops.length (cm.ops.flatMap opC) :: L) := by
  have HR : Hid (∀ r s2, doF s cm when_ = (r, s2) → ∀ w' A c, Sat g w' (rowA 129 2 (.slice A r.outs.length c) r.outs.length (r.outs.flatMap outC) :: stateA b s2 :: rowA 103 6 (.slice A0 cm.ops.length c0) cm.ops.length (cm.ops.flatMap opC) :: L) → ∃ A' c', Ending.returned (resV r A c) = .returned (resV (doF s cm when_).1 A' c') ∧ Sat g w' (rowA 129 2 (.slice A' (doF s cm when_).1.outs.length c') (doF s cm when_).1.outs.length ((doF s cm when_).1.outs.flatMap outC) :: stateA b (doF s cm when_).2 :: rowA 103 6 (.slice A0 cm.ops.length c0) cm.ops.length (cm.ops.flatMap opC) :: L)) := hide fun r s2 e w' A c S' => by rw [e]; exact ⟨A, c, rfl, S'⟩
  have HG0 := hide hG
  have hn : n ≤ 900 := by rcases hn0 with h | h <;> omega
  have HN0 := hide hn0
  clear hn0
  have HI := hide hi
  have HC := hide hc
  obtain ⟨k0, k5, hss, hrq, h4, hok, hpa⟩ := cmdR_at hc
  obtain ⟨kd, ss, rq, nt, ops, pa, ki, oc⟩ := cm
  simp only at S0 k0 k5 hss hrq h4 hok hpa HC HR
  have S2 := (S0.box #[.int .i64 kd, .int .i64 ss, .int .i64 rq, .int .i64 nt, .slice A0 ops.length c0, .string (S pa), .bool ki, .bool oc] 61 rfl).box #[.int .i64 0, .int .i64 0, .slice none 0 0, .int .i64 0] 52 (b := w.heap.size + 1) (by simp)
  go_enter Tryz.func92, Tryz.ntmps92
  go_upto_region 1 with fail
  generalize (w.alloc (.cells #[.int .i64 kd, .int .i64 ss, .int .i64 rq, .int .i64 nt, .slice A0 ops.length c0, .string (S pa), .bool ki, .bool oc] 61)).alloc (.cells #[.int .i64 0, .int .i64 0, .slice none 0 0, .int .i64 0] 52) = w1 at *
  generalize w.heap.size + 1 = zb at *
  generalize w.heap.size = cb at *
  by_cases h3 : kd = 3
  · subst h3
    have S3 : Sat g w1 (stateA b s :: rowA 103 6 (.slice A0 ops.length c0) ops.length (ops.flatMap opC) :: cellsA zb 52 #[.int .i64 0, .int .i64 0, .slice none 0 0, .int .i64 0] :: cellsA cb 61 #[.int .i64 3, .int .i64 ss, .int .i64 rq, .int .i64 nt, .slice A0 ops.length c0, .string (S pa), .bool ki, .bool oc] :: L) := ((S2.bring 3).bring 3)
    have hup := update_state (cm := ⟨3, ss, rq, nt, ops, pa, ki, oc⟩) S3 HG0.out (by simp [hm]) HI.out HN0.out hok h4 hss when_ hw
    have HE : Hid (doF s ⟨3, ss, rq, nt, ops, pa, ki, oc⟩ when_ = ((updateF s ⟨3, ss, rq, nt, ops, pa, ki, oc⟩ when_).1, (updateF s ⟨3, ss, rq, nt, ops, pa, ki, oc⟩ when_).2)) := hide (by unfold doF; rw [if_pos rfl])
    generalize updateF s ⟨3, ss, rq, nt, ops, pa, ki, oc⟩ when_ = U at *
    obtain ⟨⟨u1, u2, u3, u4⟩, s2⟩ := U
    simp only at hup HE
    have HUP := hide hup
    clear hup
    have x0 := Sat.cell_of S3 (t := 61) (cs := #[.int .i64 3, .int .i64 ss, .int .i64 rq, .int .i64 nt, .slice A0 ops.length c0, .string (S pa), .bool ki, .bool oc]) (b := cb) (by simp) 0 _ rfl
    have x1 := Sat.cell_of S3 (t := 61) (cs := #[.int .i64 3, .int .i64 ss, .int .i64 rq, .int .i64 nt, .slice A0 ops.length c0, .string (S pa), .bool ki, .bool oc]) (b := cb) (by simp) 1 _ rfl
    have x2 := Sat.cell_of S3 (t := 61) (cs := #[.int .i64 3, .int .i64 ss, .int .i64 rq, .int .i64 nt, .slice A0 ops.length c0, .string (S pa), .bool ki, .bool oc]) (b := cb) (by simp) 2 _ rfl
    have x3 := Sat.cell_of S3 (t := 61) (cs := #[.int .i64 3, .int .i64 ss, .int .i64 rq, .int .i64 nt, .slice A0 ops.length c0, .string (S pa), .bool ki, .bool oc]) (b := cb) (by simp) 3 _ rfl
    have x4 := Sat.cell_of S3 (t := 61) (cs := #[.int .i64 3, .int .i64 ss, .int .i64 rq, .int .i64 nt, .slice A0 ops.length c0, .string (S pa), .bool ki, .bool oc]) (b := cb) (by simp) 4 _ rfl
    have x5 := Sat.cell_of S3 (t := 61) (cs := #[.int .i64 3, .int .i64 ss, .int .i64 rq, .int .i64 nt, .slice A0 ops.length c0, .string (S pa), .bool ki, .bool oc]) (b := cb) (by simp) 5 _ rfl
    have x6 := Sat.cell_of S3 (t := 61) (cs := #[.int .i64 3, .int .i64 ss, .int .i64 rq, .int .i64 nt, .slice A0 ops.length c0, .string (S pa), .bool ki, .bool oc]) (b := cb) (by simp) 6 _ rfl
    have x7 := Sat.cell_of S3 (t := 61) (cs := #[.int .i64 3, .int .i64 ss, .int .i64 rq, .int .i64 nt, .slice A0 ops.length c0, .string (S pa), .bool ki, .bool oc]) (b := cb) (by simp) 7 _ rfl
    clear S2
    go_wp2_with fail
    refine HUP.out.mono ?_
    rintro e w2 ⟨A, c, rfl, S4⟩
    clear S3 x0 x1 x2 x3 x4 x5 x6 x7
    go_wp2_with ((show Go.wpList _ _ _ (Oper.mk none (Op.store _ _ _) _ _ _ _ :: _) _ _); refine wpList_sstore rfl _ (.tmp 6) (.tmp 14) rfl (S4.bring 3) _ rfl rfl (by kernel_rfl) rfl (by simp [Value.oneCell']) ?_; intro S5)
    refine bodyPost_ret (results_cell_row Tryz.results92 _ _ zb _ _ _ _ rfl S5.cells_get Tryz.underlying52 rfl (by kernel_rfl)) rfl ?_
    exact HR.out ⟨u1, u2, u3, u4⟩ s2 HE.out _ A c ((S5.drop.bring 3).drop)
  · by_cases h4k : kd = 4
    · subst h4k
      obtain ⟨t, ts, bk, S3'⟩ := ((S2.bring 2)).stateOpen
      have S3 : Sat g w1 (cellsA zb 52 #[.int .i64 0, .int .i64 0, .slice none 0 0, .int .i64 0] :: cellsA cb 61 #[.int .i64 4, .int .i64 ss, .int .i64 rq, .int .i64 nt, .slice A0 ops.length c0, .string (S pa), .bool ki, .bool oc] :: cellsA b 47 #[ptr t, ptr ts, ptr bk, .int .i64 s.at_] :: treeA t s.tree :: tblA ts s.tab :: bookA bk s.book :: rowA 103 6 (.slice A0 ops.length c0) ops.length (ops.flatMap opC) :: L) := ((S3'.bring 5).bring 5)
      have HADD : Hid (∀ (w' : World) (L' : List Asn), Sat g w' (bookA bk s.book :: L') → oldA g ∈ L' → Calls Tryz.prog 130 #[ptr bk, watV ⟨ss, pa, ki, oc⟩] w' fun e w2 => e = .returned (.int .i64 (addF s.book ⟨ss, pa, ki, oc⟩).1) ∧ Sat g w2 (bookA bk (addF s.book ⟨ss, pa, ki, oc⟩).2 :: L')) := hide fun w' L' S' h => add_book S' (HG0.out.at S' (by simp [h])) ⟨ss, pa, ki, oc⟩ (by simp only; omega) (HI.out.book.sorted.parts _) (by have := HI.out.book.ws; omega)
      have HE : Hid (doF s ⟨4, ss, rq, nt, ops, pa, ki, oc⟩ when_ = (⟨(addF s.book ⟨ss, pa, ki, oc⟩).1, 0, [], when_⟩, ⟨s.tree, s.tab, (addF s.book ⟨ss, pa, ki, oc⟩).2, s.at_⟩)) := hide (by unfold doF; rw [if_neg h3, if_pos rfl])
      generalize addF s.book ⟨ss, pa, ki, oc⟩ = AD at *
      obtain ⟨a1, a2⟩ := AD
      simp only at HADD HE
      have HX : Hid (∀ (w' : World) (L' : List Asn), Sat g w' L' → cellsA b 47 #[ptr t, ptr ts, ptr bk, .int .i64 s.at_] ∈ L' → cellsA cb 61 #[.int .i64 4, .int .i64 ss, .int .i64 rq, .int .i64 nt, .slice A0 ops.length c0, .string (S pa), .bool ki, .bool oc] ∈ L' →  w'.cell? ⟨b, 2, none⟩ = some (ptr bk) ∧ w'.cell? ⟨cb, 1, none⟩ = some (.int .i64 ss) ∧ w'.cell? ⟨cb, 5, none⟩ = some (.string (S pa)) ∧ w'.cell? ⟨cb, 6, none⟩ = some (.bool ki) ∧ w'.cell? ⟨cb, 7, none⟩ = some (.bool oc)) := hide fun w' L' S' h1 h2 => ⟨S'.cell_of h1 2 _ rfl, S'.cell_of h2 1 _ rfl, S'.cell_of h2 5 _ rfl, S'.cell_of h2 6 _ rfl, S'.cell_of h2 7 _ rfl⟩
      have x0 := S3.p1.cell 0 _ rfl
      clear S2 S3'
      go_upto_region 5 with fail
      refine wp_region_held_drew (S := (fun w' => w'.cell? ⟨b, 2, none⟩ = some (ptr bk) ∧ w'.cell? ⟨cb, 1, none⟩ = some (.int .i64 ss) ∧ w'.cell? ⟨cb, 5, none⟩ = some (.string (S pa)) ∧ w'.cell? ⟨cb, 6, none⟩ = some (.bool ki) ∧ w'.cell? ⟨cb, 7, none⟩ = some (.bool oc))) (by kernel_rfl) ?_ (fun hHeld => ?_)
      · exact HX.out _ _ S3.drew (by simp) (by simp)
      refine wpAnyH_take (i := 0) (oi := _) (v := ?_) rfl (by kernel_rfl) (by kernel_rfl) (by kernel_rfl) (fun _ _ _ h => h) (Or.inl ⟨by rfl, ?_⟩) hHeld ?_
      rotate_left
      · intro w' hSw
        (try dsimp only at hSw)
        go_simp
        try with_reducible rfl
      try simp only [Act.put, List.setIfInBounds_toArray, List.set_cons_zero, List.set_cons_succ, List.getElem_toArray, List.getElem_cons_zero, List.getElem_cons_succ]
      refine wpAnyH_take (i := 1) (oi := _) (v := ?_) rfl (by kernel_rfl) (by kernel_rfl) (by kernel_rfl) (fun _ _ _ h => h) (Or.inl ⟨by rfl, ?_⟩) hHeld ?_
      rotate_left
      · intro w' hSw
        (try dsimp only at hSw)
        go_simp
        try with_reducible rfl
      try simp only [Act.put, List.setIfInBounds_toArray, List.set_cons_zero, List.set_cons_succ, List.getElem_toArray, List.getElem_cons_zero, List.getElem_cons_succ]
      refine wpAnyH_take (i := 2) (oi := _) (v := ?_) rfl (by kernel_rfl) (by kernel_rfl) (by kernel_rfl) (fun _ _ _ h => h) (Or.inl ⟨by rfl, ?_⟩) hHeld ?_
      rotate_left
      · intro w' hSw
        (try dsimp only at hSw)
        go_simp
        try with_reducible rfl
      try simp only [Act.put, List.setIfInBounds_toArray, List.set_cons_zero, List.set_cons_succ, List.getElem_toArray, List.getElem_cons_zero, List.getElem_cons_succ]
      refine wpAnyH_take (i := 3) (oi := _) (v := ?_) rfl (by kernel_rfl) (by kernel_rfl) (by kernel_rfl) (fun _ _ _ h => h) (Or.inl ⟨by rfl, ?_⟩) hHeld ?_
      rotate_left
      · intro w' hSw
        (try dsimp only at hSw)
        go_simp
        try with_reducible rfl
      try simp only [Act.put, List.setIfInBounds_toArray, List.set_cons_zero, List.set_cons_succ, List.getElem_toArray, List.getElem_cons_zero, List.getElem_cons_succ]
      refine wpAnyH_take (i := 4) (oi := _) (v := ?_) rfl (by kernel_rfl) (by kernel_rfl) (by kernel_rfl) (fun _ _ _ h => h) (Or.inl ⟨by rfl, ?_⟩) hHeld ?_
      rotate_left
      · intro w' hSw
        (try dsimp only at hSw)
        go_simp
        try with_reducible rfl
      try simp only [Act.put, List.setIfInBounds_toArray, List.set_cons_zero, List.set_cons_succ, List.getElem_toArray, List.getElem_cons_zero, List.getElem_cons_succ]
      refine wpAnyH_take (i := 5) (oi := _) (v := ?_) rfl (by kernel_rfl) (by kernel_rfl) (by kernel_rfl) (fun _ _ _ h => h) (Or.inl ⟨by rfl, ?_⟩) hHeld ?_
      rotate_left
      · intro w' hSw
        (try dsimp only at hSw)
        go_simp
        try with_reducible rfl
      try simp only [Act.put, List.setIfInBounds_toArray, List.set_cons_zero, List.set_cons_succ, List.getElem_toArray, List.getElem_cons_zero, List.getElem_cons_succ]
      refine wpAnyH_take (i := 6) (oi := _) (v := ?_) rfl (by kernel_rfl) (by kernel_rfl) (by kernel_rfl) (fun _ _ _ h => h) (Or.inl ⟨by rfl, ?_⟩) hHeld ?_
      rotate_left
      · intro w' hSw
        (try dsimp only at hSw)
        go_simp
        try with_reducible rfl
      try simp only [Act.put, List.setIfInBounds_toArray, List.set_cons_zero, List.set_cons_succ, List.getElem_toArray, List.getElem_cons_zero, List.getElem_cons_succ]
      refine wpAnyH_take (i := 7) (oi := _) (v := ?_) rfl (by kernel_rfl) (by kernel_rfl) (by kernel_rfl) (fun _ _ _ h => h) (Or.inl ⟨by rfl, ?_⟩) hHeld ?_
      rotate_left
      · intro w' hSw
        (try dsimp only at hSw)
        go_simp
        try with_reducible rfl
      try simp only [Act.put, List.setIfInBounds_toArray, List.set_cons_zero, List.set_cons_succ, List.getElem_toArray, List.getElem_cons_zero, List.getElem_cons_succ]
      refine wpAnyH_take (i := 8) (oi := _) (v := ?_) rfl (by kernel_rfl) (by kernel_rfl) (by kernel_rfl) (fun _ _ _ h => h) (Or.inl ⟨by rfl, ?_⟩) hHeld ?_
      rotate_left
      · intro w' hSw
        (try dsimp only at hSw)
        go_simp
        try with_reducible rfl
      try simp only [Act.put, List.setIfInBounds_toArray, List.set_cons_zero, List.set_cons_succ, List.getElem_toArray, List.getElem_cons_zero, List.getElem_cons_succ]
      refine wpAnyH_take (i := 9) (oi := _) (v := ?_) rfl (by kernel_rfl) (by kernel_rfl) (by kernel_rfl) (fun _ _ _ h => h) (Or.inl ⟨by rfl, ?_⟩) hHeld ?_
      rotate_left
      · intro w' hSw
        (try dsimp only at hSw)
        go_simp
        try with_reducible rfl
      try simp only [Act.put, List.setIfInBounds_toArray, List.set_cons_zero, List.set_cons_succ, List.getElem_toArray, List.getElem_cons_zero, List.getElem_cons_succ]
      refine wpAnyH_take (i := 10) (oi := _) (v := ?_) rfl (by kernel_rfl) (by kernel_rfl) (by kernel_rfl) (fun _ _ _ h => h) (Or.inl ⟨by rfl, ?_⟩) hHeld ?_
      rotate_left
      · intro w' hSw
        (try dsimp only at hSw)
        go_simp
        try with_reducible rfl
      try simp only [Act.put, List.setIfInBounds_toArray, List.set_cons_zero, List.set_cons_succ, List.getElem_toArray, List.getElem_cons_zero, List.getElem_cons_succ]
      refine wpAnyH_take (i := 11) (oi := _) (v := ?_) rfl (by kernel_rfl) (by kernel_rfl) (by kernel_rfl) (fun _ _ _ h => h) (Or.inl ⟨by rfl, ?_⟩) hHeld ?_
      rotate_left
      · intro w' hSw
        (try dsimp only at hSw)
        go_simp
        try with_reducible rfl
      try simp only [Act.put, List.setIfInBounds_toArray, List.set_cons_zero, List.set_cons_succ, List.getElem_toArray, List.getElem_cons_zero, List.getElem_cons_succ]
      refine wpAnyH_take (i := 12) (oi := _) (v := ?_) rfl (by kernel_rfl) (by kernel_rfl) (by kernel_rfl) (fun _ _ _ h => h) (Or.inl ⟨by rfl, ?_⟩) hHeld ?_
      rotate_left
      · intro w' hSw
        (try dsimp only at hSw)
        go_simp
        try with_reducible rfl
      try simp only [Act.put, List.setIfInBounds_toArray, List.set_cons_zero, List.set_cons_succ, List.getElem_toArray, List.getElem_cons_zero, List.getElem_cons_succ]
      refine wpAnyH_take (i := 14) (oi := _) (v := ?_) rfl (by kernel_rfl) (by kernel_rfl) (by kernel_rfl) (fun _ _ _ h => h) (Or.inl ⟨by rfl, ?_⟩) hHeld ?_
      rotate_left
      · intro w' hSw
        (try dsimp only at hSw)
        go_simp
        try with_reducible rfl
      try simp only [Act.put, List.setIfInBounds_toArray, List.set_cons_zero, List.set_cons_succ, List.getElem_toArray, List.getElem_cons_zero, List.getElem_cons_succ]
      refine wpAnyH_ready (rs := [13]) (by kernel_rfl) (by simp) ?_
      refine AllReadyH.cons rfl (fun K hK => ?_) ?_
      · go_simp
        go_at_call 130
        refine (HADD.out _ _ (Sat.bring (Sat.drew S3) 5) (by simp [hm])).mono ?_
        rintro e w2 ⟨rfl, S4⟩
        refine hK.out _ _ ?_ (fun hHeld => ?_)
        · exact HX.out _ _ S4 (by simp) (by simp)
        clear hK K
        try simp only [Act.put, List.setIfInBounds_toArray, List.set_cons_zero, List.set_cons_succ, List.getElem_toArray, List.getElem_cons_zero, List.getElem_cons_succ]
        refine wpAnyH_take (i := 15) (oi := _) (v := ?_) rfl (by kernel_rfl) (by kernel_rfl) (by kernel_rfl) (fun _ _ _ h => h) (Or.inl ⟨by rfl, ?_⟩) hHeld ?_
        rotate_left
        · intro w' hSw
          (try dsimp only at hSw)
          go_simp
          try with_reducible rfl
        try simp only [Act.put, List.setIfInBounds_toArray, List.set_cons_zero, List.set_cons_succ, List.getElem_toArray, List.getElem_cons_zero, List.getElem_cons_succ]
        refine wpAnyH_ready (rs := [16]) (by kernel_rfl) (by simp) ?_
        refine AllReadyH.cons rfl (fun K hK => ?_) ?_
        · refine step_sstore rfl _ (.tmp 6) (.tmp 32) rfl (g := g) (S := (Sat.bring S4 1)) _ rfl rfl (by kernel_rfl) rfl (by simp [Value.oneCell']) ?_
          intro S5
          refine hK.out _ _ ?_ (fun hHeld => ?_)
          · exact HX.out _ _ S5 (by simp) (by simp)
          clear hK K
          try simp only [Act.put, List.setIfInBounds_toArray, List.set_cons_zero, List.set_cons_succ, List.getElem_toArray, List.getElem_cons_zero, List.getElem_cons_succ]
          refine wpAnyH_done (by kernel_rfl) ?_ _
          go_wp2_with fail
          refine bodyPost_ret (results_cell_row Tryz.results92 _ _ zb _ _ _ _ rfl S5.cells_get Tryz.underlying52 rfl (by kernel_rfl)) rfl ?_
          exact HR.out ⟨a1, 0, [], when_⟩ ⟨s.tree, s.tab, a2, s.at_⟩ HE.out _ none 0 ((Sat.stateShut (s := ⟨s.tree, s.tab, a2, s.at_⟩) (((((S5.drop.bring 1).drop.bring 3).bring 3).bring 3))).nilRow _ _)
        exact AllReadyH.nil
      exact AllReadyH.nil
    · have e3 : (kd == 3) = false := by simpa using h3
      have e4 : (kd == 4) = false := by simpa using h4k
      have HE : Hid (doF s ⟨kd, ss, rq, nt, ops, pa, ki, oc⟩ when_ = (⟨0, 0, [], when_⟩, s)) := hide (by unfold doF; rw [if_neg h3, if_neg h4k])
      have x0 := S2.p1.cell 0 _ rfl
      go_wp2_with ((show Go.wpList _ _ _ (Oper.mk none (Op.store _ _ _) _ _ _ _ :: _) _ _); refine wpList_sstore rfl _ (.tmp 6) (.tmp 34) rfl S2 _ rfl rfl (by kernel_rfl) rfl (by simp [Value.oneCell']) ?_; intro S3)
      refine bodyPost_ret (results_cell_row Tryz.results92 _ _ zb _ _ _ _ rfl S3.cells_get Tryz.underlying52 rfl (by kernel_rfl)) rfl ?_
      exact HR.out _ _ HE.out _ none 0 ((S3.drop.drop).nilRow _ _)
end Go.Proofs.YthgiamofndhehaaGreatDoor
