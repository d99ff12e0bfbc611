/- Contracts of the package watch: Add of a book. No condition. -/
import Derived.Test.YtbfogieeiobpdaaGreatDoorBookG
import Derived.Test.YtbfogieeiobpdaaGreatDoorBins

set_option linter.unusedVariables false
set_option linter.unusedSimpArgs false
namespace Go.Proofs.YtbfogieeiobpdaaGreatDoor
open Go.RowKit

def addF (B : BookT) (x : WatT) : Int × BookT :=
  if x.session < 1 ∨ 281474976710655 < x.session then (1, B) else if checkF x.path ≠ 0 then (checkF x.path, B) else if thereF B.ws x = true then (0, B) else if 40 ≤ B.ws.length then (16, B) else
  (0, ⟨B.ws.take (lowF B.ws x) ++ [x] ++ B.ws.drop (lowF B.ws x), B.es, B.nos⟩)

set_option maxRecDepth 100000 in
set_option maxHeartbeats 8000000 in
theorem add_book {g w : World} {L : List Asn} {b : Nat} {B : BookT} (S : Sat g w (bookA b B :: L)) (hG : GL w) (x : WatT) (hx : x.path.length ≤ 140737488355328) (hp : Parts B.ws x) (hl : B.ws.length ≤ 1000) :
    Calls Tryz.prog 42 #[ptr b, watV x] w fun e w' => e = .returned (.int .i64 (addF B x).1) ∧ Sat g w' (bookA b (addF B x).2 :: L) := by
  obtain ⟨wv, S1⟩ := S.bookOpen
  obtain ⟨ws, es, nos⟩ := B
  simp only at hl hp S1
  obtain ⟨A, c, rfl, -⟩ := S1.p1.row.form
  obtain ⟨ev, m, S1⟩ := S1.notesOpen
  clear S
  have HR : Hid (∀ r : Int × BookT, addF ⟨ws, es, nos⟩ x = r → ∀ w', Sat g w' (bookA b r.2 :: L) → Ending.returned (.int .i64 r.1) = Ending.returned (.int .i64 (addF ⟨ws, es, nos⟩ x).1) ∧ Sat g w' (bookA b (addF ⟨ws, es, nos⟩ x).2 :: L)) := hide fun r h w' S' => by rw [h]; exact ⟨rfl, S'⟩
  have HF : Hid (addF ⟨ws, es, nos⟩ x = if x.session < 1 ∨ 281474976710655 < x.session then (1, ⟨ws, es, nos⟩) else if checkF x.path ≠ 0 then (checkF x.path, ⟨ws, es, nos⟩) else if thereF ws x = true then (0, ⟨ws, es, nos⟩) else if 40 ≤ ws.length then (16, ⟨ws, es, nos⟩) else
    (0, ⟨ws.take (lowF ws x) ++ [x] ++ ws.drop (lowF ws x), es, nos⟩)) := rfl
  have HBK : Hid (∀ w', Sat g w' (cellsA b 99 #[.slice A ws.length c, ev, .map (some m)] :: rowA 74 5 ev es.length (es.flatMap evC) :: mapA kW kW m nos :: rowA 96 4 (.slice A ws.length c) ws.length (ws.flatMap watC) :: L) → Sat g w' (bookA b ⟨ws, es, nos⟩ :: L)) := hide fun w' S' => Sat.bookShut (B := ⟨ws, es, nos⟩) S'.notesShut
  have HCK : Hid (∀ w', GL w' → Calls Tryz.prog 60 #[.string (Go.Proofs.YtbfogieeiobpdaaGreatDoor.S x.path)] w' fun e w2 => e = .returned (.int .i64 (checkF x.path)) ∧ Keeps (fun _ => False) w' w2) := hide fun w' h => check_path w' x.path (by omega) h
  have HBN : Hid (∀ w', Src w' 4 A ws.length (ws.flatMap watC) → Calls Tryz.prog 80 #[.slice A ws.length c, watV x, .func (.func 59) #[] #[]] w' fun e w2 =>
      e = .returned (.tuple #[.int .i64 (lowF ws x), .bool (thereF ws x)]) ∧ Keeps (fun _ => False) w' w2) := hide fun w' h => bins_watch w' A ws c x h hp (by omega)
  have HIN : Hid (∀ w' vb L', Sat g w' (cellsA vb 96 (watC x).toArray :: rowA 96 4 (.slice A ws.length c) ws.length (ws.flatMap watC) :: L') → Calls Tryz.prog 81 #[.slice A ws.length c, .int .i64 (lowF ws x), .slice (some ⟨vb, 0, none⟩) 1 1] w' fun e w2 =>
      ∃ v', e = .returned v' ∧ Sat g w2 (rowA 96 4 v' (ws.length + 1) ((ws.take (lowF ws x) ++ [x] ++ ws.drop (lowF ws x)).flatMap watC) :: L')) := hide fun w' vb L' S' => ins_watch S' _ (low_le ws x) (by omega)
  have hlo := low_le ws x
  have HLL : Hid ((ws.take (lowF ws x) ++ [x] ++ ws.drop (lowF ws x)).length = ws.length + 1) := by
    show _ = _
    simp
    omega
  generalize addF ⟨ws, es, nos⟩ x = AF at *
  generalize hws2 : ws.take (lowF ws x) ++ [x] ++ ws.drop (lowF ws x) = ws2 at *
  clear hws2
  generalize lowF ws x = lo at *
  generalize thereF ws x = th at *
  generalize checkF x.path = ck at *
  obtain ⟨y0, y1, y2, y3⟩ := x
  simp only [watC] at HF HIN HCK
  have HG := hide (hG.keep ((Keeps.refl (fun _ => False) w).alloc (.cells #[.int .i64 y0, .string (Go.Proofs.YtbfogieeiobpdaaGreatDoor.S y1), .bool y2, .bool y3] 96)) (fun h => h))
  clear hG hp
  go_enter Tryz.func42, Tryz.ntmps42
  go_upto_region 1 with fail
  have S2 := S1.box #[.int .i64 y0, .string (Go.Proofs.YtbfogieeiobpdaaGreatDoor.S y1), .bool y2, .bool y3] 96 rfl
  generalize w.alloc (.cells #[.int .i64 y0, .string (Go.Proofs.YtbfogieeiobpdaaGreatDoor.S y1), .bool y2, .bool y3] 96) = w2 at *
  generalize w.heap.size = xb at *
  have a0 := S2.cell 0 _ rfl
  have a1 := S2.cell 1 _ rfl
  have a2 := S2.cell 2 _ rfl
  have a3 := S2.cell 3 _ rfl
  clear S1
  by_cases h1 : y0 < 1
  · have e : AF = (1, ⟨ws, es, nos⟩) := by rw [HF.out, if_pos (.inl h1)]
    have HE := hide e
    clear e HF
    go_wp2_with fail
    go_ret
    exact HR.out _ HE.out _ (HBK.out _ S2.drop)
  by_cases h2 : 281474976710655 < y0
  · have e : AF = (1, ⟨ws, es, nos⟩) := by rw [HF.out, if_pos (.inr h2)]
    have HE := hide e
    clear e HF
    go_wp2_with fail
    go_ret
    exact HR.out _ HE.out _ (HBK.out _ S2.drop)
  rw [if_neg (by omega)] at HF
  have h1b : 1 ≤ y0 := by omega
  have h2b : y0 ≤ 281474976710655 := by omega
  clear h1 h2
  go_wp2_with fail
  refine (HCK.out _ HG.out).mono ?_
  rintro e w3 ⟨rfl, hk3⟩
  have S3 := S2.keep hk3
  clear S2 hk3 HG HCK a0 a1 a2 a3
  by_cases h3 : ck = 0
  case neg =>
    have h3b : (ck == 0) = false := by simpa using h3
    have e : AF = (ck, ⟨ws, es, nos⟩) := by rw [HF.out, if_pos h3]
    have HE := hide e
    clear e HF
    go_wp2_with fail
    go_ret
    exact HR.out _ HE.out _ (HBK.out _ S3.drop)
  subst h3
  rw [if_neg (by simp)] at HF
  go_upto_region 6 with fail
  have a0 := S3.cell 0 _ rfl
  have a1 := S3.cell 1 _ rfl
  have a2 := S3.cell 2 _ rfl
  have a3 := S3.cell 3 _ rfl
  have c0 := S3.p1.cell 0 _ rfl
  go_region_held3 (fun w' => w'.cell? ⟨xb, 0, none⟩ = some (.int .i64 y0) ∧ w'.cell? ⟨xb, 1, none⟩ = some (.string (Go.Proofs.YtbfogieeiobpdaaGreatDoor.S y1)) ∧ w'.cell? ⟨xb, 2, none⟩ = some (.bool y2) ∧ w'.cell? ⟨xb, 3, none⟩ = some (.bool y3) ∧ w'.cell? ⟨b, 0, none⟩ = some (.slice A ws.length c)) (go_keep) (first
    | (go_at_call 80; refine (HBN.out _ S3.drew.p4.srcR).mono ?_; rintro e w4 ⟨rfl, hk4⟩; have S4 := S3.drew.keep hk4; have d0 := S4.cell 0 _ rfl; have d1 := S4.cell 1 _ rfl; have d2 := S4.cell 2 _ rfl; have d3 := S4.cell 3 _ rfl; have d4 := S4.p1.cell 0 _ rfl; clear hk4))
  clear a0 a1 a2 a3 c0 S3 HBN
  cases th
  case true =>
    have e : AF = (0, ⟨ws, es, nos⟩) := by rw [HF.out, if_pos rfl]
    have HE := hide e
    clear e HF
    go_wp2_with fail
    go_ret
    exact HR.out _ HE.out _ (HBK.out _ S4.drop)
  rw [if_neg (by simp)] at HF
  by_cases h4 : 40 ≤ ws.length
  · have e : AF = (16, ⟨ws, es, nos⟩) := by rw [HF.out, if_pos h4]
    have HE := hide e
    clear e HF
    have h4b : (40 : Int) ≤ (ws.length : Int) := by omega
    go_wp2_with fail
    go_ret
    exact HR.out _ HE.out _ (HBK.out _ S4.drop)
  have e : AF = (0, ⟨ws2, es, nos⟩) := by rw [HF.out, if_neg h4]
  have HE := hide e
  clear e HF
  have h4b : (ws.length : Int) < 40 := by omega
  go_upto_region 11 with fail
  have q0 : w4.drew.cell? ⟨b, 0, none⟩ = some (.slice A ws.length c) := S4.drew.p1.cell 0 _ rfl
  have q1 : (w4.alloc (.cells #[.int .i64 y0, .string (Go.Proofs.YtbfogieeiobpdaaGreatDoor.S y1), .bool y2, .bool y3] 96)).drew.cell? ⟨b, 0, none⟩ = some (.slice A ws.length c) := (S4.box #[.int .i64 y0, .string (Go.Proofs.YtbfogieeiobpdaaGreatDoor.S y1), .bool y2, .bool y3] 96 rfl).drew.p2.cell 0 _ rfl
  refine wp_region_held_drew (S := fun w' => w'.cell? ⟨xb, 0, none⟩ = some (.int .i64 y0) ∧ w'.cell? ⟨xb, 1, none⟩ = some (.string (Go.Proofs.YtbfogieeiobpdaaGreatDoor.S y1)) ∧ w'.cell? ⟨xb, 2, none⟩ = some (.bool y2) ∧ w'.cell? ⟨xb, 3, none⟩ = some (.bool y3)) (by kernel_rfl) ?_ (fun hHeld => ?_)
  · exact ⟨S4.drew.cell 0 _ rfl, S4.drew.cell 1 _ rfl, S4.drew.cell 2 _ rfl, S4.drew.cell 3 _ rfl⟩
  refine wpAnyH_take (i := 0) (oi := _) (v := ?_) rfl (by kernel_rfl) (by kernel_rfl) (by kernel_rfl) (fun _ _ _ h => h) (Or.inl ⟨by rfl, ?_⟩) hHeld ?_
  rotate_left
  · intro w' hSw
    (try dsimp only at hSw)
    go_simp
    try with_reducible rfl
  try simp only [Act.put, List.setIfInBounds_toArray, List.set_cons_zero, List.set_cons_succ]
  refine wpAnyH_take (i := 1) (oi := _) (v := ?_) rfl (by kernel_rfl) (by kernel_rfl) (by kernel_rfl) (fun _ _ _ h => h) (Or.inl ⟨by rfl, ?_⟩) hHeld ?_
  rotate_left
  · intro w' hSw
    (try dsimp only at hSw)
    go_simp
    try with_reducible rfl
  try simp only [Act.put, List.setIfInBounds_toArray, List.set_cons_zero, List.set_cons_succ]
  refine wpAnyH_take (i := 2) (oi := _) (v := ?_) rfl (by kernel_rfl) (by kernel_rfl) (by kernel_rfl) (fun _ _ _ h => h) (Or.inl ⟨by rfl, ?_⟩) hHeld ?_
  rotate_left
  · intro w' hSw
    (try dsimp only at hSw)
    go_simp
    try with_reducible rfl
  try simp only [Act.put, List.setIfInBounds_toArray, List.set_cons_zero, List.set_cons_succ]
  refine wpAnyH_take (i := 3) (oi := _) (v := ?_) rfl (by kernel_rfl) (by kernel_rfl) (by kernel_rfl) (fun _ _ _ h => h) (Or.inl ⟨by rfl, ?_⟩) hHeld ?_
  rotate_left
  · intro w' hSw
    (try dsimp only at hSw)
    go_simp
    try with_reducible rfl
  try simp only [Act.put, List.setIfInBounds_toArray, List.set_cons_zero, List.set_cons_succ]
  refine wpAnyH_take (i := 5) (oi := _) (v := ?_) rfl (by kernel_rfl) (by kernel_rfl) (by kernel_rfl) (fun _ _ _ h => h) (Or.inl ⟨by rfl, ?_⟩) hHeld ?_
  rotate_left
  · intro w' hSw
    (try dsimp only at hSw)
    go_simp
    try with_reducible rfl
  try simp only [Act.put, List.setIfInBounds_toArray, List.set_cons_zero, List.set_cons_succ]
  refine wpAnyH_take (i := 6) (oi := _) (v := ?_) rfl (by kernel_rfl) (by kernel_rfl) (by kernel_rfl) (fun _ _ _ h => h) (Or.inl ⟨by rfl, ?_⟩) hHeld ?_
  rotate_left
  · intro w' hSw
    (try dsimp only at hSw)
    go_simp
    try with_reducible rfl
  try simp only [Act.put, List.setIfInBounds_toArray, List.set_cons_zero, List.set_cons_succ]
  refine wpAnyH_ready (rs := [4, 7]) (by kernel_rfl) (by simp) ?_
  refine AllReadyH.cons rfl (fun K hK => ?_) ?_
  · go_simp
    refine hK.out _ _ ?_ (fun hHeld => ?_)
    · exact ⟨S4.drew.cell 0 _ rfl, S4.drew.cell 1 _ rfl, S4.drew.cell 2 _ rfl, S4.drew.cell 3 _ rfl⟩
    clear hK K
    try simp only [Act.put, List.setIfInBounds_toArray, List.set_cons_zero, List.set_cons_succ]
    refine wpAnyH_ready (rs := [7]) (by kernel_rfl) (by simp) ?_
    refine AllReadyH.cons rfl (fun K hK => ?_) ?_
    · go_simp
      refine hK.out _ _ ?_ (fun hHeld => ?_)
      · exact ⟨(S4.box _ _ rfl).drew.p1.cell 0 _ rfl, (S4.box _ _ rfl).drew.p1.cell 1 _ rfl, (S4.box _ _ rfl).drew.p1.cell 2 _ rfl, (S4.box _ _ rfl).drew.p1.cell 3 _ rfl⟩
      clear hK K
      try simp only [Act.put, List.setIfInBounds_toArray, List.set_cons_zero, List.set_cons_succ]
      refine wpAnyH_ready (rs := [8]) (by kernel_rfl) (by simp) ?_
      refine AllReadyH.cons rfl (fun K hK => ?_) ?_
      · go_simp
        go_at_call 81
        refine (HIN.out _ _ _ ((S4.drew.box #[.int .i64 y0, .string (Go.Proofs.YtbfogieeiobpdaaGreatDoor.S y1), .bool y2, .bool y3] 96 rfl).p5.p1)).mono ?_
        rintro e w6 ⟨v', rfl, S6⟩
        obtain ⟨A6, c6, rfl, -⟩ := S6.row.form
        have z0 := S6.p2.cell 0 _ rfl
        have z1 := S6.p2.cells_fz 0
        go_wp2_with fail
        refine hK.out _ _ ?_ (fun hHeld => ?_)
        · exact ⟨S6.p1.cell 0 _ rfl, S6.p1.cell 1 _ rfl, S6.p1.cell 2 _ rfl, S6.p1.cell 3 _ rfl⟩
        clear hK K
        try simp only [Act.put, List.setIfInBounds_toArray, List.set_cons_zero, List.set_cons_succ]
        refine wpAnyH_take (i := 9) (oi := _) (v := ?_) rfl (by kernel_rfl) (by kernel_rfl) (by kernel_rfl) (fun _ _ _ h => h) (Or.inl ⟨by rfl, ?_⟩) hHeld ?_
        rotate_left
        · intro w' hSw
          (try dsimp only at hSw)
          go_simp
          try with_reducible rfl
        try simp only [Act.put, List.setIfInBounds_toArray, List.set_cons_zero, List.set_cons_succ]
        refine wpAnyH_take (i := 10) (oi := _) (v := ?_) rfl (by kernel_rfl) (by kernel_rfl) (by kernel_rfl) (fun _ _ _ h => h) (Or.inl ⟨by rfl, ?_⟩) hHeld ?_
        rotate_left
        · intro w' hSw
          (try dsimp only at hSw)
          go_simp
          try with_reducible rfl
        try simp only [Act.put, List.setIfInBounds_toArray, List.set_cons_zero, List.set_cons_succ]
        refine wpAnyH_ready (rs := [11]) (by kernel_rfl) (by simp) ?_
        refine AllReadyH.cons rfl (fun K hK => ?_) ?_
        · go_simp
          refine hK.out _ _ ?_ (fun hHeld => ?_)
          · exact ⟨((S6.p2.setc 0 _).p2).cell 0 _ rfl, ((S6.p2.setc 0 _).p2).cell 1 _ rfl, ((S6.p2.setc 0 _).p2).cell 2 _ rfl, ((S6.p2.setc 0 _).p2).cell 3 _ rfl⟩
          clear hK K
          try simp only [Act.put, List.setIfInBounds_toArray, List.set_cons_zero, List.set_cons_succ]
          refine wpAnyH_done (by kernel_rfl) ?_ _
          have S8 : Sat g _ (cellsA b 99 #[.slice A6 (ws.length + 1) c6, ev, .map (some m)] :: _) := S6.p2.setc 0 (.slice A6 (ws.length + 1) c6)
          clear z0 z1 q0 q1
          go_wp2_with fail
          go_ret
          refine HR.out _ HE.out _ ?_
          have S9 : Sat g (w6.setCell ⟨b, 0, none⟩ (.slice A6 (ws.length + 1) c6)) (cellsA b 99 #[.slice A6 (ws.length + 1) c6, ev, .map (some m)] :: rowA 74 5 ev es.length (es.flatMap evC) :: mapA kW kW m nos :: rowA 96 4 (.slice A6 (ws.length + 1) c6) ws2.length (ws2.flatMap watC) :: L) := by
            rw [HLL.out]
            exact (S8.p2.drop).p1.b3
          exact Sat.bookShut (B := ⟨ws2, es, nos⟩) S9.notesShut
        exact AllReadyH.nil
      exact AllReadyH.nil
    exact AllReadyH.nil
  refine AllReadyH.cons rfl (fun K hK => ?_) ?_
  · go_simp
    refine hK.out _ _ ?_ (fun hHeld => ?_)
    · exact ⟨(S4.box _ _ rfl).drew.p1.cell 0 _ rfl, (S4.box _ _ rfl).drew.p1.cell 1 _ rfl, (S4.box _ _ rfl).drew.p1.cell 2 _ rfl, (S4.box _ _ rfl).drew.p1.cell 3 _ rfl⟩
    clear hK K
    try simp only [Act.put, List.setIfInBounds_toArray, List.set_cons_zero, List.set_cons_succ]
    refine wpAnyH_ready (rs := [4]) (by kernel_rfl) (by simp) ?_
    refine AllReadyH.cons rfl (fun K hK => ?_) ?_
    · go_simp
      refine hK.out _ _ ?_ (fun hHeld => ?_)
      · exact ⟨(S4.box _ _ rfl).drew.p1.cell 0 _ rfl, (S4.box _ _ rfl).drew.p1.cell 1 _ rfl, (S4.box _ _ rfl).drew.p1.cell 2 _ rfl, (S4.box _ _ rfl).drew.p1.cell 3 _ rfl⟩
      clear hK K
      try simp only [Act.put, List.setIfInBounds_toArray, List.set_cons_zero, List.set_cons_succ]
      refine wpAnyH_ready (rs := [8]) (by kernel_rfl) (by simp) ?_
      refine AllReadyH.cons rfl (fun K hK => ?_) ?_
      · go_simp
        go_at_call 81
        refine (HIN.out _ _ _ ((S4.drew.box #[.int .i64 y0, .string (Go.Proofs.YtbfogieeiobpdaaGreatDoor.S y1), .bool y2, .bool y3] 96 rfl).p5.p1)).mono ?_
        rintro e w6 ⟨v', rfl, S6⟩
        obtain ⟨A6, c6, rfl, -⟩ := S6.row.form
        have z0 := S6.p2.cell 0 _ rfl
        have z1 := S6.p2.cells_fz 0
        go_wp2_with fail
        refine hK.out _ _ ?_ (fun hHeld => ?_)
        · exact ⟨S6.p1.cell 0 _ rfl, S6.p1.cell 1 _ rfl, S6.p1.cell 2 _ rfl, S6.p1.cell 3 _ rfl⟩
        clear hK K
        try simp only [Act.put, List.setIfInBounds_toArray, List.set_cons_zero, List.set_cons_succ]
        refine wpAnyH_take (i := 9) (oi := _) (v := ?_) rfl (by kernel_rfl) (by kernel_rfl) (by kernel_rfl) (fun _ _ _ h => h) (Or.inl ⟨by rfl, ?_⟩) hHeld ?_
        rotate_left
        · intro w' hSw
          (try dsimp only at hSw)
          go_simp
          try with_reducible rfl
        try simp only [Act.put, List.setIfInBounds_toArray, List.set_cons_zero, List.set_cons_succ]
        refine wpAnyH_take (i := 10) (oi := _) (v := ?_) rfl (by kernel_rfl) (by kernel_rfl) (by kernel_rfl) (fun _ _ _ h => h) (Or.inl ⟨by rfl, ?_⟩) hHeld ?_
        rotate_left
        · intro w' hSw
          (try dsimp only at hSw)
          go_simp
          try with_reducible rfl
        try simp only [Act.put, List.setIfInBounds_toArray, List.set_cons_zero, List.set_cons_succ]
        refine wpAnyH_ready (rs := [11]) (by kernel_rfl) (by simp) ?_
        refine AllReadyH.cons rfl (fun K hK => ?_) ?_
        · go_simp
          refine hK.out _ _ ?_ (fun hHeld => ?_)
          · exact ⟨((S6.p2.setc 0 _).p2).cell 0 _ rfl, ((S6.p2.setc 0 _).p2).cell 1 _ rfl, ((S6.p2.setc 0 _).p2).cell 2 _ rfl, ((S6.p2.setc 0 _).p2).cell 3 _ rfl⟩
          clear hK K
          try simp only [Act.put, List.setIfInBounds_toArray, List.set_cons_zero, List.set_cons_succ]
          refine wpAnyH_done (by kernel_rfl) ?_ _
          have S8 : Sat g _ (cellsA b 99 #[.slice A6 (ws.length + 1) c6, ev, .map (some m)] :: _) := S6.p2.setc 0 (.slice A6 (ws.length + 1) c6)
          clear z0 z1 q0 q1
          go_wp2_with fail
          go_ret
          refine HR.out _ HE.out _ ?_
          have S9 : Sat g (w6.setCell ⟨b, 0, none⟩ (.slice A6 (ws.length + 1) c6)) (cellsA b 99 #[.slice A6 (ws.length + 1) c6, ev, .map (some m)] :: rowA 74 5 ev es.length (es.flatMap evC) :: mapA kW kW m nos :: rowA 96 4 (.slice A6 (ws.length + 1) c6) ws2.length (ws2.flatMap watC) :: L) := by
            rw [HLL.out]
            exact (S8.p2.drop).p1.b3
          exact Sat.bookShut (B := ⟨ws2, es, nos⟩) S9.notesShut
        exact AllReadyH.nil
      exact AllReadyH.nil
    exact AllReadyH.nil
  exact AllReadyH.nil

end Go.Proofs.YtbfogieeiobpdaaGreatDoor
