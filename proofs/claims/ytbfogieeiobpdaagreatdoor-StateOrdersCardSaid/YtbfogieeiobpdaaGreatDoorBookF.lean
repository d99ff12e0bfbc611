/- Contracts of the package watch: the closure of Fire. No condition. -/
import Derived.Test.YtbfogieeiobpdaaGreatDoorBookE
set_option linter.unusedVariables false
set_option linter.unusedSimpArgs false
namespace Go.Proofs.YtbfogieeiobpdaaGreatDoor
open Go.RowKit

abbrev Nts := List EvT × List (Int × Int)
def noteF (s : List UInt8) (what when_ : Int) (st : Nts) (x : WatT) : Nts :=
  if (hearsF x s what).2 = true then (st.1 ++ [⟨x.session, (mget st.2 x.session).getD 0 + 1, x.path, (hearsF x s what).1, when_⟩], mput st.2 x.session ((mget st.2 x.session).getD 0 + 1)) else st
def firesP (s : List UInt8) (what : Int) (x : WatT) : Bool := (hearsF x s what).2 && x.once
def fireF (B : BookT) (s : List UInt8) (what when_ : Int) : BookT :=
  ⟨B.ws.filter fun x => !firesP s what x, (B.ws.foldl (noteF s what when_) (B.es, B.nos)).1, (B.ws.foldl (noteF s what when_) (B.es, B.nos)).2⟩

theorem look_no {g w : World} {L : List Asn} {m : Nat} {nos : List (Int × Int)} (S : Sat g w (mapA kW kW m nos :: L)) (k : Int) :
    (Instr.lookup 30 (.map (some m)) (.int .i64 k) false).run Tryz.prog w = .ok (.int .i64 ((mget nos k).getD 0)) w := by
  cases h : mget nos k with
  | none => exact S.mapOf.look_none kWT Tryz.underlying30 h (z := .int .i64 0) (by kernel_rfl) false
  | some v => exact S.mapOf.look_some kWT Tryz.underlying30 h false

set_option maxRecDepth 100000 in
set_option maxHeartbeats 4000000 in
theorem fire1_watch {g w : World} {L : List Asn} {b sb wb bb nb : Nat} {wv : Value} {es : List EvT} {nos : List (Int × Int)} {s : List UInt8} {what when_ : Int}
    (S : Sat g w (notesA b wv es nos :: cellsA sb 9 #[.string (S s)] :: cellsA wb 72 #[.int .i64 what] :: cellsA bb 25 #[ptr b] :: cellsA nb 3 #[.int .i64 when_] :: L))
    (x : WatT) (hs : s.length ≤ 140737488355328) (hl : es.length ≤ 1000000) (hno : 0 ≤ (mget nos x.session).getD 0 ∧ (mget nos x.session).getD 0 ≤ 1000000000000) :
    Calls Tryz.prog 83 #[watV x, ptr sb, ptr wb, ptr bb, ptr nb] w fun e w' => e = .returned (.bool (firesP s what x)) ∧
      Sat g w' (notesA b wv (noteF s what when_ (es, nos) x).1 (noteF s what when_ (es, nos) x).2 :: cellsA sb 9 #[.string (Go.Proofs.YtbfogieeiobpdaaGreatDoor.S s)] :: cellsA wb 72 #[.int .i64 what] :: cellsA bb 25 #[ptr b] :: cellsA nb 3 #[.int .i64 when_] :: L) := by
  obtain ⟨ev, m, S2⟩ := S.notesOpen
  obtain ⟨A, c, rfl, -⟩ := S2.p1.row.form
  clear S
  have HH : Hid (∀ w, Calls Tryz.prog 84 #[watV x, .string (Go.Proofs.YtbfogieeiobpdaaGreatDoor.S s), .int .i64 what] w fun e w' => e = .returned (.tuple #[.int .i64 (hearsF x s what).1, .bool (hearsF x s what).2]) ∧ Keeps (fun _ => False) w w') := fun w => hears_watch w x s what hs
  have HP : Hid (firesP s what x = ((hearsF x s what).2 && x.once)) := rfl
  have HN : Hid (noteF s what when_ (es, nos) x = if (hearsF x s what).2 = true then (es ++ [⟨x.session, (mget nos x.session).getD 0 + 1, x.path, (hearsF x s what).1, when_⟩], mput nos x.session ((mget nos x.session).getD 0 + 1)) else (es, nos)) := rfl
  generalize noteF s what when_ (es, nos) x = NT at *
  generalize firesP s what x = FP at *
  generalize (hearsF x s what).1 = x1 at *
  generalize (hearsF x s what).2 = x2 at *
  obtain ⟨ss, p, kd, on⟩ := x
  simp only at hno HN HP
  obtain ⟨hno0, hno1⟩ := hno
  go_enter Tryz.func83, Tryz.ntmps83
  go_upto_region 1 with fail
  have S3 := S2.box #[.int .i64 ss, .string (Go.Proofs.YtbfogieeiobpdaaGreatDoor.S p), .bool kd, .bool on] 96 rfl
  generalize w.alloc (.cells #[.int .i64 ss, .string (Go.Proofs.YtbfogieeiobpdaaGreatDoor.S p), .bool kd, .bool on] 96) = w3 at *
  generalize w.heap.size = xb at *
  have a0 := S3.cell 0 _ rfl
  have a1 := S3.cell 1 _ rfl
  have a2 := S3.cell 2 _ rfl
  have a3 := S3.cell 3 _ rfl
  have b0 := S3.p4.cell 0 _ rfl
  have b1 := S3.p5.cell 0 _ rfl
  clear S2
  go_wp2_with fail
  refine (HH.out _).mono ?_
  rintro e w4 ⟨rfl, hk4⟩
  have S4 := S3.keep hk4
  clear S3 a0 a1 a2 a3 b0 b1 HH hk4
  cases x2
  · have e1 : NT = (es, nos) := by rw [HN.out]; rfl
    have e2 : FP = false := by rw [HP.out]; rfl
    subst e1 e2
    go_wp2_with fail
    go_ret
    exact ⟨rfl, Sat.notesShut S4.drop⟩
  · have e1 : NT = (es ++ [⟨ss, (mget nos ss).getD 0 + 1, p, x1, when_⟩], mput nos ss ((mget nos ss).getD 0 + 1)) := by rw [HN.out, if_pos rfl]
    have e2 : FP = on := by rw [HP.out]; rfl
    subst e1 e2
    clear HN HP
    generalize hn0 : (mget nos ss).getD 0 = n0 at *
    have HN0 := hide hn0
    clear hn0
    go_upto_region 4 with fail
    have S5 := S4.drew
    have a0 := S4.cell 0 _ rfl
    have b0 := S4.p1.cell 2 _ rfl
    have b1 := S4.p6.cell 0 _ rfl
    have a0' := S5.cell 0 _ rfl
    have b0' := S5.p1.cell 2 _ rfl
    have b1' := S5.p6.cell 0 _ rfl
    have hlk := look_no S4.p3 ss
    have hlk' := look_no S5.p3 ss
    rw [HN0.out] at hlk hlk'
    have hw1 : IntKind.i64.wrap (n0 + 1) = n0 + 1 := IntWalk.i64_in _ ⟨by omega, by omega⟩
    obtain ⟨w6, hup, hm6, hk6⟩ := S5.p3.mapOf.update kWT Tryz.underlying30 ss (n0 + 1)
    have hup' : (Instr.mapUpdate 30 (.map (some m)) (.int .i64 ss) (.int .i64 (n0 + 1))).run Tryz.prog w4.drew = .ok () w6 := hup
    have S6 := S5.p3.mapPut hk6 hm6
    clear hup hm6 hk6 S5
    go_still_tail 8, (by kernel_rfl)
    change wpList _ _ _ _ _ w4.drew
    go_upto_region 5 with fail
    clear hlk hlk' b0 b0' b1 b1' a0 a0' hup' S4
    have S7 : Sat g w6 (cellsA b 99 #[wv, .slice A es.length c, .map (some m)] :: rowA 74 5 (.slice A es.length c) es.length (es.flatMap evC) :: mapA kW kW m (mput nos ss (n0 + 1)) :: cellsA xb 96 #[.int .i64 ss, .string (Go.Proofs.YtbfogieeiobpdaaGreatDoor.S p), .bool kd, .bool FP] :: cellsA sb 9 #[.string (Go.Proofs.YtbfogieeiobpdaaGreatDoor.S s)] :: cellsA wb 72 #[.int .i64 what] :: cellsA bb 25 #[ptr b] :: cellsA nb 3 #[.int .i64 when_] :: L) := S6.p3.p3
    have HS : Hid (∀ (w' : World) (ev' : Value), Sat g w' (cellsA b 99 #[wv, ev', .map (some m)] :: mapA kW kW m (mput nos ss (n0 + 1)) :: cellsA xb 96 #[.int .i64 ss, .string (Go.Proofs.YtbfogieeiobpdaaGreatDoor.S p), .bool kd, .bool FP] :: cellsA sb 9 #[.string (Go.Proofs.YtbfogieeiobpdaaGreatDoor.S s)] :: cellsA wb 72 #[.int .i64 what] :: cellsA bb 25 #[ptr b] :: cellsA nb 3 #[.int .i64 when_] :: L) → w'.cell? ⟨bb, 0, none⟩ = some (ptr b) ∧ w'.cell? ⟨b, 2, none⟩ = some (.map (some m)) ∧ w'.cell? ⟨xb, 0, none⟩ = some (.int .i64 ss) ∧ w'.cell? ⟨xb, 1, none⟩ = some (.string (Go.Proofs.YtbfogieeiobpdaaGreatDoor.S p)) ∧ w'.cell? ⟨nb, 0, none⟩ = some (.int .i64 when_) ∧ (Instr.lookup 30 (.map (some m)) (.int .i64 ss) false).run Tryz.prog w' = .ok (.int .i64 (n0 + 1)) w') := hide fun w' ev' S' =>
      ⟨S'.p5.cell 0 _ rfl, S'.cell 2 _ rfl, S'.p2.cell 0 _ rfl, S'.p2.cell 1 _ rfl, S'.p6.cell 0 _ rfl, by have := look_no S'.p1 ss; rwa [mget_mput, if_pos rfl] at this⟩
    obtain ⟨q1, q2, q3, q4, q5, q6⟩ := HS.out w6 _ S7.p1.drop
    have q7 : w6.cell? ⟨b, 1, none⟩ = some (.slice A es.length c) := S7.cell 1 _ rfl
    have q7d : w6.drew.cell? ⟨b, 1, none⟩ = some (.slice A es.length c) := S7.drew.cell 1 _ rfl
    have q7a : (w6.alloc (.cells #[.int .i64 ss, .int .i64 (n0 + 1), .string (Go.Proofs.YtbfogieeiobpdaaGreatDoor.S p), .int .i64 x1, .int .i64 when_] 74)).drew.cell? ⟨b, 1, none⟩ = some (.slice A es.length c) := (S7.box #[.int .i64 ss, .int .i64 (n0 + 1), .string (Go.Proofs.YtbfogieeiobpdaaGreatDoor.S p), .int .i64 x1, .int .i64 when_] 74 rfl).drew.p1.cell 1 _ rfl
    clear S6
    refine wp_region_held_drew (S := fun w' => w'.cell? ⟨bb, 0, none⟩ = some (ptr b) ∧ w'.cell? ⟨b, 2, none⟩ = some (.map (some m)) ∧ w'.cell? ⟨xb, 0, none⟩ = some (.int .i64 ss) ∧ w'.cell? ⟨xb, 1, none⟩ = some (.string (Go.Proofs.YtbfogieeiobpdaaGreatDoor.S p)) ∧ w'.cell? ⟨nb, 0, none⟩ = some (.int .i64 when_) ∧ (Instr.lookup 30 (.map (some m)) (.int .i64 ss) false).run Tryz.prog w' = .ok (.int .i64 (n0 + 1)) w') (by kernel_rfl) ?_ (fun hHeld => ?_)
    · exact HS.out _ _ ((S7.p1.drop).keep (by (repeat (first | exact Keeps.refl _ _ | refine Keeps.alloc ?_ _ | refine Keeps.drew ?_ | refine Keeps.drewN ?_ _))))
    refine wpAnyH_take (i := 0) (oi := _) (v := ?_) rfl (by kernel_rfl) (by kernel_rfl) (by kernel_rfl) (fun _ _ _ h => h) (Or.inl ⟨by rfl, ?_⟩) hHeld ?_
    rotate_left
    · intro w' hSw
      (try dsimp only at hSw)
      go_simp
      try with_reducible rfl
    try simp only [Act.put, List.setIfInBounds_toArray, List.set_cons_zero, List.set_cons_succ]
    refine wpAnyH_take (i := 1) (oi := _) (v := ?_) rfl (by kernel_rfl) (by kernel_rfl) (by kernel_rfl) (fun _ _ _ h => h) (Or.inl ⟨by rfl, ?_⟩) hHeld ?_
    rotate_left
    · intro w' hSw
      (try dsimp only at hSw)
      go_simp
      try with_reducible rfl
    try simp only [Act.put, List.setIfInBounds_toArray, List.set_cons_zero, List.set_cons_succ]
    refine wpAnyH_take (i := 2) (oi := _) (v := ?_) rfl (by kernel_rfl) (by kernel_rfl) (by kernel_rfl) (fun _ _ _ h => h) (Or.inl ⟨by rfl, ?_⟩) hHeld ?_
    rotate_left
    · intro w' hSw
      (try dsimp only at hSw)
      go_simp
      try with_reducible rfl
    try simp only [Act.put, List.setIfInBounds_toArray, List.set_cons_zero, List.set_cons_succ]
    refine wpAnyH_take (i := 3) (oi := _) (v := ?_) rfl (by kernel_rfl) (by kernel_rfl) (by kernel_rfl) (fun _ _ _ h => h) (Or.inl ⟨by rfl, ?_⟩) hHeld ?_
    rotate_left
    · intro w' hSw
      (try dsimp only at hSw)
      go_simp
      try with_reducible rfl
    try simp only [Act.put, List.setIfInBounds_toArray, List.set_cons_zero, List.set_cons_succ]
    refine wpAnyH_take (i := 5) (oi := _) (v := ?_) rfl (by kernel_rfl) (by kernel_rfl) (by kernel_rfl) (fun _ _ _ h => h) (Or.inl ⟨by rfl, ?_⟩) hHeld ?_
    rotate_left
    · intro w' hSw
      (try dsimp only at hSw)
      go_simp
      try with_reducible rfl
    try simp only [Act.put, List.setIfInBounds_toArray, List.set_cons_zero, List.set_cons_succ]
    refine wpAnyH_take (i := 6) (oi := _) (v := ?_) rfl (by kernel_rfl) (by kernel_rfl) (by kernel_rfl) (fun _ _ _ h => h) (Or.inl ⟨by rfl, ?_⟩) hHeld ?_
    rotate_left
    · intro w' hSw
      (try dsimp only at hSw)
      go_simp
      try with_reducible rfl
    try simp only [Act.put, List.setIfInBounds_toArray, List.set_cons_zero, List.set_cons_succ]
    refine wpAnyH_take (i := 7) (oi := _) (v := ?_) rfl (by kernel_rfl) (by kernel_rfl) (by kernel_rfl) (fun _ _ _ h => h) (Or.inl ⟨by rfl, ?_⟩) hHeld ?_
    rotate_left
    · intro w' hSw
      (try dsimp only at hSw)
      go_simp
      try with_reducible rfl
    try simp only [Act.put, List.setIfInBounds_toArray, List.set_cons_zero, List.set_cons_succ]
    refine wpAnyH_take (i := 8) (oi := _) (v := ?_) rfl (by kernel_rfl) (by kernel_rfl) (by kernel_rfl) (fun _ _ _ h => h) (Or.inl ⟨by rfl, ?_⟩) hHeld ?_
    rotate_left
    · intro w' hSw
      (try dsimp only at hSw)
      go_simp
      try with_reducible rfl
    try simp only [Act.put, List.setIfInBounds_toArray, List.set_cons_zero, List.set_cons_succ]
    refine wpAnyH_take (i := 9) (oi := _) (v := ?_) rfl (by kernel_rfl) (by kernel_rfl) (by kernel_rfl) (fun _ _ _ h => h) (Or.inl ⟨by rfl, ?_⟩) hHeld ?_
    rotate_left
    · intro w' hSw
      (try dsimp only at hSw)
      go_simp
      try with_reducible rfl
    try simp only [Act.put, List.setIfInBounds_toArray, List.set_cons_zero, List.set_cons_succ]
    refine wpAnyH_take (i := 10) (oi := _) (v := ?_) rfl (by kernel_rfl) (by kernel_rfl) (by kernel_rfl) (fun _ _ _ h => h) (Or.inl ⟨by rfl, ?_⟩) hHeld ?_
    rotate_left
    · intro w' hSw
      (try dsimp only at hSw)
      go_simp
      try with_reducible rfl
    try simp only [Act.put, List.setIfInBounds_toArray, List.set_cons_zero, List.set_cons_succ]
    refine wpAnyH_take (i := 11) (oi := _) (v := ?_) rfl (by kernel_rfl) (by kernel_rfl) (by kernel_rfl) (fun _ _ _ h => h) (Or.inl ⟨by rfl, ?_⟩) hHeld ?_
    rotate_left
    · intro w' hSw
      (try dsimp only at hSw)
      go_simp
      try with_reducible rfl
    try simp only [Act.put, List.setIfInBounds_toArray, List.set_cons_zero, List.set_cons_succ]
    refine wpAnyH_take (i := 12) (oi := _) (v := ?_) rfl (by kernel_rfl) (by kernel_rfl) (by kernel_rfl) (fun _ _ _ h => h) (Or.inl ⟨by rfl, ?_⟩) hHeld ?_
    rotate_left
    · intro w' hSw
      (try dsimp only at hSw)
      go_simp
      try with_reducible rfl
    try simp only [Act.put, List.setIfInBounds_toArray, List.set_cons_zero, List.set_cons_succ]
    refine wpAnyH_take (i := 13) (oi := _) (v := ?_) rfl (by kernel_rfl) (by kernel_rfl) (by kernel_rfl) (fun _ _ _ h => h) (Or.inl ⟨by rfl, ?_⟩) hHeld ?_
    rotate_left
    · intro w' hSw
      (try dsimp only at hSw)
      go_simp
      try with_reducible rfl
    try simp only [Act.put, List.setIfInBounds_toArray, List.set_cons_zero, List.set_cons_succ]
    refine wpAnyH_take (i := 14) (oi := _) (v := ?_) rfl (by kernel_rfl) (by kernel_rfl) (by kernel_rfl) (fun _ _ _ h => h) (Or.inl ⟨by rfl, ?_⟩) hHeld ?_
    rotate_left
    · intro w' hSw
      (try dsimp only at hSw)
      go_simp
      try with_reducible rfl
    try simp only [Act.put, List.setIfInBounds_toArray, List.set_cons_zero, List.set_cons_succ]
    refine wpAnyH_take (i := 15) (oi := _) (v := ?_) rfl (by kernel_rfl) (by kernel_rfl) (by kernel_rfl) (fun _ _ _ h => h) (Or.inl ⟨by rfl, ?_⟩) hHeld ?_
    rotate_left
    · intro w' hSw
      (try dsimp only at hSw)
      go_simp
      try with_reducible rfl
    try simp only [Act.put, List.setIfInBounds_toArray, List.set_cons_zero, List.set_cons_succ]
    refine wpAnyH_take (i := 16) (oi := _) (v := ?_) rfl (by kernel_rfl) (by kernel_rfl) (by kernel_rfl) (fun _ _ _ h => h) (Or.inl ⟨by rfl, ?_⟩) hHeld ?_
    rotate_left
    · intro w' hSw
      (try dsimp only at hSw)
      go_simp
      try with_reducible rfl
    try simp only [Act.put, List.setIfInBounds_toArray, List.set_cons_zero, List.set_cons_succ]
    refine wpAnyH_take (i := 17) (oi := _) (v := ?_) rfl (by kernel_rfl) (by kernel_rfl) (by kernel_rfl) (fun _ _ _ h => h) (Or.inl ⟨by rfl, ?_⟩) hHeld ?_
    rotate_left
    · intro w' hSw
      (try dsimp only at hSw)
      go_simp
      try with_reducible rfl
    try simp only [Act.put, List.setIfInBounds_toArray, List.set_cons_zero, List.set_cons_succ]
    refine wpAnyH_take (i := 18) (oi := _) (v := ?_) rfl (by kernel_rfl) (by kernel_rfl) (by kernel_rfl) (fun _ _ _ h => h) (Or.inl ⟨by rfl, ?_⟩) hHeld ?_
    rotate_left
    · intro w' hSw
      (try dsimp only at hSw)
      go_simp
      try with_reducible rfl
    try simp only [Act.put, List.setIfInBounds_toArray, List.set_cons_zero, List.set_cons_succ]
    refine wpAnyH_ready (rs := [4, 19]) (by kernel_rfl) (by simp) ?_
    refine AllReadyH.cons rfl (fun K hK => ?_) ?_
    · go_simp
      refine hK.out _ _ ?_ (fun hHeld => ?_)
      · exact HS.out _ _ ((S7.p1.drop).keep (by (repeat (first | exact Keeps.refl _ _ | refine Keeps.alloc ?_ _ | refine Keeps.drew ?_ | refine Keeps.drewN ?_ _))))
      clear hK K
      try simp only [Act.put, List.setIfInBounds_toArray, List.set_cons_zero, List.set_cons_succ]
      refine wpAnyH_ready (rs := [19]) (by kernel_rfl) (by simp) ?_
      refine AllReadyH.cons rfl (fun K hK => ?_) ?_
      · go_simp
        refine hK.out _ _ ?_ (fun hHeld => ?_)
        · exact HS.out _ _ ((S7.p1.drop).keep (by (repeat (first | exact Keeps.refl _ _ | refine Keeps.alloc ?_ _ | refine Keeps.drew ?_ | refine Keeps.drewN ?_ _))))
        clear hK K
        try simp only [Act.put, List.setIfInBounds_toArray, List.set_cons_zero, List.set_cons_succ]
        refine wpAnyH_ready (rs := [20]) (by kernel_rfl) (by simp) ?_
        refine AllReadyH.cons rfl (fun K hK => ?_) ?_
        · refine step_app slV rfl (.tmp 30) (.tmp 45) rfl (g := g) (S := (S7.drew.box #[.int .i64 ss, .int .i64 (n0 + 1), .string (Go.Proofs.YtbfogieeiobpdaaGreatDoor.S p), .int .i64 x1, .int .i64 when_] 74 rfl).p2) rfl (Src.block (heap_alloc_new _ _) 5 1 rfl) rfl (by simp [Value.oneCell']) (by unfold maxLen; omega) (by omega) ?_; intro A8 c8 w8 S8; have r7 : w8.cell? ⟨b, 1, none⟩ = some (.slice A es.length c) := S8.p2.cell 1 _ rfl; have r8 := S8.p2.cells_fz 1
          refine hK.out _ _ ?_ (fun hHeld => ?_)
          · exact HS.out _ _ (S8.drop.drop)
          clear hK K
          try simp only [Act.put, List.setIfInBounds_toArray, List.set_cons_zero, List.set_cons_succ]
          refine wpAnyH_take (i := 21) (oi := _) (v := ?_) rfl (by kernel_rfl) (by kernel_rfl) (by kernel_rfl) (fun _ _ _ h => h) (Or.inl ⟨by rfl, ?_⟩) hHeld ?_
          rotate_left
          · intro w' hSw
            (try dsimp only at hSw)
            go_simp
            try with_reducible rfl
          try simp only [Act.put, List.setIfInBounds_toArray, List.set_cons_zero, List.set_cons_succ]
          refine wpAnyH_take (i := 22) (oi := _) (v := ?_) rfl (by kernel_rfl) (by kernel_rfl) (by kernel_rfl) (fun _ _ _ h => h) (Or.inl ⟨by rfl, ?_⟩) hHeld ?_
          rotate_left
          · intro w' hSw
            (try dsimp only at hSw)
            go_simp
            try with_reducible rfl
          try simp only [Act.put, List.setIfInBounds_toArray, List.set_cons_zero, List.set_cons_succ]
          refine wpAnyH_ready (rs := [23]) (by kernel_rfl) (by simp) ?_
          refine AllReadyH.cons rfl (fun K hK => ?_) ?_
          · go_simp
            refine hK.out _ _ ?_ (fun hHeld => ?_)
            · exact HS.out _ _ ((S8.drop.drop).setc 1 _)
            clear hK K
            try simp only [Act.put, List.setIfInBounds_toArray, List.set_cons_zero, List.set_cons_succ]
            refine wpAnyH_done (by kernel_rfl) ?_ _
            have S9 := (S8.p2).setc 1 (.slice A8 (es.length + 1) c8)
            clear r7 r8 q1 q2 q3 q4 q5 q6 q7 q7d q7a HS
            generalize w8.setCell ⟨b, 1, none⟩ (.slice A8 (es.length + 1) c8) = w9 at *
            have y3 : w9.cell? ⟨xb, 3, none⟩ = some (.bool FP) := S9.p4.cell 3 _ rfl
            have S10 : Sat g w9 (cellsA b 99 #[wv, .slice A8 (es.length + 1) c8, .map (some m)] :: rowA 74 5 (.slice A8 (es.length + 1) c8) (es ++ [(⟨ss, n0 + 1, p, x1, when_⟩ : EvT)]).length ((es ++ [(⟨ss, n0 + 1, p, x1, when_⟩ : EvT)]).flatMap evC) :: mapA kW kW m (mput nos ss (n0 + 1)) :: cellsA sb 9 #[.string (Go.Proofs.YtbfogieeiobpdaaGreatDoor.S s)] :: cellsA wb 72 #[.int .i64 what] :: cellsA bb 25 #[ptr b] :: cellsA nb 3 #[.int .i64 when_] :: L) := by
              rw [List.length_append, List.length_singleton, List.flatMap_append, List.flatMap_singleton]
              exact S9.p2.drop.p3.drop
            have HS10 := hide S10.notesShut
            clear S10 S9 S8 S7
            go_wp2_with fail
            go_ret
            refine ⟨rfl, ?_⟩
            rw [HN0.out]
            exact HS10.out
          exact AllReadyH.nil
        exact AllReadyH.nil
      exact AllReadyH.nil
    refine AllReadyH.cons rfl (fun K hK => ?_) ?_
    · go_simp
      refine hK.out _ _ ?_ (fun hHeld => ?_)
      · exact HS.out _ _ ((S7.p1.drop).keep (by (repeat (first | exact Keeps.refl _ _ | refine Keeps.alloc ?_ _ | refine Keeps.drew ?_ | refine Keeps.drewN ?_ _))))
      clear hK K
      try simp only [Act.put, List.setIfInBounds_toArray, List.set_cons_zero, List.set_cons_succ]
      refine wpAnyH_ready (rs := [4]) (by kernel_rfl) (by simp) ?_
      refine AllReadyH.cons rfl (fun K hK => ?_) ?_
      · go_simp
        refine hK.out _ _ ?_ (fun hHeld => ?_)
        · exact HS.out _ _ ((S7.p1.drop).keep (by (repeat (first | exact Keeps.refl _ _ | refine Keeps.alloc ?_ _ | refine Keeps.drew ?_ | refine Keeps.drewN ?_ _))))
        clear hK K
        try simp only [Act.put, List.setIfInBounds_toArray, List.set_cons_zero, List.set_cons_succ]
        refine wpAnyH_ready (rs := [20]) (by kernel_rfl) (by simp) ?_
        refine AllReadyH.cons rfl (fun K hK => ?_) ?_
        · refine step_app slV rfl (.tmp 30) (.tmp 45) rfl (g := g) (S := (S7.drew.box #[.int .i64 ss, .int .i64 (n0 + 1), .string (Go.Proofs.YtbfogieeiobpdaaGreatDoor.S p), .int .i64 x1, .int .i64 when_] 74 rfl).p2) rfl (Src.block (heap_alloc_new _ _) 5 1 rfl) rfl (by simp [Value.oneCell']) (by unfold maxLen; omega) (by omega) ?_; intro A8 c8 w8 S8; have r7 : w8.cell? ⟨b, 1, none⟩ = some (.slice A es.length c) := S8.p2.cell 1 _ rfl; have r8 := S8.p2.cells_fz 1
          refine hK.out _ _ ?_ (fun hHeld => ?_)
          · exact HS.out _ _ (S8.drop.drop)
          clear hK K
          try simp only [Act.put, List.setIfInBounds_toArray, List.set_cons_zero, List.set_cons_succ]
          refine wpAnyH_take (i := 21) (oi := _) (v := ?_) rfl (by kernel_rfl) (by kernel_rfl) (by kernel_rfl) (fun _ _ _ h => h) (Or.inl ⟨by rfl, ?_⟩) hHeld ?_
          rotate_left
          · intro w' hSw
            (try dsimp only at hSw)
            go_simp
            try with_reducible rfl
          try simp only [Act.put, List.setIfInBounds_toArray, List.set_cons_zero, List.set_cons_succ]
          refine wpAnyH_take (i := 22) (oi := _) (v := ?_) rfl (by kernel_rfl) (by kernel_rfl) (by kernel_rfl) (fun _ _ _ h => h) (Or.inl ⟨by rfl, ?_⟩) hHeld ?_
          rotate_left
          · intro w' hSw
            (try dsimp only at hSw)
            go_simp
            try with_reducible rfl
          try simp only [Act.put, List.setIfInBounds_toArray, List.set_cons_zero, List.set_cons_succ]
          refine wpAnyH_ready (rs := [23]) (by kernel_rfl) (by simp) ?_
          refine AllReadyH.cons rfl (fun K hK => ?_) ?_
          · go_simp
            refine hK.out _ _ ?_ (fun hHeld => ?_)
            · exact HS.out _ _ ((S8.drop.drop).setc 1 _)
            clear hK K
            try simp only [Act.put, List.setIfInBounds_toArray, List.set_cons_zero, List.set_cons_succ]
            refine wpAnyH_done (by kernel_rfl) ?_ _
            have S9 := (S8.p2).setc 1 (.slice A8 (es.length + 1) c8)
            clear r7 r8 q1 q2 q3 q4 q5 q6 q7 q7d q7a HS
            generalize w8.setCell ⟨b, 1, none⟩ (.slice A8 (es.length + 1) c8) = w9 at *
            have y3 : w9.cell? ⟨xb, 3, none⟩ = some (.bool FP) := S9.p4.cell 3 _ rfl
            have S10 : Sat g w9 (cellsA b 99 #[wv, .slice A8 (es.length + 1) c8, .map (some m)] :: rowA 74 5 (.slice A8 (es.length + 1) c8) (es ++ [(⟨ss, n0 + 1, p, x1, when_⟩ : EvT)]).length ((es ++ [(⟨ss, n0 + 1, p, x1, when_⟩ : EvT)]).flatMap evC) :: mapA kW kW m (mput nos ss (n0 + 1)) :: cellsA sb 9 #[.string (Go.Proofs.YtbfogieeiobpdaaGreatDoor.S s)] :: cellsA wb 72 #[.int .i64 what] :: cellsA bb 25 #[ptr b] :: cellsA nb 3 #[.int .i64 when_] :: L) := by
              rw [List.length_append, List.length_singleton, List.flatMap_append, List.flatMap_singleton]
              exact S9.p2.drop.p3.drop
            have HS10 := hide S10.notesShut
            clear S10 S9 S8 S7
            go_wp2_with fail
            go_ret
            refine ⟨rfl, ?_⟩
            rw [HN0.out]
            exact HS10.out
          exact AllReadyH.nil
        exact AllReadyH.nil
      exact AllReadyH.nil
    exact AllReadyH.nil

end Go.Proofs.YtbfogieeiobpdaaGreatDoor
