/- One operation of an update, walked. No condition. The operations of an update, walked. No condition. What a session asks for, walked. No condition. A session's end, walked. No condition. A command, walked. No condition. An order to a state, walked. No condition. -/
import Derived.Test.YtanlobdidjednaaGreatDoorStA
import Derived.Test.YtanlobdidjednaaGreatDoorTCr
import Derived.Deep.RegionHeld3
import Derived.Test.YtanlobdidjednaaGreatDoorTCl
namespace Go.Proofs.YtanlobdidjednaaGreatDoor
section
set_option linter.unusedVariables false
set_option linter.unusedSimpArgs false
open Go.RowKit

/-- a whole struct stored into a block of one's own, as one step of a region that draws -/
theorem step_sstore {P : Program} {ops : Array Oper} {o : Oper} {a : Act} {g w : World} {L : List Asn} {K : Act → World → Prop} {Q : Exit → Act → World → Prop} {E : Prop} (hgd : o.guard = none) (ty : TypeId) (x y : Operand) (ho : o.op = .store ty x y)
    {b : Nat} {t : TypeId} {old : Array Value} (S : Sat g w (cellsA b t old :: L)) (cells : Array Value) (hx : a.eval x = .pointer (some ⟨b, 0, none⟩)) (hy : a.eval y = .agg cells)
    (hi : (P.info? ty).map (·.size) = some cells.size) (hold : old.size = cells.size) (h1 : cells.all (·.oneCell') = true)
    (h : Sat g (w.setRow b cells) (cellsA b t cells :: L) → K (a.put o.dst undef) (w.setRow b cells)) : if Region.wanted o (yielded ops a.tmps) = true then Oper.wp P o a w K Q else E := by
  have hw : Region.wanted o (yielded ops a.tmps) = true := by simp [Region.wanted, hgd]
  rw [if_pos hw]
  exact wp_store_row ty x y ho b cells hx hy t old S.cells_get hi hold h1 (h (S.setRow cells))

set_option maxRecDepth 100000 in
set_option maxHeartbeats 8000000 in
theorem one_state {g w : World} {L : List Asn} {t : Nat} {T M : TreeT} {n : Nat} (S0 : Sat g w (treeA t T :: L)) (hG : GL g) (hm : oldA g ∈ L) (hM : Mod T M n) (hn : n < 100 ∨ (n < 1000 ∧ TabE g)) (o : OpT) (h1 : 1 ≤ o.does) (h4 : o.does ≤ 4) (hp : o.path.length ≤ 1000) (hd : o.data.length ≤ 1000) (ss when_ : Int) :
    Calls Tryz.prog 94 #[ptr t, opV o, .int .i64 ss, .int .i64 when_] w fun e w' => e = .returned (.tuple #[outV (stepF T o ss when_).out, chgV (stepF T o ss when_).chg, .int .i64 (stepF T o ss when_).err]) ∧ Sat g w' (treeA t (stepF T o ss when_).tree :: L) := by
  have HGL : Hid (∀ {w : World} {L' : List Asn}, Sat g w L' → oldA g ∈ L' → GL w) := fun S h => hG.at S h
  have HG0 := hide hG
  have hn9 : n < 1000 := by rcases hn with h | h <;> omega
  have hlen := hM.len_eq
  have hmlen := hM.len
  have HP := hide hM.pathsT
  have hok : ∀ a, mget T (upF o.path).1 = some a → okN n a := fun a ha => hM.at_ (by rw [← hM.get]; exact ha)
  obtain ⟨d, p, dt, v, sr, ow⟩ := o
  simp only at h1 h4 hp hd hok
  have hv := hM.at_ver p v
  rw [← hM.atF] at hv
  have S1 := ((S0.box #[.int .i64 d, .string (S p), .string (S dt), .int .i64 v, .bool sr, .bool ow] 71 rfl).box #[.string ⟨#[]⟩, .int .i64 0] 109 (b := w.heap.size + 1) (by simp)).box #[.string ⟨#[]⟩, .int .i64 0] 163 (b := w.heap.size + 1 + 1) (by simp)
  go_enter Tryz.func94, Tryz.ntmps94
  go_upto_region 1 with fail
  generalize ((w.alloc (.cells #[.int .i64 d, .string (S p), .string (S dt), .int .i64 v, .bool sr, .bool ow] 71)).alloc (.cells #[.string ⟨#[]⟩, .int .i64 0] 109)).alloc (.cells #[.string ⟨#[]⟩, .int .i64 0] 163) = w1 at *
  have hne : ¬ (w.heap.size + 1 + 1 = w.heap.size + 1) := by omega
  have hne2 : ¬ (w.heap.size + 1 = w.heap.size + 1 + 1) := by omega
  have hne3 : ¬ (w.heap.size = w.heap.size + 1) := by omega
  have hne4 : ¬ (w.heap.size = w.heap.size + 1 + 1) := by omega
  have hne5 : ¬ (w.heap.size + 1 = w.heap.size) := by omega
  have hne6 : ¬ (w.heap.size + 1 + 1 = w.heap.size) := by omega
  generalize w.heap.size + 1 + 1 = cb at *
  generalize w.heap.size + 1 = rb at *
  generalize w.heap.size = xb at *
  have q0 := S1.p2.cell 0 _ rfl
  have q1 := S1.p2.cell 1 _ rfl
  have q2 := S1.p2.cell 2 _ rfl
  have q3 := S1.p2.cell 3 _ rfl
  have q4 := S1.p2.cell 4 _ rfl
  have q5 := S1.p2.cell 5 _ rfl
  clear S0 hG
  rcases (show d = 1 ∨ d = 2 ∨ d = 3 ∨ d = 4 by omega) with rfl | rfl | rfl | rfl
  · have hcr := create_tree2 S1.p3 (HGL.out S1 (by simp [hm])) p dt (if ow = true then ss else 0) when_ sr (by omega) (by omega) (by omega) (fun a ha => ⟨(hok a ha).2.2.2.2.1, hn.elim (fun h => .inl (by have := (hok a ha).2.2.2.2.2.1; omega)) (fun h => .inr ⟨by have := (hok a ha).2.2.2.2.2.1; omega, h.2.at S1 (by simp [hm])⟩), (hok a ha).2.2.1, by have := (hok a ha).2.2.2.1; omega⟩)
    have HE : Hid (stepF T ⟨1, p, dt, v, sr, ow⟩ ss when_ = ⟨⟨(createF T p dt (if ow = true then ss else 0) when_ sr).1, 0⟩, ((createF T p dt (if ow = true then ss else 0) when_ sr).1, 1), (createF T p dt (if ow = true then ss else 0) when_ sr).2.1, (createF T p dt (if ow = true then ss else 0) when_ sr).2.2⟩) := hide rfl
    have HCR := hide hcr
    clear hcr hok hv
    cases ow
    all_goals
      simp only [if_true, if_false, Bool.false_eq_true] at HCR HE
      generalize createF T p dt _ when_ sr = X at *
      obtain ⟨x1, x2, x3⟩ := X
      simp only at HCR HE
      go_wp2_with fail
      refine HCR.out.mono ?_
      rintro e w2 ⟨rfl, S2⟩
      have S3 := S2.p2
      clear S1 S2 q0 q1 q2 q3 q4 q5
      go_wp2_with (first | ((show Go.wpList _ _ _ (Oper.mk none (Op.store _ _ _) _ _ _ _ :: _) _ _); refine wpList_sstore rfl _ (.tmp 8) (.tmp 37) rfl S3 _ rfl rfl (by kernel_rfl) rfl (by simp [Value.oneCell']) ?_; intro S4; have S4 := S4.p2) | ((show Go.wpList _ _ _ (Oper.mk none (Op.store _ _ _) _ _ _ _ :: _) _ _); refine wpList_sstore rfl _ (.tmp 9) (.tmp 39) rfl S4 _ rfl rfl (by kernel_rfl) rfl (by simp [Value.oneCell']) ?_; intro S5))
      refine bodyPost_ret (results_rows_tmp Tryz.results94 _ _ rb cb _ _ _ _ _ _ _ _ rfl rfl S5.p1.cells_get S5.cells_get Tryz.underlying109 rfl (by kernel_rfl) Tryz.underlying163 rfl (by kernel_rfl)) rfl ?_
      rw [HE.out]
      exact ⟨rfl, (S5.drop.drop.p1.drop)⟩
  · have hse := set_tree S1.p3 (HGL.out S1 (by simp [hm])) p dt v when_ (by omega) (by omega) ⟨hv.1, by have := hv.2; omega⟩
    have HE : Hid (stepF T ⟨2, p, dt, v, sr, ow⟩ ss when_ = ⟨⟨p, (setF T p dt v when_).1⟩, (p, 3), (setF T p dt v when_).2.1, (setF T p dt v when_).2.2⟩) := hide rfl
    generalize setF T p dt v when_ = X at *
    obtain ⟨x1, x2, x3⟩ := X
    simp only at hse HE
    have HSE := hide hse
    clear hse hok hv
    go_wp2_with fail
    refine HSE.out.mono ?_
    rintro e w2 ⟨rfl, S2⟩
    have S3 := S2.p2
    have q1 := Sat.cell_of S3 (t := 71) (cs := #[.int .i64 2, .string (S p), .string (S dt), .int .i64 v, .bool sr, .bool ow]) (b := xb) (by simp) 1 _ rfl
    clear S1 S2 q0 q2 q3 q4 q5
    have HX : Hid (∀ (w' : World) (L' : List Asn), Sat g w' L' → cellsA xb 71 #[.int .i64 2, .string (S p), .string (S dt), .int .i64 v, .bool sr, .bool ow] ∈ L' → w'.cell? ⟨xb, 1, none⟩ = some (.string (S p)) ∧ w'.cell? ⟨xb, 3, none⟩ = some (.int .i64 v)) := hide fun w' L' S' h => ⟨S'.cell_of h 1 _ rfl, S'.cell_of h 3 _ rfl⟩
    go_wp2_with fail
    refine wp_region_held_drew (S := (fun w' => w'.cell? ⟨xb, 1, none⟩ = some (.string (S p)) ∧ w'.cell? ⟨xb, 3, none⟩ = some (.int .i64 v))) (by kernel_rfl) ?_ (fun hHeld => ?_)
    · exact HX.out _ _ S3.drew (by simp)
    refine wpAnyH_take (i := 0) (oi := _) (v := ?_) rfl (by kernel_rfl) (by kernel_rfl) (by kernel_rfl) (fun _ _ _ h => h) (Or.inl ⟨by rfl, ?_⟩) hHeld ?_
    rotate_left
    · intro w' hSw
      (try dsimp only at hSw)
      go_simp
      try with_reducible rfl
    try simp only [Act.put, List.setIfInBounds_toArray, List.set_cons_zero, List.set_cons_succ, List.getElem_toArray, List.getElem_cons_zero, List.getElem_cons_succ]
    refine wpAnyH_take (i := 1) (oi := _) (v := ?_) rfl (by kernel_rfl) (by kernel_rfl) (by kernel_rfl) (fun _ _ _ h => h) (Or.inl ⟨by rfl, ?_⟩) hHeld ?_
    rotate_left
    · intro w' hSw
      (try dsimp only at hSw)
      go_simp
      try with_reducible rfl
    try simp only [Act.put, List.setIfInBounds_toArray, List.set_cons_zero, List.set_cons_succ, List.getElem_toArray, List.getElem_cons_zero, List.getElem_cons_succ]
    refine wpAnyH_take (i := 2) (oi := _) (v := ?_) rfl (by kernel_rfl) (by kernel_rfl) (by kernel_rfl) (fun _ _ _ h => h) (Or.inl ⟨by rfl, ?_⟩) hHeld ?_
    rotate_left
    · intro w' hSw
      (try dsimp only at hSw)
      go_simp
      try with_reducible rfl
    try simp only [Act.put, List.setIfInBounds_toArray, List.set_cons_zero, List.set_cons_succ, List.getElem_toArray, List.getElem_cons_zero, List.getElem_cons_succ]
    refine wpAnyH_take (i := 3) (oi := _) (v := ?_) rfl (by kernel_rfl) (by kernel_rfl) (by kernel_rfl) (fun _ _ _ h => h) (Or.inl ⟨by rfl, ?_⟩) hHeld ?_
    rotate_left
    · intro w' hSw
      (try dsimp only at hSw)
      go_simp
      try with_reducible rfl
    try simp only [Act.put, List.setIfInBounds_toArray, List.set_cons_zero, List.set_cons_succ, List.getElem_toArray, List.getElem_cons_zero, List.getElem_cons_succ]
    refine wpAnyH_take (i := 4) (oi := _) (v := ?_) rfl (by kernel_rfl) (by kernel_rfl) (by kernel_rfl) (fun _ _ _ h => h) (Or.inl ⟨by rfl, ?_⟩) hHeld ?_
    rotate_left
    · intro w' hSw
      (try dsimp only at hSw)
      go_simp
      try with_reducible rfl
    try simp only [Act.put, List.setIfInBounds_toArray, List.set_cons_zero, List.set_cons_succ, List.getElem_toArray, List.getElem_cons_zero, List.getElem_cons_succ]
    refine wpAnyH_take (i := 5) (oi := _) (v := ?_) rfl (by kernel_rfl) (by kernel_rfl) (by kernel_rfl) (fun _ _ _ h => h) (Or.inl ⟨by rfl, ?_⟩) hHeld ?_
    rotate_left
    · intro w' hSw
      (try dsimp only at hSw)
      go_simp
      try with_reducible rfl
    try simp only [Act.put, List.setIfInBounds_toArray, List.set_cons_zero, List.set_cons_succ, List.getElem_toArray, List.getElem_cons_zero, List.getElem_cons_succ]
    refine wpAnyH_take (i := 6) (oi := _) (v := ?_) rfl (by kernel_rfl) (by kernel_rfl) (by kernel_rfl) (fun _ _ _ h => h) (Or.inl ⟨by rfl, ?_⟩) hHeld ?_
    rotate_left
    · intro w' hSw
      (try dsimp only at hSw)
      go_simp
      try with_reducible rfl
    try simp only [Act.put, List.setIfInBounds_toArray, List.set_cons_zero, List.set_cons_succ, List.getElem_toArray, List.getElem_cons_zero, List.getElem_cons_succ]
    refine wpAnyH_take (i := 7) (oi := _) (v := ?_) rfl (by kernel_rfl) (by kernel_rfl) (by kernel_rfl) (fun _ _ _ h => h) (Or.inl ⟨by rfl, ?_⟩) hHeld ?_
    rotate_left
    · intro w' hSw
      (try dsimp only at hSw)
      go_simp
      try with_reducible rfl
    try simp only [Act.put, List.setIfInBounds_toArray, List.set_cons_zero, List.set_cons_succ, List.getElem_toArray, List.getElem_cons_zero, List.getElem_cons_succ]
    refine wpAnyH_ready (rs := [8]) (by kernel_rfl) (by simp) ?_
    refine AllReadyH.cons rfl (fun K hK => ?_) ?_
    · refine step_sstore rfl _ (.tmp 8) (.tmp 58) rfl (g := g) (S := S3.drew) _ rfl rfl (by kernel_rfl) rfl (by simp [Value.oneCell']) ?_
      intro S4
      refine hK.out _ _ ?_ (fun hHeld => ?_)
      · exact HX.out _ _ S4 (by simp)
      clear hK K
      try simp only [Act.put, List.setIfInBounds_toArray, List.set_cons_zero, List.set_cons_succ, List.getElem_toArray, List.getElem_cons_zero, List.getElem_cons_succ]
      refine wpAnyH_ready (rs := [9]) (by kernel_rfl) (by simp) ?_
      refine AllReadyH.cons rfl (fun K hK => ?_) ?_
      · refine step_sstore rfl _ (.tmp 9) (.tmp 61) rfl (g := g) (S := (Sat.p2 S4)) _ rfl rfl (by kernel_rfl) rfl (by simp [Value.oneCell']) ?_
        intro S5
        refine hK.out _ _ ?_ (fun hHeld => ?_)
        · exact HX.out _ _ S5 (by simp)
        clear hK K
        try simp only [Act.put, List.setIfInBounds_toArray, List.set_cons_zero, List.set_cons_succ, List.getElem_toArray, List.getElem_cons_zero, List.getElem_cons_succ]
        refine wpAnyH_take (i := 10) (oi := _) (v := ?_) rfl (by kernel_rfl) (by kernel_rfl) (by kernel_rfl) (fun _ _ _ h => h) (Or.inl ⟨by rfl, ?_⟩) hHeld ?_
        rotate_left
        · intro w' hSw
          (try dsimp only at hSw)
          go_simp
          try with_reducible rfl
        try simp only [Act.put, List.setIfInBounds_toArray, List.set_cons_zero, List.set_cons_succ, List.getElem_toArray, List.getElem_cons_zero, List.getElem_cons_succ]
        refine wpAnyH_done (by kernel_rfl) ?_ _
        go_wp2_with fail
        refine bodyPost_ret (results_rows_tmp Tryz.results94 _ _ rb cb _ _ _ _ _ _ _ _ rfl rfl S5.p1.cells_get S5.cells_get Tryz.underlying109 rfl (by kernel_rfl) Tryz.underlying163 rfl (by kernel_rfl)) rfl ?_
        rw [HE.out]
        exact ⟨rfl, S5.drop.drop.p1.drop⟩
      exact AllReadyH.nil
    exact AllReadyH.nil
  · have hde : Hid (∀ (w' : World) (L' : List Asn), Sat g w' (treeA t T :: L') → oldA g ∈ L' → Calls Tryz.prog 76 #[ptr t, .string (S p), .int .i64 v] w' fun e w2 => e = .returned (.int .i64 (deleteF T p v).1) ∧ Sat g w2 (treeA t (deleteF T p v).2 :: L')) := hide fun w' L' S' hm' => delete_tree S' HG0.out hm' HP.out (by omega) p v (by omega) (fun a ha => ⟨(hok a ha).2.2.1, by have := (hok a ha).2.2.2.1; omega⟩)
    have HE : Hid (stepF T ⟨3, p, dt, v, sr, ow⟩ ss when_ = ⟨⟨p, 0⟩, (p, 2), (deleteF T p v).1, (deleteF T p v).2⟩) := hide rfl
    generalize deleteF T p v = X at *
    obtain ⟨x2, x3⟩ := X
    simp only at hde HE
    clear hok hv
    have HX : Hid (∀ (w' : World) (L' : List Asn), Sat g w' L' → cellsA xb 71 #[.int .i64 3, .string (S p), .string (S dt), .int .i64 v, .bool sr, .bool ow] ∈ L' → w'.cell? ⟨xb, 1, none⟩ = some (.string (S p)) ∧ w'.cell? ⟨xb, 3, none⟩ = some (.int .i64 v)) := hide fun w' L' S' h => ⟨S'.cell_of h 1 _ rfl, S'.cell_of h 3 _ rfl⟩
    go_upto_region 12 with fail
    refine wp_region_held_drew (S := (fun w' => w'.cell? ⟨xb, 1, none⟩ = some (.string (S p)) ∧ w'.cell? ⟨xb, 3, none⟩ = some (.int .i64 v))) (by kernel_rfl) ?_ (fun hHeld => ?_)
    · exact HX.out _ _ S1.drew (by simp)
    refine wpAnyH_take (i := 0) (oi := _) (v := ?_) rfl (by kernel_rfl) (by kernel_rfl) (by kernel_rfl) (fun _ _ _ h => h) (Or.inl ⟨by rfl, ?_⟩) hHeld ?_
    rotate_left
    · intro w' hSw
      (try dsimp only at hSw)
      go_simp
      try with_reducible rfl
    try simp only [Act.put, List.setIfInBounds_toArray, List.set_cons_zero, List.set_cons_succ, List.getElem_toArray, List.getElem_cons_zero, List.getElem_cons_succ]
    refine wpAnyH_take (i := 1) (oi := _) (v := ?_) rfl (by kernel_rfl) (by kernel_rfl) (by kernel_rfl) (fun _ _ _ h => h) (Or.inl ⟨by rfl, ?_⟩) hHeld ?_
    rotate_left
    · intro w' hSw
      (try dsimp only at hSw)
      go_simp
      try with_reducible rfl
    try simp only [Act.put, List.setIfInBounds_toArray, List.set_cons_zero, List.set_cons_succ, List.getElem_toArray, List.getElem_cons_zero, List.getElem_cons_succ]
    refine wpAnyH_take (i := 2) (oi := _) (v := ?_) rfl (by kernel_rfl) (by kernel_rfl) (by kernel_rfl) (fun _ _ _ h => h) (Or.inl ⟨by rfl, ?_⟩) hHeld ?_
    rotate_left
    · intro w' hSw
      (try dsimp only at hSw)
      go_simp
      try with_reducible rfl
    try simp only [Act.put, List.setIfInBounds_toArray, List.set_cons_zero, List.set_cons_succ, List.getElem_toArray, List.getElem_cons_zero, List.getElem_cons_succ]
    refine wpAnyH_take (i := 3) (oi := _) (v := ?_) rfl (by kernel_rfl) (by kernel_rfl) (by kernel_rfl) (fun _ _ _ h => h) (Or.inl ⟨by rfl, ?_⟩) hHeld ?_
    rotate_left
    · intro w' hSw
      (try dsimp only at hSw)
      go_simp
      try with_reducible rfl
    try simp only [Act.put, List.setIfInBounds_toArray, List.set_cons_zero, List.set_cons_succ, List.getElem_toArray, List.getElem_cons_zero, List.getElem_cons_succ]
    refine wpAnyH_take (i := 4) (oi := _) (v := ?_) rfl (by kernel_rfl) (by kernel_rfl) (by kernel_rfl) (fun _ _ _ h => h) (Or.inl ⟨by rfl, ?_⟩) hHeld ?_
    rotate_left
    · intro w' hSw
      (try dsimp only at hSw)
      go_simp
      try with_reducible rfl
    try simp only [Act.put, List.setIfInBounds_toArray, List.set_cons_zero, List.set_cons_succ, List.getElem_toArray, List.getElem_cons_zero, List.getElem_cons_succ]
    refine wpAnyH_take (i := 5) (oi := _) (v := ?_) rfl (by kernel_rfl) (by kernel_rfl) (by kernel_rfl) (fun _ _ _ h => h) (Or.inl ⟨by rfl, ?_⟩) hHeld ?_
    rotate_left
    · intro w' hSw
      (try dsimp only at hSw)
      go_simp
      try with_reducible rfl
    try simp only [Act.put, List.setIfInBounds_toArray, List.set_cons_zero, List.set_cons_succ, List.getElem_toArray, List.getElem_cons_zero, List.getElem_cons_succ]
    refine wpAnyH_take (i := 6) (oi := _) (v := ?_) rfl (by kernel_rfl) (by kernel_rfl) (by kernel_rfl) (fun _ _ _ h => h) (Or.inl ⟨by rfl, ?_⟩) hHeld ?_
    rotate_left
    · intro w' hSw
      (try dsimp only at hSw)
      go_simp
      try with_reducible rfl
    try simp only [Act.put, List.setIfInBounds_toArray, List.set_cons_zero, List.set_cons_succ, List.getElem_toArray, List.getElem_cons_zero, List.getElem_cons_succ]
    refine wpAnyH_take (i := 7) (oi := _) (v := ?_) rfl (by kernel_rfl) (by kernel_rfl) (by kernel_rfl) (fun _ _ _ h => h) (Or.inl ⟨by rfl, ?_⟩) hHeld ?_
    rotate_left
    · intro w' hSw
      (try dsimp only at hSw)
      go_simp
      try with_reducible rfl
    try simp only [Act.put, List.setIfInBounds_toArray, List.set_cons_zero, List.set_cons_succ, List.getElem_toArray, List.getElem_cons_zero, List.getElem_cons_succ]
    refine wpAnyH_take (i := 8) (oi := _) (v := ?_) rfl (by kernel_rfl) (by kernel_rfl) (by kernel_rfl) (fun _ _ _ h => h) (Or.inl ⟨by rfl, ?_⟩) hHeld ?_
    rotate_left
    · intro w' hSw
      (try dsimp only at hSw)
      go_simp
      try with_reducible rfl
    try simp only [Act.put, List.setIfInBounds_toArray, List.set_cons_zero, List.set_cons_succ, List.getElem_toArray, List.getElem_cons_zero, List.getElem_cons_succ]
    refine wpAnyH_take (i := 9) (oi := _) (v := ?_) rfl (by kernel_rfl) (by kernel_rfl) (by kernel_rfl) (fun _ _ _ h => h) (Or.inl ⟨by rfl, ?_⟩) hHeld ?_
    rotate_left
    · intro w' hSw
      (try dsimp only at hSw)
      go_simp
      try with_reducible rfl
    try simp only [Act.put, List.setIfInBounds_toArray, List.set_cons_zero, List.set_cons_succ, List.getElem_toArray, List.getElem_cons_zero, List.getElem_cons_succ]
    refine wpAnyH_take (i := 10) (oi := _) (v := ?_) rfl (by kernel_rfl) (by kernel_rfl) (by kernel_rfl) (fun _ _ _ h => h) (Or.inl ⟨by rfl, ?_⟩) hHeld ?_
    rotate_left
    · intro w' hSw
      (try dsimp only at hSw)
      go_simp
      try with_reducible rfl
    try simp only [Act.put, List.setIfInBounds_toArray, List.set_cons_zero, List.set_cons_succ, List.getElem_toArray, List.getElem_cons_zero, List.getElem_cons_succ]
    refine wpAnyH_ready (rs := [11]) (by kernel_rfl) (by simp) ?_
    refine AllReadyH.cons rfl (fun K hK => ?_) ?_
    · go_simp
      go_at_call 76
      refine (hde.out _ _ (Sat.p3 (Sat.drew S1)) (by simp [hm])).mono ?_
      rintro e w2 ⟨rfl, S2⟩
      have S3 := S2.p2
      refine hK.out _ _ ?_ (fun hHeld => ?_)
      · exact HX.out _ _ S2 (by simp)
      clear hK K
      try simp only [Act.put, List.setIfInBounds_toArray, List.set_cons_zero, List.set_cons_succ, List.getElem_toArray, List.getElem_cons_zero, List.getElem_cons_succ]
      refine wpAnyH_ready (rs := [12]) (by kernel_rfl) (by simp) ?_
      refine AllReadyH.cons rfl (fun K hK => ?_) ?_
      · refine step_sstore rfl _ (.tmp 8) (.tmp 67) rfl (g := g) (S := S3) _ rfl rfl (by kernel_rfl) rfl (by simp [Value.oneCell']) ?_
        intro S4
        refine hK.out _ _ ?_ (fun hHeld => ?_)
        · exact HX.out _ _ S4 (by simp)
        clear hK K
        try simp only [Act.put, List.setIfInBounds_toArray, List.set_cons_zero, List.set_cons_succ, List.getElem_toArray, List.getElem_cons_zero, List.getElem_cons_succ]
        refine wpAnyH_ready (rs := [13]) (by kernel_rfl) (by simp) ?_
        refine AllReadyH.cons rfl (fun K hK => ?_) ?_
        · refine step_sstore rfl _ (.tmp 9) (.tmp 70) rfl (g := g) (S := (Sat.p2 S4)) _ rfl rfl (by kernel_rfl) rfl (by simp [Value.oneCell']) ?_
          intro S5
          refine hK.out _ _ ?_ (fun hHeld => ?_)
          · exact HX.out _ _ S5 (by simp)
          clear hK K
          try simp only [Act.put, List.setIfInBounds_toArray, List.set_cons_zero, List.set_cons_succ, List.getElem_toArray, List.getElem_cons_zero, List.getElem_cons_succ]
          refine wpAnyH_take (i := 14) (oi := _) (v := ?_) rfl (by kernel_rfl) (by kernel_rfl) (by kernel_rfl) (fun _ _ _ h => h) (Or.inl ⟨by rfl, ?_⟩) hHeld ?_
          rotate_left
          · intro w' hSw
            (try dsimp only at hSw)
            go_simp
            try with_reducible rfl
          try simp only [Act.put, List.setIfInBounds_toArray, List.set_cons_zero, List.set_cons_succ, List.getElem_toArray, List.getElem_cons_zero, List.getElem_cons_succ]
          refine wpAnyH_done (by kernel_rfl) ?_ _
          go_wp2_with fail
          refine bodyPost_ret (results_rows_tmp Tryz.results94 _ _ rb cb _ _ _ _ _ _ _ _ rfl rfl S5.p1.cells_get S5.cells_get Tryz.underlying109 rfl (by kernel_rfl) Tryz.underlying163 rfl (by kernel_rfl)) rfl ?_
          rw [HE.out]
          exact ⟨rfl, S5.drop.drop.p1.drop⟩
        exact AllReadyH.nil
      exact AllReadyH.nil
    exact AllReadyH.nil
  · have hde : Hid (∀ (w' : World) (L' : List Asn), Sat g w' (treeA t T :: L') → oldA g ∈ L' → Calls Tryz.prog 110 #[ptr t, .string (S p), .int .i64 v] w' fun e w2 => e = .returned (.int .i64 (atF T p v).2) ∧ Sat g w2 (treeA t T :: L')) := hide fun w' L' S' hm' => check_tree S' (HG0.out.at S' (by simp [hm'])) p v (by omega)
    have HE : Hid (stepF T ⟨4, p, dt, v, sr, ow⟩ ss when_ = ⟨⟨p, 0⟩, ([], 0), (atF T p v).2, T⟩) := hide rfl
    generalize atF T p v = X at *
    obtain ⟨x2, x3⟩ := X
    simp only at hde HE
    clear hok hv
    have HX : Hid (∀ (w' : World) (L' : List Asn), Sat g w' L' → cellsA xb 71 #[.int .i64 4, .string (S p), .string (S dt), .int .i64 v, .bool sr, .bool ow] ∈ L' → w'.cell? ⟨xb, 1, none⟩ = some (.string (S p)) ∧ w'.cell? ⟨xb, 3, none⟩ = some (.int .i64 v)) := hide fun w' L' S' h => ⟨S'.cell_of h 1 _ rfl, S'.cell_of h 3 _ rfl⟩
    go_upto_region 14 with fail
    refine wp_region_held_drew (S := (fun w' => w'.cell? ⟨xb, 1, none⟩ = some (.string (S p)) ∧ w'.cell? ⟨xb, 3, none⟩ = some (.int .i64 v))) (by kernel_rfl) ?_ (fun hHeld => ?_)
    · exact HX.out _ _ S1.drew (by simp)
    refine wpAnyH_take (i := 0) (oi := _) (v := ?_) rfl (by kernel_rfl) (by kernel_rfl) (by kernel_rfl) (fun _ _ _ h => h) (Or.inl ⟨by rfl, ?_⟩) hHeld ?_
    rotate_left
    · intro w' hSw
      (try dsimp only at hSw)
      go_simp
      try with_reducible rfl
    try simp only [Act.put, List.setIfInBounds_toArray, List.set_cons_zero, List.set_cons_succ, List.getElem_toArray, List.getElem_cons_zero, List.getElem_cons_succ]
    refine wpAnyH_take (i := 1) (oi := _) (v := ?_) rfl (by kernel_rfl) (by kernel_rfl) (by kernel_rfl) (fun _ _ _ h => h) (Or.inl ⟨by rfl, ?_⟩) hHeld ?_
    rotate_left
    · intro w' hSw
      (try dsimp only at hSw)
      go_simp
      try with_reducible rfl
    try simp only [Act.put, List.setIfInBounds_toArray, List.set_cons_zero, List.set_cons_succ, List.getElem_toArray, List.getElem_cons_zero, List.getElem_cons_succ]
    refine wpAnyH_take (i := 2) (oi := _) (v := ?_) rfl (by kernel_rfl) (by kernel_rfl) (by kernel_rfl) (fun _ _ _ h => h) (Or.inl ⟨by rfl, ?_⟩) hHeld ?_
    rotate_left
    · intro w' hSw
      (try dsimp only at hSw)
      go_simp
      try with_reducible rfl
    try simp only [Act.put, List.setIfInBounds_toArray, List.set_cons_zero, List.set_cons_succ, List.getElem_toArray, List.getElem_cons_zero, List.getElem_cons_succ]
    refine wpAnyH_take (i := 3) (oi := _) (v := ?_) rfl (by kernel_rfl) (by kernel_rfl) (by kernel_rfl) (fun _ _ _ h => h) (Or.inl ⟨by rfl, ?_⟩) hHeld ?_
    rotate_left
    · intro w' hSw
      (try dsimp only at hSw)
      go_simp
      try with_reducible rfl
    try simp only [Act.put, List.setIfInBounds_toArray, List.set_cons_zero, List.set_cons_succ, List.getElem_toArray, List.getElem_cons_zero, List.getElem_cons_succ]
    refine wpAnyH_take (i := 4) (oi := _) (v := ?_) rfl (by kernel_rfl) (by kernel_rfl) (by kernel_rfl) (fun _ _ _ h => h) (Or.inl ⟨by rfl, ?_⟩) hHeld ?_
    rotate_left
    · intro w' hSw
      (try dsimp only at hSw)
      go_simp
      try with_reducible rfl
    try simp only [Act.put, List.setIfInBounds_toArray, List.set_cons_zero, List.set_cons_succ, List.getElem_toArray, List.getElem_cons_zero, List.getElem_cons_succ]
    refine wpAnyH_take (i := 5) (oi := _) (v := ?_) rfl (by kernel_rfl) (by kernel_rfl) (by kernel_rfl) (fun _ _ _ h => h) (Or.inl ⟨by rfl, ?_⟩) hHeld ?_
    rotate_left
    · intro w' hSw
      (try dsimp only at hSw)
      go_simp
      try with_reducible rfl
    try simp only [Act.put, List.setIfInBounds_toArray, List.set_cons_zero, List.set_cons_succ, List.getElem_toArray, List.getElem_cons_zero, List.getElem_cons_succ]
    refine wpAnyH_take (i := 6) (oi := _) (v := ?_) rfl (by kernel_rfl) (by kernel_rfl) (by kernel_rfl) (fun _ _ _ h => h) (Or.inl ⟨by rfl, ?_⟩) hHeld ?_
    rotate_left
    · intro w' hSw
      (try dsimp only at hSw)
      go_simp
      try with_reducible rfl
    try simp only [Act.put, List.setIfInBounds_toArray, List.set_cons_zero, List.set_cons_succ, List.getElem_toArray, List.getElem_cons_zero, List.getElem_cons_succ]
    refine wpAnyH_take (i := 7) (oi := _) (v := ?_) rfl (by kernel_rfl) (by kernel_rfl) (by kernel_rfl) (fun _ _ _ h => h) (Or.inl ⟨by rfl, ?_⟩) hHeld ?_
    rotate_left
    · intro w' hSw
      (try dsimp only at hSw)
      go_simp
      try with_reducible rfl
    try simp only [Act.put, List.setIfInBounds_toArray, List.set_cons_zero, List.set_cons_succ, List.getElem_toArray, List.getElem_cons_zero, List.getElem_cons_succ]
    refine wpAnyH_take (i := 8) (oi := _) (v := ?_) rfl (by kernel_rfl) (by kernel_rfl) (by kernel_rfl) (fun _ _ _ h => h) (Or.inl ⟨by rfl, ?_⟩) hHeld ?_
    rotate_left
    · intro w' hSw
      (try dsimp only at hSw)
      go_simp
      try with_reducible rfl
    try simp only [Act.put, List.setIfInBounds_toArray, List.set_cons_zero, List.set_cons_succ, List.getElem_toArray, List.getElem_cons_zero, List.getElem_cons_succ]
    refine wpAnyH_ready (rs := [9]) (by kernel_rfl) (by simp) ?_
    refine AllReadyH.cons rfl (fun K hK => ?_) ?_
    · go_simp
      go_at_call 110
      refine (hde.out _ _ (Sat.p3 (Sat.drew S1)) (by simp [hm])).mono ?_
      rintro e w2 ⟨rfl, S2⟩
      have S3 := S2.p2
      refine hK.out _ _ ?_ (fun hHeld => ?_)
      · exact HX.out _ _ S2 (by simp)
      clear hK K
      try simp only [Act.put, List.setIfInBounds_toArray, List.set_cons_zero, List.set_cons_succ, List.getElem_toArray, List.getElem_cons_zero, List.getElem_cons_succ]
      refine wpAnyH_ready (rs := [10]) (by kernel_rfl) (by simp) ?_
      refine AllReadyH.cons rfl (fun K hK => ?_) ?_
      · refine step_sstore rfl _ (.tmp 8) (.tmp 81) rfl (g := g) (S := S3) _ rfl rfl (by kernel_rfl) rfl (by simp [Value.oneCell']) ?_
        intro S4
        refine hK.out _ _ ?_ (fun hHeld => ?_)
        · exact HX.out _ _ S4 (by simp)
        clear hK K
        try simp only [Act.put, List.setIfInBounds_toArray, List.set_cons_zero, List.set_cons_succ, List.getElem_toArray, List.getElem_cons_zero, List.getElem_cons_succ]
        refine wpAnyH_ready (rs := [11]) (by kernel_rfl) (by simp) ?_
        refine AllReadyH.cons rfl (fun K hK => ?_) ?_
        · refine step_sstore rfl _ (.tmp 9) (.tmp 82) rfl (g := g) (S := (Sat.p2 S4)) _ rfl rfl (by kernel_rfl) rfl (by simp [Value.oneCell']) ?_
          intro S5
          refine hK.out _ _ ?_ (fun hHeld => ?_)
          · exact HX.out _ _ S5 (by simp)
          clear hK K
          try simp only [Act.put, List.setIfInBounds_toArray, List.set_cons_zero, List.set_cons_succ, List.getElem_toArray, List.getElem_cons_zero, List.getElem_cons_succ]
          refine wpAnyH_take (i := 12) (oi := _) (v := ?_) rfl (by kernel_rfl) (by kernel_rfl) (by kernel_rfl) (fun _ _ _ h => h) (Or.inl ⟨by rfl, ?_⟩) hHeld ?_
          rotate_left
          · intro w' hSw
            (try dsimp only at hSw)
            go_simp
            try with_reducible rfl
          try simp only [Act.put, List.setIfInBounds_toArray, List.set_cons_zero, List.set_cons_succ, List.getElem_toArray, List.getElem_cons_zero, List.getElem_cons_succ]
          refine wpAnyH_done (by kernel_rfl) ?_ _
          go_wp2_with fail
          refine bodyPost_ret (results_rows_tmp Tryz.results94 _ _ rb cb _ _ _ _ _ _ _ _ rfl rfl S5.p1.cells_get S5.cells_get Tryz.underlying109 rfl (by kernel_rfl) Tryz.underlying163 rfl (by kernel_rfl)) rfl ?_
          rw [HE.out]
          exact ⟨rfl, S5.drop.drop.p1.drop⟩
        exact AllReadyH.nil
      exact AllReadyH.nil
    exact AllReadyH.nil
end

section
set_option linter.unusedVariables false
set_option linter.unusedSimpArgs false
open Go.RowKit

theorem slChg : Sl Tryz.prog 161 163 2 24 (.agg #[.string ⟨#[]⟩, .int .i64 0]) := .mk' Tryz.underlying161 (by kernel_rfl) rfl (by decide)
theorem chg_at {w : World} {A : Option Addr} {xs : List Chg} {n : Nat} (h : Src w 2 A n (xs.flatMap chgC)) (hn : xs.length = n) {k : Nat} (hk : k < n) :
    ∃ ad x, A = some ad ∧ xs[k]? = some x ∧ w.cell? (ad.add (k * 2)) = some (.string (S x.1)) ∧ w.cell? ⟨(ad.add (k * 2)).block, (ad.add (k * 2)).off + 1, none⟩ = some (.int .i64 x.2) := by
  obtain ⟨ad, e, hc⟩ := h.2 (by have := h.1; omega)
  have hx : xs[k]? = some xs[k] := List.getElem?_eq_getElem (by omega)
  refine ⟨ad, _, e, hx, ?_, ?_⟩
  · exact hc _ _ (by have := flat_at (fun c : Chg => chgC c) 2 (fun _ => rfl) xs k _ hx 0 (.string (S xs[k].1)) rfl; simpa using this)
  · have h1 := hc _ _ (flat_at (fun c : Chg => chgC c) 2 (fun _ => rfl) xs k _ hx 1 (.int .i64 xs[k].2) rfl)
    rw [← add_succ, add_add]
    exact h1
theorem updL_step {ss when_ : Int} {ops : List OpT} {k : Nat} {o : OpT} (hx : ops[k]? = some o) (T : TreeT) (os : List OutT) (cs : List Chg) :
    updL ss when_ (ops.drop k) k T os cs = if (stepF T o ss when_).err ≠ 0 then ((stepF T o ss when_).err, k, T, os, cs) else
      updL ss when_ (ops.drop (k + 1)) (k + 1) (stepF T o ss when_).tree (os ++ [(stepF T o ss when_).out]) (if (stepF T o ss when_).chg.2 ≠ 0 then cs ++ [(stepF T o ss when_).chg] else cs) := by
  obtain ⟨hk, e⟩ := List.getElem?_eq_some_iff.1 hx
  rw [List.drop_eq_getElem_cons hk, e]
  rfl

set_option maxRecDepth 100000 in
set_option maxHeartbeats 16000000 in
theorem update_state {g w : World} {L : List Asn} {b : Nat} {s : StT} {M : TreeT} {n : Nat} {cm : CmdT} {A0 : Option Addr} {c0 : Nat} (S0 : Sat g w (stateA b s :: rowA 71 6 (.slice A0 cm.ops.length c0) cm.ops.length (cm.ops.flatMap opC) :: L)) (hG : GL g) (hm : oldA g ∈ L)
    (hi : InvS s M n) (hn0 : n ≤ 90 ∨ (n ≤ 900 ∧ TabE g)) (hok : ∀ o ∈ cm.ops, opR o = true) (h4 : cm.ops.length ≤ 4) (hss : 0 ≤ cm.session ∧ cm.session ≤ 281474976710655) (when_ : Int) (hw : 0 ≤ when_ ∧ when_ ≤ 1000) :
    Calls Tryz.prog 80 #[ptr b, cmdV cm A0 c0, .int .i64 when_] w fun e w' => ∃ A c, e = .returned (resV (updateF s cm when_).1 A c) ∧ Sat g w' (rowA 109 2 (.slice A (updateF s cm when_).1.outs.length c) (updateF s cm when_).1.outs.length ((updateF s cm when_).1.outs.flatMap outC) :: stateA b (updateF s cm when_).2 :: rowA 71 6 (.slice A0 cm.ops.length c0) cm.ops.length (cm.ops.flatMap opC) :: L) := by
  have HG0 := hide hG
  have hn : n ≤ 900 := by rcases hn0 with h | h <;> omega
  have HN0 : Hid (∀ m, m ≤ n + 4 → (m < 100 ∨ (m < 1000 ∧ TabE g))) := hide fun m hm => hn0.elim (fun h => .inl (by omega)) (fun h => .inr ⟨by omega, h.2⟩)
  clear hn0
  have HI := hide hi
  have HOK := hide hok
  have HUP : Hid (updateF s cm when_ = updateF s cm when_) := hide rfl
  unfold updateF at HUP ⊢
  obtain ⟨kd, ss, rq, nt, ops, pa, ki, oc⟩ := cm
  simp only at S0 h4 hss HOK HUP ⊢
  have HU0 : Hid (updL ss when_ ops 0 s.tree [] [] = updL ss when_ (ops.drop 0) 0 s.tree [] []) := hide rfl
  generalize updL ss when_ ops 0 s.tree [] [] = UP at *
  clear HUP hi hok hG
  obtain ⟨t, ts, bk, S1⟩ := S0.stateOpen
  have S2 := (S1.box #[.int .i64 kd, .int .i64 ss, .int .i64 rq, .int .i64 nt, .slice A0 ops.length c0, .string (S pa), .bool ki, .bool oc] 35 rfl).box #[.int .i64 0, .int .i64 0, .slice none 0 0, .int .i64 0] 41 (b := w.heap.size + 1) (by simp)
  go_enter Tryz.func80, Tryz.ntmps80
  go_upto_region 1 with fail
  generalize (w.alloc (.cells #[.int .i64 kd, .int .i64 ss, .int .i64 rq, .int .i64 nt, .slice A0 ops.length c0, .string (S pa), .bool ki, .bool oc] 35)).alloc (.cells #[.int .i64 0, .int .i64 0, .slice none 0 0, .int .i64 0] 41) = w1 at *
  generalize w.heap.size + 1 = zb at *
  generalize w.heap.size = cb at *
  have q0 := S2.p2.cell 0 _ rfl
  clear S0 S1
  go_wp2_with fail
  refine (tclone_tree S2.p3).mono ?_
  rintro e w2 ⟨t2, rfl, S3⟩
  clear S2 q0
  have S4 := ((S3.box #[.int .i64 0, .int .i64 0, .slice none 0 0, .int .i64 when_] 41 rfl).nilRow 109 2).nilRow 163 2
  go_upto_region 3 with fail
  generalize w2.alloc (.cells #[.int .i64 0, .int .i64 0, .slice none 0 0, .int .i64 when_] 41) = w3 at *
  generalize w2.heap.size = rb at *
  have S5 : Sat g w3 (treeA t2 s.tree :: rowA 109 2 (.slice none 0 0) 0 (([] : List OutT).flatMap outC) :: cellsA rb 41 #[.int .i64 0, .int .i64 0, .slice none 0 0, .int .i64 when_] :: rowA 163 2 (.slice none ([] : List Chg).length 0) ([] : List Chg).length (([] : List Chg).flatMap chgC) :: cellsA cb 35 #[.int .i64 kd, .int .i64 ss, .int .i64 rq, .int .i64 nt, .slice A0 ops.length c0, .string (S pa), .bool ki, .bool oc] :: cellsA zb 41 #[.int .i64 0, .int .i64 0, .slice none 0 0, .int .i64 0] :: cellsA b 78 #[ptr t, ptr ts, ptr bk, .int .i64 s.at_] :: treeA t s.tree :: tblA ts s.tab :: bookA bk s.book :: rowA 71 6 (.slice A0 ops.length c0) ops.length (ops.flatMap opC) :: L) := (((((((S4.bring 7).bring 6).bring 7).bring 3).bring 5).bring 5).bring 6)
  have q4 := Sat.cell_of S5 (t := 35) (cs := #[.int .i64 kd, .int .i64 ss, .int .i64 rq, .int .i64 nt, .slice A0 ops.length c0, .string (S pa), .bool ki, .bool oc]) (b := cb) (by simp) 4 _ rfl
  clear S3 S4
  go_wp2_with fail
  clear q4
  go_loopw [9, 27] (fun v i wr => ∃ k : Nat, k ≤ ops.length ∧ i = .int .i64 k ∧ ∃ (T' M' : TreeT) (n' : Nat) (os : List OutT) (cs : List Chg) (A : Option Addr) (c : Nat) (A2 : Option Addr) (c2 : Nat), v = .slice A2 cs.length c2 ∧ UP = updL ss when_ (ops.drop k) k T' os cs ∧ os.length = k ∧ Mod T' M' n' ∧ n' ≤ n + k ∧ n + cs.length ≤ n' ∧ (∀ x ∈ cs, x.1.length ≤ 60) ∧ Sat g wr (treeA t2 T' :: rowA 109 2 (.slice A k c) k (os.flatMap outC) :: cellsA rb 41 #[.int .i64 0, .int .i64 0, .slice A k c, .int .i64 when_] :: rowA 163 2 (.slice A2 cs.length c2) cs.length (cs.flatMap chgC) :: cellsA cb 35 #[.int .i64 kd, .int .i64 ss, .int .i64 rq, .int .i64 nt, .slice A0 ops.length c0, .string (S pa), .bool ki, .bool oc] :: cellsA zb 41 #[.int .i64 0, .int .i64 0, .slice none 0 0, .int .i64 0] :: cellsA b 78 #[ptr t, ptr ts, ptr bk, .int .i64 s.at_] :: treeA t s.tree :: tblA ts s.tab :: bookA bk s.book :: rowA 71 6 (.slice A0 ops.length c0) ops.length (ops.flatMap opC) :: L)) (fun _ i _ => ops.length - (RowKit.intOf i).toNat)
  case atStart => exact ⟨0, by omega, rfl, s.tree, M, n, [], [], none, 0, none, 0, rfl, HU0.out, rfl, HI.out.tree, by omega, by simp, by simp, S5⟩
  case round =>
    obtain ⟨k, hk, rfl, T', M', n', os, cs, A, c, A2, c2, rfl, hU, hos, hM', hn1, hn2, hcs, S6⟩ := hrel
    clear S5 HU0
    by_cases hlt : k < ops.length
    · have hk0 : (0 : Int) ≤ (k : Int) := by omega
      have hk1 : (k : Int) < (ops.length : Int) := by omega
      obtain ⟨L2, SX⟩ := S6.mem_ (A := rowA 71 6 (.slice A0 ops.length c0) ops.length (ops.flatMap opC)) (by simp)
      obtain ⟨ad, o, rfl, hx, d0, d1, d2, d3, d4, d5⟩ := ops_at SX.srcT hlt
      clear SX
      rw [updL_step hx] at hU
      have hox := HOK.out o (List.mem_of_getElem? hx)
      obtain ⟨o1, o2, o3, o4, o5, o6⟩ := opR_of hox
      have HONE : Hid (∀ (w' : World) (L' : List Asn), Sat g w' (treeA t2 T' :: L') → oldA g ∈ L' → Calls Tryz.prog 94 #[ptr t2, opV o, .int .i64 ss, .int .i64 when_] w' fun e w2 => e = .returned (.tuple #[outV (stepF T' o ss when_).out, chgV (stepF T' o ss when_).chg, .int .i64 (stepF T' o ss when_).err]) ∧ Sat g w2 (treeA t2 (stepF T' o ss when_).tree :: L')) := hide fun w' L' S' h => one_state S' HG0.out h hM' (HN0.out _ (by omega)) o o1 o2 (by omega) (by omega) ss when_
      have HST := hide (step_mod hM' (by omega) o o1 o2 hss hw)
      have HSL := hide (step_len T' o ss when_ o3)
      have HU := hide hU
      clear hU hM' hx hox o1 o2 o3 o4 o5 o6
      generalize stepF T' o ss when_ = R at *
      obtain ⟨⟨r1, r2⟩, ⟨r3, r4⟩, re, rt⟩ := R
      simp only at HONE HST HSL HU
      obtain ⟨d, p, dt, v, sr, ow⟩ := o
      simp only at d0 d1 d2 d3 d4 d5
      go_upto_region 7 with fail
      have S7 := S6.box #[.int .i64 d, .string (S p), .string (S dt), .int .i64 v, .bool sr, .bool ow] 71 rfl
      generalize wr.alloc (.cells #[.int .i64 d, .string (S p), .string (S dt), .int .i64 v, .bool sr, .bool ow] 71) = w7 at *
      generalize wr.heap.size = xb at *
      have x0 := S7.cell 0 _ rfl
      have x1 := S7.cell 1 _ rfl
      have x2 := S7.cell 2 _ rfl
      have x3 := S7.cell 3 _ rfl
      have x4 := S7.cell 4 _ rfl
      have x5 := S7.cell 5 _ rfl
      have y1 := Sat.cell_of S7 (t := 35) (cs := #[.int .i64 kd, .int .i64 ss, .int .i64 rq, .int .i64 nt, .slice (some ad) ops.length c0, .string (S pa), .bool ki, .bool oc]) (b := cb) (by simp) 1 _ rfl
      clear S6 d0 d1 d2 d3 d4 d5
      go_wp2_with fail
      refine (HONE.out _ _ S7.p1 (by simp [hm])).mono ?_
      rintro e w8 ⟨rfl, S8⟩
      clear S7 x0 x1 x2 x3 x4 x5 y1 HONE
      have S9 := (S8.box #[.string (S r1), .int .i64 r2] 109 rfl).box #[.string (S r3), .int .i64 r4] 163 (b := w8.heap.size + 1) (by simp)
      go_upto_region 8 with fail
      generalize (w8.alloc (.cells #[.string (S r1), .int .i64 r2] 109)).alloc (.cells #[.string (S r3), .int .i64 r4] 163) = w9 at *
      generalize w8.heap.size + 1 = hb at *
      generalize w8.heap.size = ob at *
      clear S8
      by_cases hre : re = 0
      · subst hre
        have HU2 : Hid (UP = updL ss when_ (ops.drop (k + 1)) (k + 1) rt (os ++ [⟨r1, r2⟩]) (if r4 ≠ 0 then cs ++ [(r3, r4)] else cs)) := hide (by have := HU.out; rwa [if_neg (by simp)] at this)
        obtain ⟨M2, n2, hM2, hn3, hn4, -, hn5⟩ := HST.out
        have h60 := HSL.out rfl
        clear HU HST HSL
        have z2 := Sat.cell_of S9 (t := 41) (cs := #[.int .i64 0, .int .i64 0, .slice A k c, .int .i64 when_]) (b := rb) (by simp) 2 _ rfl
        have o0 := S9.p1.cell 0 _ rfl
        have o1 := S9.p1.cell 1 _ rfl
        go_upto_region 11 with (at_builtin; refine wpList_sapp slOut rfl (.tmp 49) (.tmp 51) rfl (g := g) (S := (S9.box #[.string (S r1), .int .i64 r2] 109 rfl).p5) rfl (Src.block (heap_alloc_new _ _) 2 1 rfl) rfl (by simp [Value.oneCell']) (by unfold maxLen; omega) (by omega) ?_; intro A9 c9 w10 S10; have z2 := Sat.cell_of S10 (t := 41) (cs := #[.int .i64 0, .int .i64 0, .slice A k c, .int .i64 when_]) (b := rb) (by simp) 2 _ rfl; have f2 := Sat.fz_of S10 (t := 41) (cs := #[.int .i64 0, .int .i64 0, .slice A k c, .int .i64 when_]) (b := rb) (by simp) 2; have l2 : rb < w10.heap.size := World.block_lt_of_cell? w10 _ z2)
        have S11 := S10.p6.setc 2 (.slice A9 (k + 1) c9)
        generalize w10.setCell ⟨rb, 2, none⟩ (.slice A9 (k + 1) c9) = w11 at *
        have S12 : Sat g w11 (cellsA hb 163 #[.string (S r3), .int .i64 r4] :: treeA t2 rt :: rowA 109 2 (.slice A9 (k + 1) c9) (k + 1) ((os ++ [(⟨r1, r2⟩ : OutT)]).flatMap outC) :: cellsA rb 41 #[.int .i64 0, .int .i64 0, .slice A9 (k + 1) c9, .int .i64 when_] :: rowA 163 2 (.slice A2 cs.length c2) cs.length (cs.flatMap chgC) :: cellsA cb 35 #[.int .i64 kd, .int .i64 ss, .int .i64 rq, .int .i64 nt, .slice (some ad) ops.length c0, .string (S pa), .bool ki, .bool oc] :: cellsA zb 41 #[.int .i64 0, .int .i64 0, .slice none 0 0, .int .i64 0] :: cellsA b 78 #[ptr t, ptr ts, ptr bk, .int .i64 s.at_] :: treeA t s.tree :: tblA ts s.tab :: bookA bk s.book :: rowA 71 6 (.slice (some ad) ops.length c0) ops.length (ops.flatMap opC) :: L) := by
          have e1 : (os ++ [(⟨r1, r2⟩ : OutT)]).flatMap outC = os.flatMap outC ++ #[Value.string (S r1), .int .i64 r2].toList := by rw [List.flatMap_append]; rfl
          rw [e1]
          exact ((((((S11.bring 2).drop.bring 3).drop.bring 4).drop.bring 1).bring 3).bring 3)
        clear S9 S10 S11 z2 o0 o1
        have h0 := S12.cell 0 _ rfl
        have h1 := S12.cell 1 _ rfl
        by_cases hr4 : r4 = 0
        · subst hr4
          go_wp2_with fail
          go_roundw
          case rel => exact ⟨k + 1, by omega, by go_num, rt, M2, n2, os ++ [(⟨r1, r2⟩ : OutT)], cs, A9, c9, A2, c2, rfl, by have := HU2.out; rwa [if_neg (by simp)] at this, by simp [hos], hM2, by omega, by omega, hcs, S12.drop⟩
          case measure => simp [RowKit.intOf]; omega
        · have hr42 : (r4 != 0) = true := by simpa using hr4
          have hn6 := hn4 hr4
          go_wp2_with (at_builtin; refine wpList_sapp slChg rfl (.tmp 57) (.tmp 59) rfl (g := g) (S := (S12.box #[.string (S r3), .int .i64 r4] 163 rfl).p5) rfl (Src.block (heap_alloc_new _ _) 2 1 rfl) rfl (by simp [Value.oneCell']) (by unfold maxLen; omega) (by omega) ?_; intro A8 c8 w12 S13)
          have S14 : Sat g w12 (treeA t2 rt :: rowA 109 2 (.slice A9 (k + 1) c9) (k + 1) ((os ++ [(⟨r1, r2⟩ : OutT)]).flatMap outC) :: cellsA rb 41 #[.int .i64 0, .int .i64 0, .slice A9 (k + 1) c9, .int .i64 when_] :: rowA 163 2 (.slice A8 (cs ++ [((r3, r4) : Chg)]).length c8) (cs ++ [((r3, r4) : Chg)]).length ((cs ++ [((r3, r4) : Chg)]).flatMap chgC) :: cellsA cb 35 #[.int .i64 kd, .int .i64 ss, .int .i64 rq, .int .i64 nt, .slice (some ad) ops.length c0, .string (S pa), .bool ki, .bool oc] :: cellsA zb 41 #[.int .i64 0, .int .i64 0, .slice none 0 0, .int .i64 0] :: cellsA b 78 #[ptr t, ptr ts, ptr bk, .int .i64 s.at_] :: treeA t s.tree :: tblA ts s.tab :: bookA bk s.book :: rowA 71 6 (.slice (some ad) ops.length c0) ops.length (ops.flatMap opC) :: L) := by
            have e1 : (cs ++ [((r3, r4) : Chg)]).flatMap chgC = cs.flatMap chgC ++ #[Value.string (S r3), .int .i64 r4].toList := by rw [List.flatMap_append]; rfl
            have e2 : (cs ++ [((r3, r4) : Chg)]).length = cs.length + 1 := by simp
            rw [e1, e2]
            exact (((((S13.bring 1).drop.bring 1).drop.bring 3).bring 3).bring 3)
          clear S13 S12 h0 h1
          go_wp2_with fail
          go_roundw
          case rel => exact ⟨k + 1, by omega, by go_num, rt, M2, n2, os ++ [(⟨r1, r2⟩ : OutT)], cs ++ [(r3, r4)], A9, c9, A8, c8, by simp, by have := HU2.out; rwa [if_pos hr4] at this, by simp [hos], hM2, by omega, by simp only [List.length_append, List.length_cons, List.length_nil]; omega, fun x hx => (List.mem_append.1 hx).elim (fun h => hcs x h) (fun h => by simp only [List.mem_singleton] at h; subst h; exact h60), S14⟩
          case measure => simp [RowKit.intOf]; omega
      · have e : UP = (re, k, T', os, cs) := by have := HU.out; rwa [if_pos hre] at this
        subst e
        have hre2 : (re != 0) = true := by simpa using hre
        clear HU HST HSL
        go_wp2_with ((show Go.wpList _ _ _ (Oper.mk none (Op.store _ _ _) _ _ _ _ :: _) _ _); refine wpList_sstore rfl _ (.tmp 6) (.tmp 47) rfl (S9.bring 8) _ rfl rfl (by kernel_rfl) rfl (by simp [Value.oneCell']) ?_; intro S10)
        refine bodyPost_ret (results_cell_row Tryz.results80 _ _ zb _ _ _ _ rfl S10.cells_get Tryz.underlying41 rfl (by kernel_rfl)) rfl ?_
        try rw [if_pos hre]
        exact ⟨none, 0, rfl, (S10.drop.drop.drop.drop.drop.drop.drop.drop.drop).stateShut.nilRow _ _⟩
    · obtain rfl : k = ops.length := by omega
      have e : UP = (0, ops.length, T', os, cs) := by rw [hU, List.drop_length]; rfl
      subst e
      clear hU
      have z0 := Sat.cell_of S6 (t := 78) (cs := #[ptr t, ptr ts, ptr bk, .int .i64 s.at_]) (b := b) (by simp) 0 _ rfl
      have f0 := Sat.fz_of S6 (t := 78) (cs := #[ptr t, ptr ts, ptr bk, .int .i64 s.at_]) (b := b) (by simp) 0
      have l0 : b < wr.heap.size := World.block_lt_of_cell? wr _ z0
      go_upto_region 15 with fail
      have S7 := (S6.bring 6).setc 0 (ptr t2)
      generalize wr.setCell ⟨b, 0, none⟩ (ptr t2) = w7 at *
      have S8 : Sat g w7 (bookA bk (firesF s.book (cs.take 0) when_) :: cellsA b 78 #[ptr t2, ptr ts, ptr bk, .int .i64 s.at_] :: treeA t2 T' :: rowA 109 2 (.slice A ops.length c) ops.length (os.flatMap outC) :: cellsA rb 41 #[.int .i64 0, .int .i64 0, .slice A ops.length c, .int .i64 when_] :: rowA 163 2 (.slice A2 cs.length c2) cs.length (cs.flatMap chgC) :: cellsA cb 35 #[.int .i64 kd, .int .i64 ss, .int .i64 rq, .int .i64 nt, .slice A0 ops.length c0, .string (S pa), .bool ki, .bool oc] :: cellsA zb 41 #[.int .i64 0, .int .i64 0, .slice none 0 0, .int .i64 0] :: tblA ts s.tab :: rowA 71 6 (.slice A0 ops.length c0) ops.length (ops.flatMap opC) :: L) := ((S7.bring 7).drop.bring 8)
      have HFT : Hid (∀ j x, cs[j]? = some x → firesF s.book (cs.take (j + 1)) when_ = fireF (firesF s.book (cs.take j) when_) x.1 x.2 when_) := hide fun j x h => fires_take s.book cs when_ h
      have HFI : Hid (∀ j, InvW (firesF s.book (cs.take j) when_) (n + (cs.take j).length)) := hide fun j => fires_inv HI.out.book (cs.take j) when_
      clear S6 S7 z0 f0 l0
      go_wp2_with fail
      go_loopw [68] (fun i wr => ∃ j : Nat, j ≤ cs.length ∧ i = .int .i64 j ∧ Sat g wr (bookA bk (firesF s.book (cs.take j) when_) :: cellsA b 78 #[ptr t2, ptr ts, ptr bk, .int .i64 s.at_] :: treeA t2 T' :: rowA 109 2 (.slice A ops.length c) ops.length (os.flatMap outC) :: cellsA rb 41 #[.int .i64 0, .int .i64 0, .slice A ops.length c, .int .i64 when_] :: rowA 163 2 (.slice A2 cs.length c2) cs.length (cs.flatMap chgC) :: cellsA cb 35 #[.int .i64 kd, .int .i64 ss, .int .i64 rq, .int .i64 nt, .slice A0 ops.length c0, .string (S pa), .bool ki, .bool oc] :: cellsA zb 41 #[.int .i64 0, .int .i64 0, .slice none 0 0, .int .i64 0] :: tblA ts s.tab :: rowA 71 6 (.slice A0 ops.length c0) ops.length (ops.flatMap opC) :: L)) (fun i _ => cs.length - (RowKit.intOf i).toNat)
      case atStart => exact ⟨0, by omega, rfl, S8⟩
      case round =>
        obtain ⟨j, hj, rfl, S9⟩ := hrel
        clear S8
        by_cases hlt2 : j < cs.length
        · have hj0 : (0 : Int) ≤ (j : Int) := by omega
          have hj1 : (j : Int) < (cs.length : Int) := by omega
          obtain ⟨L2, SX⟩ := S9.mem_ (A := rowA 163 2 (.slice A2 cs.length c2) cs.length (cs.flatMap chgC)) (by simp)
          obtain ⟨ad, x, rfl, hx, d0, d1⟩ := chg_at SX.srcT rfl hlt2
          clear SX
          have hx60 := hcs x (List.mem_of_getElem? hx)
          have HF1 := hide (HFT.out j x hx)
          have hinv := HFI.out j
          have htl : (cs.take j).length ≤ j := List.length_take_le _ _
          have hes := hinv.es
          have hws := hinv.ws
          have hno := hinv.nos
          obtain ⟨x1, x2⟩ := x
          simp only at d0 d1 hx60 HF1
          generalize firesF s.book (cs.take j) when_ = BJ at *
          have HFIRE : Hid (∀ (w' : World) (L' : List Asn), Sat g w' (bookA bk BJ :: L') → Calls Tryz.prog 77 #[ptr bk, .string (S x1), .int .i64 x2, .int .i64 when_] w' fun e w2 => e = .returned (.tuple #[]) ∧ Sat g w2 (bookA bk (fireF BJ x1 x2 when_) :: L')) := hide fun w' L' S' => fire_book S' (by omega) (by omega) (hno.mono (by omega)) x1 x2 when_ (by omega)
          clear hinv hes hws hno hx hx60
          go_upto_region 18 with fail
          have S10 := S9.box #[.string (S x1), .int .i64 x2] 163 rfl
          generalize wr.alloc (.cells #[.string (S x1), .int .i64 x2] 163) = w10 at *
          generalize wr.heap.size = xb at *
          have HX : Hid (∀ (w' : World) (L' : List Asn), Sat g w' L' → cellsA xb 163 #[.string (S x1), .int .i64 x2] ∈ L' → cellsA b 78 #[ptr t2, ptr ts, ptr bk, .int .i64 s.at_] ∈ L' → w'.cell? ⟨b, 2, none⟩ = some (ptr bk) ∧ w'.cell? ⟨xb, 0, none⟩ = some (.string (S x1)) ∧ w'.cell? ⟨xb, 1, none⟩ = some (.int .i64 x2)) := hide fun w' L' S' h1 h2 => ⟨S'.cell_of h2 2 _ rfl, S'.cell_of h1 0 _ rfl, S'.cell_of h1 1 _ rfl⟩
          obtain ⟨q0, q1, q2⟩ := HX.out _ _ S10 (by simp) (by simp)
          clear S9 d0 d1
          go_region_held3 (fun v' => (v'.cell? ⟨b, 2, none⟩ = some (ptr bk) ∧ v'.cell? ⟨xb, 0, none⟩ = some (.string (S x1)) ∧ v'.cell? ⟨xb, 1, none⟩ = some (.int .i64 x2))) (first
            | (go_keep; done)
            | exact HX.out _ _ (Sat.keep S11 (by (repeat (first | exact Keeps.refl _ _ | refine Keeps.alloc ?_ _ | refine Keeps.drew ?_ | refine Keeps.drewN ?_ _)))) (by simp) (by simp)
            | exact HX.out _ _ (Sat.keep S10 (by (repeat (first | exact Keeps.refl _ _ | refine Keeps.alloc ?_ _ | refine Keeps.drew ?_ | refine Keeps.drewN ?_ _)))) (by simp) (by simp)) (first
            | (go_at_call 77; refine (HFIRE.out _ _ (by (repeat (first | refine Sat.drew ?_ | refine Sat.drewN ?_ _)); exact S10.p1)).mono ?_; rintro e w11 ⟨rfl, S11⟩; obtain ⟨q0, q1, q2⟩ := HX.out _ _ S11 (by simp) (by simp)))
          all_goals
            have S12 := S11.p1.drop
            rw [← HF1.out] at S12
            clear S10 S11 q0 q1 q2 HX HFIRE
            go_wp2_with fail
            go_roundw
            case rel => exact ⟨j + 1, by omega, by go_num, S12⟩
            case measure => simp [RowKit.intOf]; omega
        · obtain rfl : j = cs.length := by omega
          rw [List.take_length] at S9
          have z0 := Sat.cell_of S9 (t := 41) (cs := #[.int .i64 0, .int .i64 0, .slice A ops.length c, .int .i64 when_]) (b := rb) (by simp) 0 _ rfl
          have z1 := Sat.cell_of S9 (t := 41) (cs := #[.int .i64 0, .int .i64 0, .slice A ops.length c, .int .i64 when_]) (b := rb) (by simp) 1 _ rfl
          have z2 := Sat.cell_of S9 (t := 41) (cs := #[.int .i64 0, .int .i64 0, .slice A ops.length c, .int .i64 when_]) (b := rb) (by simp) 2 _ rfl
          have z3 := Sat.cell_of S9 (t := 41) (cs := #[.int .i64 0, .int .i64 0, .slice A ops.length c, .int .i64 when_]) (b := rb) (by simp) 3 _ rfl
          go_wp2_with ((show Go.wpList _ _ _ (Oper.mk none (Op.store _ _ _) _ _ _ _ :: _) _ _); refine wpList_sstore rfl _ (.tmp 6) (.tmp 83) rfl (S9.bring 7) _ rfl rfl (by kernel_rfl) rfl (by simp [Value.oneCell']) ?_; intro S10)
          refine bodyPost_ret (results_cell_row Tryz.results80 _ _ zb _ _ _ _ rfl S10.cells_get Tryz.underlying41 rfl (by kernel_rfl)) rfl ?_
          have hos2 : os.length = ops.length := hos
          refine ⟨A, c, by simp [hos2], ?_⟩
          try simp only [ne_eq, not_true_eq_false, if_false, hos2]
          try rw [hos2]
          exact Sat.p1 (Sat.stateShut (b := b) (s := ⟨T', s.tab, firesF s.book cs when_, s.at_⟩) (((((((S10.drop.bring 4).drop.bring 4).drop.bring 4).drop.bring 4).bring 3).bring 3)))
end

section
set_option linter.unusedVariables false
set_option linter.unusedSimpArgs false
open Go.RowKit

set_option maxRecDepth 100000 in
set_option maxHeartbeats 16000000 in
theorem do_state {g w : World} {L : List Asn} {b : Nat} {s : StT} {M : TreeT} {n : Nat} {cm : CmdT} {A0 : Option Addr} {c0 : Nat} (S0 : Sat g w (stateA b s :: rowA 71 6 (.slice A0 cm.ops.length c0) cm.ops.length (cm.ops.flatMap opC) :: L)) (hG : GL g) (hm : oldA g ∈ L)
    (hi : InvS s M n) (hn0 : n ≤ 90 ∨ (n ≤ 900 ∧ TabE g)) (hc : cmdR cm = true) (when_ : Int) (hw : 0 ≤ when_ ∧ when_ ≤ 1000) :
    Calls Tryz.prog 65 #[ptr b, cmdV cm A0 c0, .int .i64 when_] w fun e w' => ∃ A c, e = .returned (resV (doF s cm when_).1 A c) ∧ Sat g w' (rowA 109 2 (.slice A (doF s cm when_).1.outs.length c) (doF s cm when_).1.outs.length ((doF s cm when_).1.outs.flatMap outC) :: stateA b (doF s cm when_).2 :: rowA 71 6 (.slice A0 cm.ops.length c0) cm.ops.length (cm.ops.flatMap opC) :: L) := by
  have HR : Hid (∀ r s2, doF s cm when_ = (r, s2) → ∀ w' A c, Sat g w' (rowA 109 2 (.slice A r.outs.length c) r.outs.length (r.outs.flatMap outC) :: stateA b s2 :: rowA 71 6 (.slice A0 cm.ops.length c0) cm.ops.length (cm.ops.flatMap opC) :: L) → ∃ A' c', Ending.returned (resV r A c) = .returned (resV (doF s cm when_).1 A' c') ∧ Sat g w' (rowA 109 2 (.slice A' (doF s cm when_).1.outs.length c') (doF s cm when_).1.outs.length ((doF s cm when_).1.outs.flatMap outC) :: stateA b (doF s cm when_).2 :: rowA 71 6 (.slice A0 cm.ops.length c0) cm.ops.length (cm.ops.flatMap opC) :: L)) := hide fun r s2 e w' A c S' => by rw [e]; exact ⟨A, c, rfl, S'⟩
  have HG0 := hide hG
  have hn : n ≤ 900 := by rcases hn0 with h | h <;> omega
  have HN0 := hide hn0
  clear hn0
  have HI := hide hi
  have HC := hide hc
  obtain ⟨k0, k5, hss, hrq, h4, hok, hpa⟩ := cmdR_at hc
  obtain ⟨kd, ss, rq, nt, ops, pa, ki, oc⟩ := cm
  simp only at S0 k0 k5 hss hrq h4 hok hpa HC HR
  have S2 := (S0.box #[.int .i64 kd, .int .i64 ss, .int .i64 rq, .int .i64 nt, .slice A0 ops.length c0, .string (S pa), .bool ki, .bool oc] 35 rfl).box #[.int .i64 0, .int .i64 0, .slice none 0 0, .int .i64 0] 41 (b := w.heap.size + 1) (by simp)
  go_enter Tryz.func65, Tryz.ntmps65
  go_upto_region 1 with fail
  generalize (w.alloc (.cells #[.int .i64 kd, .int .i64 ss, .int .i64 rq, .int .i64 nt, .slice A0 ops.length c0, .string (S pa), .bool ki, .bool oc] 35)).alloc (.cells #[.int .i64 0, .int .i64 0, .slice none 0 0, .int .i64 0] 41) = w1 at *
  generalize w.heap.size + 1 = zb at *
  generalize w.heap.size = cb at *
  by_cases h3 : kd = 3
  · subst h3
    have S3 : Sat g w1 (stateA b s :: rowA 71 6 (.slice A0 ops.length c0) ops.length (ops.flatMap opC) :: cellsA zb 41 #[.int .i64 0, .int .i64 0, .slice none 0 0, .int .i64 0] :: cellsA cb 35 #[.int .i64 3, .int .i64 ss, .int .i64 rq, .int .i64 nt, .slice A0 ops.length c0, .string (S pa), .bool ki, .bool oc] :: L) := ((S2.bring 3).bring 3)
    have hup := update_state (cm := ⟨3, ss, rq, nt, ops, pa, ki, oc⟩) S3 HG0.out (by simp [hm]) HI.out HN0.out hok h4 hss when_ hw
    have HE : Hid (doF s ⟨3, ss, rq, nt, ops, pa, ki, oc⟩ when_ = ((updateF s ⟨3, ss, rq, nt, ops, pa, ki, oc⟩ when_).1, (updateF s ⟨3, ss, rq, nt, ops, pa, ki, oc⟩ when_).2)) := hide (by unfold doF; rw [if_pos rfl])
    generalize updateF s ⟨3, ss, rq, nt, ops, pa, ki, oc⟩ when_ = U at *
    obtain ⟨⟨u1, u2, u3, u4⟩, s2⟩ := U
    simp only at hup HE
    have HUP := hide hup
    clear hup
    have x0 := Sat.cell_of S3 (t := 35) (cs := #[.int .i64 3, .int .i64 ss, .int .i64 rq, .int .i64 nt, .slice A0 ops.length c0, .string (S pa), .bool ki, .bool oc]) (b := cb) (by simp) 0 _ rfl
    have x1 := Sat.cell_of S3 (t := 35) (cs := #[.int .i64 3, .int .i64 ss, .int .i64 rq, .int .i64 nt, .slice A0 ops.length c0, .string (S pa), .bool ki, .bool oc]) (b := cb) (by simp) 1 _ rfl
    have x2 := Sat.cell_of S3 (t := 35) (cs := #[.int .i64 3, .int .i64 ss, .int .i64 rq, .int .i64 nt, .slice A0 ops.length c0, .string (S pa), .bool ki, .bool oc]) (b := cb) (by simp) 2 _ rfl
    have x3 := Sat.cell_of S3 (t := 35) (cs := #[.int .i64 3, .int .i64 ss, .int .i64 rq, .int .i64 nt, .slice A0 ops.length c0, .string (S pa), .bool ki, .bool oc]) (b := cb) (by simp) 3 _ rfl
    have x4 := Sat.cell_of S3 (t := 35) (cs := #[.int .i64 3, .int .i64 ss, .int .i64 rq, .int .i64 nt, .slice A0 ops.length c0, .string (S pa), .bool ki, .bool oc]) (b := cb) (by simp) 4 _ rfl
    have x5 := Sat.cell_of S3 (t := 35) (cs := #[.int .i64 3, .int .i64 ss, .int .i64 rq, .int .i64 nt, .slice A0 ops.length c0, .string (S pa), .bool ki, .bool oc]) (b := cb) (by simp) 5 _ rfl
    have x6 := Sat.cell_of S3 (t := 35) (cs := #[.int .i64 3, .int .i64 ss, .int .i64 rq, .int .i64 nt, .slice A0 ops.length c0, .string (S pa), .bool ki, .bool oc]) (b := cb) (by simp) 6 _ rfl
    have x7 := Sat.cell_of S3 (t := 35) (cs := #[.int .i64 3, .int .i64 ss, .int .i64 rq, .int .i64 nt, .slice A0 ops.length c0, .string (S pa), .bool ki, .bool oc]) (b := cb) (by simp) 7 _ rfl
    clear S2
    go_wp2_with fail
    refine HUP.out.mono ?_
    rintro e w2 ⟨A, c, rfl, S4⟩
    clear S3 x0 x1 x2 x3 x4 x5 x6 x7
    go_wp2_with ((show Go.wpList _ _ _ (Oper.mk none (Op.store _ _ _) _ _ _ _ :: _) _ _); refine wpList_sstore rfl _ (.tmp 6) (.tmp 14) rfl (S4.bring 3) _ rfl rfl (by kernel_rfl) rfl (by simp [Value.oneCell']) ?_; intro S5)
    refine bodyPost_ret (results_cell_row Tryz.results65 _ _ zb _ _ _ _ rfl S5.cells_get Tryz.underlying41 rfl (by kernel_rfl)) rfl ?_
    exact HR.out ⟨u1, u2, u3, u4⟩ s2 HE.out _ A c ((S5.drop.bring 3).drop)
  · by_cases h4k : kd = 4
    · subst h4k
      obtain ⟨t, ts, bk, S3'⟩ := ((S2.bring 2)).stateOpen
      have S3 : Sat g w1 (cellsA zb 41 #[.int .i64 0, .int .i64 0, .slice none 0 0, .int .i64 0] :: cellsA cb 35 #[.int .i64 4, .int .i64 ss, .int .i64 rq, .int .i64 nt, .slice A0 ops.length c0, .string (S pa), .bool ki, .bool oc] :: cellsA b 78 #[ptr t, ptr ts, ptr bk, .int .i64 s.at_] :: treeA t s.tree :: tblA ts s.tab :: bookA bk s.book :: rowA 71 6 (.slice A0 ops.length c0) ops.length (ops.flatMap opC) :: L) := ((S3'.bring 5).bring 5)
      have HADD : Hid (∀ (w' : World) (L' : List Asn), Sat g w' (bookA bk s.book :: L') → oldA g ∈ L' → Calls Tryz.prog 81 #[ptr bk, watV ⟨ss, pa, ki, oc⟩] w' fun e w2 => e = .returned (.int .i64 (addF s.book ⟨ss, pa, ki, oc⟩).1) ∧ Sat g w2 (bookA bk (addF s.book ⟨ss, pa, ki, oc⟩).2 :: L')) := hide fun w' L' S' h => add_book S' (HG0.out.at S' (by simp [h])) ⟨ss, pa, ki, oc⟩ (by simp only; omega) (HI.out.book.sorted.parts _) (by have := HI.out.book.ws; omega)
      have HE : Hid (doF s ⟨4, ss, rq, nt, ops, pa, ki, oc⟩ when_ = (⟨(addF s.book ⟨ss, pa, ki, oc⟩).1, 0, [], when_⟩, ⟨s.tree, s.tab, (addF s.book ⟨ss, pa, ki, oc⟩).2, s.at_⟩)) := hide (by unfold doF; rw [if_neg h3, if_pos rfl])
      generalize addF s.book ⟨ss, pa, ki, oc⟩ = AD at *
      obtain ⟨a1, a2⟩ := AD
      simp only at HADD HE
      have HX : Hid (∀ (w' : World) (L' : List Asn), Sat g w' L' → cellsA b 78 #[ptr t, ptr ts, ptr bk, .int .i64 s.at_] ∈ L' → cellsA cb 35 #[.int .i64 4, .int .i64 ss, .int .i64 rq, .int .i64 nt, .slice A0 ops.length c0, .string (S pa), .bool ki, .bool oc] ∈ L' →  w'.cell? ⟨b, 2, none⟩ = some (ptr bk) ∧ w'.cell? ⟨cb, 1, none⟩ = some (.int .i64 ss) ∧ w'.cell? ⟨cb, 5, none⟩ = some (.string (S pa)) ∧ w'.cell? ⟨cb, 6, none⟩ = some (.bool ki) ∧ w'.cell? ⟨cb, 7, none⟩ = some (.bool oc)) := hide fun w' L' S' h1 h2 => ⟨S'.cell_of h1 2 _ rfl, S'.cell_of h2 1 _ rfl, S'.cell_of h2 5 _ rfl, S'.cell_of h2 6 _ rfl, S'.cell_of h2 7 _ rfl⟩
      have x0 := S3.p1.cell 0 _ rfl
      clear S2 S3'
      go_upto_region 5 with fail
      refine wp_region_held_drew (S := (fun w' => w'.cell? ⟨b, 2, none⟩ = some (ptr bk) ∧ w'.cell? ⟨cb, 1, none⟩ = some (.int .i64 ss) ∧ w'.cell? ⟨cb, 5, none⟩ = some (.string (S pa)) ∧ w'.cell? ⟨cb, 6, none⟩ = some (.bool ki) ∧ w'.cell? ⟨cb, 7, none⟩ = some (.bool oc))) (by kernel_rfl) ?_ (fun hHeld => ?_)
      · exact HX.out _ _ S3.drew (by simp) (by simp)
      refine wpAnyH_take (i := 0) (oi := _) (v := ?_) rfl (by kernel_rfl) (by kernel_rfl) (by kernel_rfl) (fun _ _ _ h => h) (Or.inl ⟨by rfl, ?_⟩) hHeld ?_
      rotate_left
      · intro w' hSw
        (try dsimp only at hSw)
        go_simp
        try with_reducible rfl
      try simp only [Act.put, List.setIfInBounds_toArray, List.set_cons_zero, List.set_cons_succ, List.getElem_toArray, List.getElem_cons_zero, List.getElem_cons_succ]
      refine wpAnyH_take (i := 1) (oi := _) (v := ?_) rfl (by kernel_rfl) (by kernel_rfl) (by kernel_rfl) (fun _ _ _ h => h) (Or.inl ⟨by rfl, ?_⟩) hHeld ?_
      rotate_left
      · intro w' hSw
        (try dsimp only at hSw)
        go_simp
        try with_reducible rfl
      try simp only [Act.put, List.setIfInBounds_toArray, List.set_cons_zero, List.set_cons_succ, List.getElem_toArray, List.getElem_cons_zero, List.getElem_cons_succ]
      refine wpAnyH_take (i := 2) (oi := _) (v := ?_) rfl (by kernel_rfl) (by kernel_rfl) (by kernel_rfl) (fun _ _ _ h => h) (Or.inl ⟨by rfl, ?_⟩) hHeld ?_
      rotate_left
      · intro w' hSw
        (try dsimp only at hSw)
        go_simp
        try with_reducible rfl
      try simp only [Act.put, List.setIfInBounds_toArray, List.set_cons_zero, List.set_cons_succ, List.getElem_toArray, List.getElem_cons_zero, List.getElem_cons_succ]
      refine wpAnyH_take (i := 3) (oi := _) (v := ?_) rfl (by kernel_rfl) (by kernel_rfl) (by kernel_rfl) (fun _ _ _ h => h) (Or.inl ⟨by rfl, ?_⟩) hHeld ?_
      rotate_left
      · intro w' hSw
        (try dsimp only at hSw)
        go_simp
        try with_reducible rfl
      try simp only [Act.put, List.setIfInBounds_toArray, List.set_cons_zero, List.set_cons_succ, List.getElem_toArray, List.getElem_cons_zero, List.getElem_cons_succ]
      refine wpAnyH_take (i := 4) (oi := _) (v := ?_) rfl (by kernel_rfl) (by kernel_rfl) (by kernel_rfl) (fun _ _ _ h => h) (Or.inl ⟨by rfl, ?_⟩) hHeld ?_
      rotate_left
      · intro w' hSw
        (try dsimp only at hSw)
        go_simp
        try with_reducible rfl
      try simp only [Act.put, List.setIfInBounds_toArray, List.set_cons_zero, List.set_cons_succ, List.getElem_toArray, List.getElem_cons_zero, List.getElem_cons_succ]
      refine wpAnyH_take (i := 5) (oi := _) (v := ?_) rfl (by kernel_rfl) (by kernel_rfl) (by kernel_rfl) (fun _ _ _ h => h) (Or.inl ⟨by rfl, ?_⟩) hHeld ?_
      rotate_left
      · intro w' hSw
        (try dsimp only at hSw)
        go_simp
        try with_reducible rfl
      try simp only [Act.put, List.setIfInBounds_toArray, List.set_cons_zero, List.set_cons_succ, List.getElem_toArray, List.getElem_cons_zero, List.getElem_cons_succ]
      refine wpAnyH_take (i := 6) (oi := _) (v := ?_) rfl (by kernel_rfl) (by kernel_rfl) (by kernel_rfl) (fun _ _ _ h => h) (Or.inl ⟨by rfl, ?_⟩) hHeld ?_
      rotate_left
      · intro w' hSw
        (try dsimp only at hSw)
        go_simp
        try with_reducible rfl
      try simp only [Act.put, List.setIfInBounds_toArray, List.set_cons_zero, List.set_cons_succ, List.getElem_toArray, List.getElem_cons_zero, List.getElem_cons_succ]
      refine wpAnyH_take (i := 7) (oi := _) (v := ?_) rfl (by kernel_rfl) (by kernel_rfl) (by kernel_rfl) (fun _ _ _ h => h) (Or.inl ⟨by rfl, ?_⟩) hHeld ?_
      rotate_left
      · intro w' hSw
        (try dsimp only at hSw)
        go_simp
        try with_reducible rfl
      try simp only [Act.put, List.setIfInBounds_toArray, List.set_cons_zero, List.set_cons_succ, List.getElem_toArray, List.getElem_cons_zero, List.getElem_cons_succ]
      refine wpAnyH_take (i := 8) (oi := _) (v := ?_) rfl (by kernel_rfl) (by kernel_rfl) (by kernel_rfl) (fun _ _ _ h => h) (Or.inl ⟨by rfl, ?_⟩) hHeld ?_
      rotate_left
      · intro w' hSw
        (try dsimp only at hSw)
        go_simp
        try with_reducible rfl
      try simp only [Act.put, List.setIfInBounds_toArray, List.set_cons_zero, List.set_cons_succ, List.getElem_toArray, List.getElem_cons_zero, List.getElem_cons_succ]
      refine wpAnyH_take (i := 9) (oi := _) (v := ?_) rfl (by kernel_rfl) (by kernel_rfl) (by kernel_rfl) (fun _ _ _ h => h) (Or.inl ⟨by rfl, ?_⟩) hHeld ?_
      rotate_left
      · intro w' hSw
        (try dsimp only at hSw)
        go_simp
        try with_reducible rfl
      try simp only [Act.put, List.setIfInBounds_toArray, List.set_cons_zero, List.set_cons_succ, List.getElem_toArray, List.getElem_cons_zero, List.getElem_cons_succ]
      refine wpAnyH_take (i := 10) (oi := _) (v := ?_) rfl (by kernel_rfl) (by kernel_rfl) (by kernel_rfl) (fun _ _ _ h => h) (Or.inl ⟨by rfl, ?_⟩) hHeld ?_
      rotate_left
      · intro w' hSw
        (try dsimp only at hSw)
        go_simp
        try with_reducible rfl
      try simp only [Act.put, List.setIfInBounds_toArray, List.set_cons_zero, List.set_cons_succ, List.getElem_toArray, List.getElem_cons_zero, List.getElem_cons_succ]
      refine wpAnyH_take (i := 11) (oi := _) (v := ?_) rfl (by kernel_rfl) (by kernel_rfl) (by kernel_rfl) (fun _ _ _ h => h) (Or.inl ⟨by rfl, ?_⟩) hHeld ?_
      rotate_left
      · intro w' hSw
        (try dsimp only at hSw)
        go_simp
        try with_reducible rfl
      try simp only [Act.put, List.setIfInBounds_toArray, List.set_cons_zero, List.set_cons_succ, List.getElem_toArray, List.getElem_cons_zero, List.getElem_cons_succ]
      refine wpAnyH_take (i := 12) (oi := _) (v := ?_) rfl (by kernel_rfl) (by kernel_rfl) (by kernel_rfl) (fun _ _ _ h => h) (Or.inl ⟨by rfl, ?_⟩) hHeld ?_
      rotate_left
      · intro w' hSw
        (try dsimp only at hSw)
        go_simp
        try with_reducible rfl
      try simp only [Act.put, List.setIfInBounds_toArray, List.set_cons_zero, List.set_cons_succ, List.getElem_toArray, List.getElem_cons_zero, List.getElem_cons_succ]
      refine wpAnyH_take (i := 14) (oi := _) (v := ?_) rfl (by kernel_rfl) (by kernel_rfl) (by kernel_rfl) (fun _ _ _ h => h) (Or.inl ⟨by rfl, ?_⟩) hHeld ?_
      rotate_left
      · intro w' hSw
        (try dsimp only at hSw)
        go_simp
        try with_reducible rfl
      try simp only [Act.put, List.setIfInBounds_toArray, List.set_cons_zero, List.set_cons_succ, List.getElem_toArray, List.getElem_cons_zero, List.getElem_cons_succ]
      refine wpAnyH_ready (rs := [13]) (by kernel_rfl) (by simp) ?_
      refine AllReadyH.cons rfl (fun K hK => ?_) ?_
      · go_simp
        go_at_call 81
        refine (HADD.out _ _ (Sat.bring (Sat.drew S3) 5) (by simp [hm])).mono ?_
        rintro e w2 ⟨rfl, S4⟩
        refine hK.out _ _ ?_ (fun hHeld => ?_)
        · exact HX.out _ _ S4 (by simp) (by simp)
        clear hK K
        try simp only [Act.put, List.setIfInBounds_toArray, List.set_cons_zero, List.set_cons_succ, List.getElem_toArray, List.getElem_cons_zero, List.getElem_cons_succ]
        refine wpAnyH_take (i := 15) (oi := _) (v := ?_) rfl (by kernel_rfl) (by kernel_rfl) (by kernel_rfl) (fun _ _ _ h => h) (Or.inl ⟨by rfl, ?_⟩) hHeld ?_
        rotate_left
        · intro w' hSw
          (try dsimp only at hSw)
          go_simp
          try with_reducible rfl
        try simp only [Act.put, List.setIfInBounds_toArray, List.set_cons_zero, List.set_cons_succ, List.getElem_toArray, List.getElem_cons_zero, List.getElem_cons_succ]
        refine wpAnyH_ready (rs := [16]) (by kernel_rfl) (by simp) ?_
        refine AllReadyH.cons rfl (fun K hK => ?_) ?_
        · refine step_sstore rfl _ (.tmp 6) (.tmp 32) rfl (g := g) (S := (Sat.bring S4 1)) _ rfl rfl (by kernel_rfl) rfl (by simp [Value.oneCell']) ?_
          intro S5
          refine hK.out _ _ ?_ (fun hHeld => ?_)
          · exact HX.out _ _ S5 (by simp) (by simp)
          clear hK K
          try simp only [Act.put, List.setIfInBounds_toArray, List.set_cons_zero, List.set_cons_succ, List.getElem_toArray, List.getElem_cons_zero, List.getElem_cons_succ]
          refine wpAnyH_done (by kernel_rfl) ?_ _
          go_wp2_with fail
          refine bodyPost_ret (results_cell_row Tryz.results65 _ _ zb _ _ _ _ rfl S5.cells_get Tryz.underlying41 rfl (by kernel_rfl)) rfl ?_
          exact HR.out ⟨a1, 0, [], when_⟩ ⟨s.tree, s.tab, a2, s.at_⟩ HE.out _ none 0 ((Sat.stateShut (s := ⟨s.tree, s.tab, a2, s.at_⟩) (((((S5.drop.bring 1).drop.bring 3).bring 3).bring 3))).nilRow _ _)
        exact AllReadyH.nil
      exact AllReadyH.nil
    · have e3 : (kd == 3) = false := by simpa using h3
      have e4 : (kd == 4) = false := by simpa using h4k
      have HE : Hid (doF s ⟨kd, ss, rq, nt, ops, pa, ki, oc⟩ when_ = (⟨0, 0, [], when_⟩, s)) := hide (by unfold doF; rw [if_neg h3, if_neg h4k])
      have x0 := S2.p1.cell 0 _ rfl
      go_wp2_with ((show Go.wpList _ _ _ (Oper.mk none (Op.store _ _ _) _ _ _ _ :: _) _ _); refine wpList_sstore rfl _ (.tmp 6) (.tmp 34) rfl S2 _ rfl rfl (by kernel_rfl) rfl (by simp [Value.oneCell']) ?_; intro S3)
      refine bodyPost_ret (results_cell_row Tryz.results65 _ _ zb _ _ _ _ rfl S3.cells_get Tryz.underlying41 rfl (by kernel_rfl)) rfl ?_
      exact HR.out _ _ HE.out _ none 0 ((S3.drop.drop).nilRow _ _)
end

section
set_option linter.unusedVariables false
set_option linter.unusedSimpArgs false
open Go.RowKit

theorem own_key {T : TreeT} {o : Int} {p : List UInt8} (h : p ∈ ownedF T o) : p ∈ keys T := (sortB_perm _).mem_iff.1 (List.mem_filter.1 h).1

set_option maxRecDepth 100000 in
set_option maxHeartbeats 16000000 in
theorem end_state {g w : World} {L : List Asn} {b : Nat} {s : StT} {M : TreeT} {n : Nat} (S0 : Sat g w (stateA b s :: L)) (hG : GL g) (hm : oldA g ∈ L) (hi : InvS s M n) (hn : n + M.length ≤ 1000) (id when_ : Int) :
    Calls Tryz.prog 64 #[ptr b, .int .i64 id, .int .i64 when_] w fun e w' => e = .returned (.tuple #[]) ∧ Sat g w' (stateA b (endF s id when_) :: L) := by
  have HG0 := hide hG
  obtain ⟨t, ts, bk, S1⟩ := S0.stateOpen
  have hmn := hi.tree.len
  have hml := hi.tree.len_eq
  have how := owned_tree S1.p1 hi.tree.pathsT (by omega) id
  have HE : Hid (endF s id when_ = ⟨(endL when_ (ownedF s.tree id).reverse s.tree s.book).1, (closeF s.tab id).2, dropF (endL when_ (ownedF s.tree id).reverse s.tree s.book).2 id, s.at_⟩) := hide rfl
  have HLN : Hid (∀ p ∈ ownedF s.tree id, p.length ≤ 60) := hide fun p hp => check_len (hi.tree.ok p (hi.tree.keysT.mem_iff.1 (own_key hp))).1
  have HI1 := hide hi.tree
  have HI2 := hide hi.book
  generalize endF s id when_ = EF at *
  have hol : (ownedF s.tree id).length ≤ 60 := by
    have h1 := List.length_filter_le (fun p => decide (((mget s.tree p).getD zN).owner = id ∧ id ≠ 0)) (pathsF s.tree)
    rw [pathsF_length] at h1
    have h2 : (ownedF s.tree id).length ≤ s.tree.length := h1
    omega
  generalize ownedF s.tree id = own at *
  have q0 := S1.cell 0 _ rfl
  clear S0 hG hi
  go_enter Tryz.func64, Tryz.ntmps64
  go_wp2_with fail
  refine how.mono ?_
  rintro e w1 ⟨v, rfl, S2⟩
  obtain ⟨A0, c0, rfl, -⟩ := S2.row.form
  have S3 : Sat g w1 (cellsA b 78 #[ptr t, ptr ts, ptr bk, .int .i64 s.at_] :: treeA t s.tree :: rowA 9 1 (.slice A0 own.length c0) own.length (Ss own) :: tblA ts s.tab :: bookA bk s.book :: L) := ((S2.bring 1).bring 2)
  clear S1 S2 q0 how
  go_wp2_with fail
  go_loopw [7] (fun i wr => ∃ z : Int, i = .int .i64 z ∧ ∃ j : Nat, z = (j : Int) - 1 ∧ j ≤ own.length ∧ ∃ (T' M' : TreeT) (n' : Nat) (B' : BookT), endL when_ own.reverse s.tree s.book = endL when_ (own.take j).reverse T' B' ∧ Mod T' M' n' ∧ InvW B' n' ∧ n' + M'.length ≤ n + M.length ∧ Sat g wr (cellsA b 78 #[ptr t, ptr ts, ptr bk, .int .i64 s.at_] :: treeA t T' :: rowA 9 1 (.slice A0 own.length c0) own.length (Ss own) :: tblA ts s.tab :: bookA bk B' :: L)) (fun i _ => (RowKit.intOf i + 1).toNat)
  case atStart => exact ⟨(own.length : Int) - 1, by go_num, own.length, rfl, Nat.le_refl _, s.tree, M, n, s.book, by rw [List.take_length], HI1.out, HI2.out, Nat.le_refl _, S3⟩
  case round =>
    obtain ⟨z, rfl, j, hz, hj, T', M', n', B', hE, hM', hB', hnn, S4⟩ := hrel
    clear S3
    cases j with
    | zero =>
      have hzn : ¬ ((0 : Int) ≤ z) := by omega
      have hzn2 : z < 0 := by omega
      have hzd : decide ((0 : Int) ≤ z) = false := by simp; omega
      have hes := hB'.es
      have hws := hB'.ws
      have q2 := S4.cell 2 _ rfl
      have HF : Hid (EF = ⟨T', (closeF s.tab id).2, dropF B' id, s.at_⟩) := hide (by rw [HE.out, hE]; rfl)
      clear hE hM' hB' HE
      go_wp2_with fail
      refine (drop_book (S4.bring 4) (by omega) (by omega) id).mono ?_
      rintro e w5 ⟨rfl, S5⟩
      have q1 := S5.p1.cell 1 _ rfl
      clear S4 q2
      go_wp2_with fail
      refine (tbl_close (S5.bring 4) id).mono ?_
      rintro e w6 ⟨rfl, S6⟩
      have HS := hide S6
      clear S5 S6 q1
      go_wp2_with fail
      go_end0
      refine ⟨rfl, ?_⟩
      rw [HF.out]
      exact Sat.stateShut (s := ⟨T', (closeF s.tab id).2, dropF B' id, s.at_⟩) ((((HS.out.bring 4).drop.bring 3).bring 3))
    | succ k =>
      obtain rfl : z = (k : Int) := by omega
      have hk0 : (0 : Int) ≤ (k : Int) := by omega
      have hk1 : (k : Int) < (own.length : Int) := by omega
      obtain ⟨ad, p, rfl, hp, d0⟩ := str_at S4.p2.srcT (show k < own.length by omega)
      have hpl := HLN.out p (List.mem_of_getElem? hp)
      have hts : (own.take (k + 1)).reverse = p :: (own.take k).reverse := by
        obtain ⟨hk, e⟩ := List.getElem?_eq_some_iff.1 hp
        rw [List.take_succ_eq_append_getElem hk, e]
        simp
      rw [hts] at hE
      have hlen := hM'.len_eq
      have hml2 := hM'.len
      have hes := hB'.es
      have hws := hB'.ws
      have hno := hB'.nos
      have HDEL : Hid (∀ (w' : World) (L' : List Asn), Sat g w' (treeA t T' :: L') → oldA g ∈ L' → Calls Tryz.prog 76 #[ptr t, .string (S p), .int .i64 (-1)] w' fun e w2 => e = .returned (.int .i64 (deleteF T' p (-1)).1) ∧ Sat g w2 (treeA t (deleteF T' p (-1)).2 :: L')) := hide fun w' L' S' h => delete_tree S' HG0.out h hM'.pathsT (by omega) p (-1) (by omega) (fun a ha => by have := hM'.at_ (by rw [← hM'.get]; exact ha); exact ⟨this.2.2.1, by have := this.2.2.2.1; omega⟩)
      have HFIRE : Hid (∀ (w' : World) (L' : List Asn), Sat g w' (bookA bk B' :: L') → Calls Tryz.prog 77 #[ptr bk, .string (S p), .int .i64 2, .int .i64 when_] w' fun e w2 => e = .returned (.tuple #[]) ∧ Sat g w2 (bookA bk (fireF B' p 2 when_) :: L')) := hide fun w' L' S' => fire_book S' (by omega) (by omega) (hno.mono (by omega)) p 2 when_ (by omega)
      have HM2 : Hid (((deleteF T' p (-1)).1 = 0 → ∃ M2, Mod (deleteF T' p (-1)).2 M2 (n' + 1) ∧ n' + 1 + M2.length ≤ n + M.length) ∧ ((deleteF T' p (-1)).1 ≠ 0 → (deleteF T' p (-1)).2 = T')) := hide ⟨fun h0 => by
        have h3 := (hM'.delete p (-1)).2
        have h4 := delete_len hM' h0
        have h6 := h3.len_eq
        exact ⟨_, h3, by omega⟩, fun h0 => delete_bad h0⟩
      have HB2 := hide (fire_inv hB' p 2 when_)
      have HB3 := hide hB'
      have HM3 := hide hM'
      have HE2 : Hid (endL when_ own.reverse s.tree s.book = if (deleteF T' p (-1)).1 = 0 then endL when_ (own.take k).reverse (deleteF T' p (-1)).2 (fireF B' p 2 when_) else endL when_ (own.take k).reverse (deleteF T' p (-1)).2 B') := hide (by rw [hE]; rfl)
      clear hE hts hM' hB' hno hes hws hlen hml2
      generalize deleteF T' p (-1) = D at *
      obtain ⟨d1, d2⟩ := D
      simp only at HDEL HM2 HE2
      have HX : Hid (∀ (w' : World) (L' : List Asn), Sat g w' L' → cellsA b 78 #[ptr t, ptr ts, ptr bk, .int .i64 s.at_] ∈ L' → rowA 9 1 (.slice (some ad) own.length c0) own.length (Ss own) ∈ L' → w'.cell? ⟨b, 0, none⟩ = some (ptr t) ∧ w'.cell? ⟨b, 2, none⟩ = some (ptr bk) ∧ w'.cell? (ad.add k) = some (.string (S p))) := hide fun w' L' S' h1 h2 => by
        refine ⟨S'.cell_of h1 0 _ rfl, S'.cell_of h1 2 _ rfl, ?_⟩
        obtain ⟨L2, S2⟩ := S'.mem_ h2
        obtain ⟨ad', p', e1, e2, e3⟩ := str_at S2.srcT (show k < own.length by omega)
        injection e1 with e1
        subst e1
        rw [hp] at e2
        injection e2 with e2
        subst e2
        exact e3
      obtain ⟨q0, q1, q2⟩ := HX.out _ _ S4 (by simp) (by simp)
      clear d0 hz
      go_upto_region 4 with fail
      go_region_held3 (fun v' => (v'.cell? ⟨b, 0, none⟩ = some (ptr t) ∧ v'.cell? ⟨b, 2, none⟩ = some (ptr bk) ∧ v'.cell? (ad.add k) = some (.string (S p)))) (first
        | (go_keep; done)
        | exact HX.out _ _ (Sat.keep S5 (by (repeat (first | exact Keeps.refl _ _ | refine Keeps.alloc ?_ _ | refine Keeps.drew ?_ | refine Keeps.drewN ?_ _)))) (by simp) (by simp)
        | exact HX.out _ _ (Sat.keep S4 (by (repeat (first | exact Keeps.refl _ _ | refine Keeps.alloc ?_ _ | refine Keeps.drew ?_ | refine Keeps.drewN ?_ _)))) (by simp) (by simp)) (first
        | (go_at_call 76; refine (HDEL.out _ _ (by (repeat (first | refine Sat.drew ?_ | refine Sat.drewN ?_ _)); exact S4.p1) (by simp [hm])).mono ?_; rintro e w5 ⟨rfl, S5⟩; obtain ⟨q0, q1, q2⟩ := HX.out _ _ S5 (by simp) (by simp)))
      all_goals
        clear S4 HDEL
        by_cases hd : d1 = 0
        · subst hd
          obtain ⟨M2, hM2, hn2⟩ := HM2.out.1 rfl
          go_upto_region 5 with fail
          go_region_held3 (fun v' => (v'.cell? ⟨b, 0, none⟩ = some (ptr t) ∧ v'.cell? ⟨b, 2, none⟩ = some (ptr bk) ∧ v'.cell? (ad.add k) = some (.string (S p)))) (first
            | (go_keep; done)
            | exact HX.out _ _ (Sat.keep S6 (by (repeat (first | exact Keeps.refl _ _ | refine Keeps.alloc ?_ _ | refine Keeps.drew ?_ | refine Keeps.drewN ?_ _)))) (by simp) (by simp)
            | exact HX.out _ _ (Sat.keep S5 (by (repeat (first | exact Keeps.refl _ _ | refine Keeps.alloc ?_ _ | refine Keeps.drew ?_ | refine Keeps.drewN ?_ _)))) (by simp) (by simp)) (first
            | (go_at_call 77; refine (HFIRE.out _ _ (by (repeat (first | refine Sat.drew ?_ | refine Sat.drewN ?_ _)); exact S5.bring 4)).mono ?_; rintro e w6 ⟨rfl, S6⟩; obtain ⟨q0, q1, q2⟩ := HX.out _ _ S6 (by simp) (by simp)))
          all_goals
            have S7 : Sat g w6 (cellsA b 78 #[ptr t, ptr ts, ptr bk, .int .i64 s.at_] :: treeA t d2 :: rowA 9 1 (.slice (some ad) own.length c0) own.length (Ss own) :: tblA ts s.tab :: bookA bk (fireF B' p 2 when_) :: L) := ((((S6.bring 4).bring 4).bring 3).bring 4)
            clear S5 S6 HX q0 q1 q2 HFIRE
            go_wp2_with fail
            go_roundw
            case rel => exact ⟨(k : Int) - 1, by go_num, k, rfl, by omega, d2, M2, n' + 1, fireF B' p 2 when_, by have := HE2.out; first | exact this | rwa [if_pos rfl] at this, hM2, HB2.out, hn2, S7⟩
            case measure => simp [RowKit.intOf]; try omega
        · have hd2 : (d1 == 0) = false := by simpa using hd
          obtain rfl := HM2.out.2 hd
          have S7 : Sat g w5 (cellsA b 78 #[ptr t, ptr ts, ptr bk, .int .i64 s.at_] :: treeA t d2 :: rowA 9 1 (.slice (some ad) own.length c0) own.length (Ss own) :: tblA ts s.tab :: bookA bk B' :: L) := S5.p1
          clear S5 HX q0 q1 q2 HFIRE
          go_wp2_with fail
          go_roundw
          case rel => exact ⟨(k : Int) - 1, by go_num, k, rfl, by omega, d2, M', n', B', by have := HE2.out; first | exact this | rwa [if_neg hd] at this, HM3.out, HB3.out, hnn, S7⟩
          case measure => simp [RowKit.intOf]; try omega
end

section
set_option linter.unusedVariables false
set_option linter.unusedSimpArgs false
open Go.RowKit

theorem seen_len {m : Tab} (h : ∀ p ∈ m, p.2.2.length ≤ 400) (id rq : Int) : (seenF m id rq).1.length ≤ 400 := by
  unfold seenF
  cases hm : mget m id with
  | none => simp
  | some v =>
    have := h _ (mget_mem hm)
    simp only at this ⊢
    repeat' split
    all_goals first | exact this | simp
theorem resB_len (r : ResT) : (resB r).length ≤ 24 + 65543 * r.outs.length := by
  have := outsB_le r.outs
  unfold resB
  rw [List.length_append, nums_length]
  simp only [List.length_cons, List.length_nil]
  omega

set_option maxRecDepth 100000 in
set_option maxHeartbeats 16000000 in
theorem cmd_state {g w : World} {L : List Asn} {b : Nat} {s : StT} {M : TreeT} {n : Nat} {cm : CmdT} {A0 : Option Addr} {c0 : Nat} (S0 : Sat g w (stateA b s :: rowA 71 6 (.slice A0 cm.ops.length c0) cm.ops.length (cm.ops.flatMap opC) :: L)) (hG : GL g) (hm : oldA g ∈ L)
    (hi : InvS s M n) (hn0 : n ≤ 90 ∨ (n ≤ 900 ∧ TabE g)) (hc : cmdR cm = true) (when_ : Int) (hw : 0 ≤ when_ ∧ when_ ≤ 1000) :
    Calls Tryz.prog 41 #[ptr b, cmdV cm A0 c0, .int .i64 when_] w fun e w' => ∃ A c, e = .returned (resV (cmdF s cm when_).1 A c) ∧ Sat g w' (rowA 109 2 (.slice A (cmdF s cm when_).1.outs.length c) (cmdF s cm when_).1.outs.length ((cmdF s cm when_).1.outs.flatMap outC) :: stateA b (cmdF s cm when_).2 :: rowA 71 6 (.slice A0 cm.ops.length c0) cm.ops.length (cm.ops.flatMap opC) :: L) := by
  have HR : Hid (∀ r s2, cmdF s cm when_ = (r, s2) → ∀ w' A c, Sat g w' (rowA 109 2 (.slice A r.outs.length c) r.outs.length (r.outs.flatMap outC) :: stateA b s2 :: rowA 71 6 (.slice A0 cm.ops.length c0) cm.ops.length (cm.ops.flatMap opC) :: L) → ∃ A' c', Ending.returned (resV r A c) = .returned (resV (cmdF s cm when_).1 A' c') ∧ Sat g w' (rowA 109 2 (.slice A' (cmdF s cm when_).1.outs.length c') (cmdF s cm when_).1.outs.length ((cmdF s cm when_).1.outs.flatMap outC) :: stateA b (cmdF s cm when_).2 :: rowA 71 6 (.slice A0 cm.ops.length c0) cm.ops.length (cm.ops.flatMap opC) :: L)) := hide fun r s2 e w' A c S' => by rw [e]; exact ⟨A, c, rfl, S'⟩
  have HG0 := hide hG
  have hn : n ≤ 900 := by rcases hn0 with h | h <;> omega
  have HN0 := hide hn0
  clear hn0
  have HI := hide hi
  have HC := hide hc
  obtain ⟨k0, k5, hss, hrq, h4, hok, hpa⟩ := cmdR_at hc
  obtain ⟨kd, ss, rq, nt, ops, pa, ki, oc⟩ := cm
  simp only at S0 k0 k5 hss hrq h4 hok hpa HC HR
  have S2 := (S0.box #[.int .i64 kd, .int .i64 ss, .int .i64 rq, .int .i64 nt, .slice A0 ops.length c0, .string (S pa), .bool ki, .bool oc] 35 rfl).box #[.int .i64 0, .int .i64 0, .slice none 0 0, .int .i64 0] 41 (b := w.heap.size + 1) (by simp)
  go_enter Tryz.func41, Tryz.ntmps41
  go_upto_region 1 with fail
  generalize (w.alloc (.cells #[.int .i64 kd, .int .i64 ss, .int .i64 rq, .int .i64 nt, .slice A0 ops.length c0, .string (S pa), .bool ki, .bool oc] 35)).alloc (.cells #[.int .i64 0, .int .i64 0, .slice none 0 0, .int .i64 0] 41) = w1 at *
  generalize w.heap.size + 1 = zb at *
  generalize w.heap.size = cb at *
  by_cases h0 : kd = 0
  · subst h0
    have HE : Hid (cmdF s ⟨0, ss, rq, nt, ops, pa, ki, oc⟩ when_ = (⟨0, 0, [], when_⟩, s)) := hide (by unfold cmdF; rw [if_pos rfl])
    have x0 := S2.p1.cell 0 _ rfl
    go_wp2_with ((show Go.wpList _ _ _ (Oper.mk none (Op.store _ _ _) _ _ _ _ :: _) _ _); refine wpList_sstore rfl _ (.tmp 6) (.tmp 18) rfl S2 _ rfl rfl (by kernel_rfl) rfl (by simp [Value.oneCell']) ?_; intro S3)
    refine bodyPost_ret (results_cell_row Tryz.results41 _ _ zb _ _ _ _ rfl S3.cells_get Tryz.underlying41 rfl (by kernel_rfl)) rfl ?_
    exact HR.out _ _ HE.out _ none 0 ((S3.drop.drop).nilRow _ _)
  by_cases h1 : kd = 1
  · subst h1
    obtain ⟨t, ts, bk, S3'⟩ := ((S2.bring 2)).stateOpen
    have S3 : Sat g w1 (cellsA zb 41 #[.int .i64 0, .int .i64 0, .slice none 0 0, .int .i64 0] :: cellsA cb 35 #[.int .i64 1, .int .i64 ss, .int .i64 rq, .int .i64 nt, .slice A0 ops.length c0, .string (S pa), .bool ki, .bool oc] :: cellsA b 78 #[ptr t, ptr ts, ptr bk, .int .i64 s.at_] :: treeA t s.tree :: tblA ts s.tab :: bookA bk s.book :: rowA 71 6 (.slice A0 ops.length c0) ops.length (ops.flatMap opC) :: L) := ((S3'.bring 5).bring 5)
    have HOP : Hid (∀ (w' : World) (L' : List Asn), Sat g w' (tblA ts s.tab :: L') → Calls Tryz.prog 62 #[ptr ts, .int .i64 ss] w' fun e w2 => e = .returned (.int .i64 (openF s.tab ss).1) ∧ Sat g w2 (tblA ts (openF s.tab ss).2 :: L')) := hide fun w' L' S' => tbl_open S' ss
    have HE : Hid (cmdF s ⟨1, ss, rq, nt, ops, pa, ki, oc⟩ when_ = (⟨(openF s.tab ss).1, 0, [], when_⟩, ⟨s.tree, (openF s.tab ss).2, s.book, s.at_⟩)) := hide (by unfold cmdF; rw [if_neg h0, if_pos rfl])
    generalize openF s.tab ss = AD at *
    obtain ⟨a1, a2⟩ := AD
    simp only at HOP HE
    have HX : Hid (∀ (w' : World) (L' : List Asn), Sat g w' L' → cellsA b 78 #[ptr t, ptr ts, ptr bk, .int .i64 s.at_] ∈ L' → cellsA cb 35 #[.int .i64 1, .int .i64 ss, .int .i64 rq, .int .i64 nt, .slice A0 ops.length c0, .string (S pa), .bool ki, .bool oc] ∈ L' → w'.cell? ⟨b, 1, none⟩ = some (ptr ts) ∧ w'.cell? ⟨cb, 1, none⟩ = some (.int .i64 ss)) := hide fun w' L' S' h0 h1 => ⟨S'.cell_of h0 1 _ rfl, S'.cell_of h1 1 _ rfl⟩
    have x0 := S3.p1.cell 0 _ rfl
    clear S2 S3'
    go_upto_region 5 with fail
    refine wp_region_held_drew (S := (fun w' => w'.cell? ⟨b, 1, none⟩ = some (ptr ts) ∧ w'.cell? ⟨cb, 1, none⟩ = some (.int .i64 ss))) (by kernel_rfl) ?_ (fun hHeld => ?_)
    · exact HX.out _ _ S3.drew (by simp) (by simp)
    refine wpAnyH_take (i := 0) (oi := _) (v := ?_) rfl (by kernel_rfl) (by kernel_rfl) (by kernel_rfl) (fun _ _ _ h => h) (Or.inl ⟨by rfl, ?_⟩) hHeld ?_
    rotate_left
    · intro w' hSw
      (try dsimp only at hSw)
      go_simp
      try with_reducible rfl
    try simp only [Act.put, List.setIfInBounds_toArray, List.set_cons_zero, List.set_cons_succ, List.getElem_toArray, List.getElem_cons_zero, List.getElem_cons_succ]
    refine wpAnyH_take (i := 1) (oi := _) (v := ?_) rfl (by kernel_rfl) (by kernel_rfl) (by kernel_rfl) (fun _ _ _ h => h) (Or.inl ⟨by rfl, ?_⟩) hHeld ?_
    rotate_left
    · intro w' hSw
      (try dsimp only at hSw)
      go_simp
      try with_reducible rfl
    try simp only [Act.put, List.setIfInBounds_toArray, List.set_cons_zero, List.set_cons_succ, List.getElem_toArray, List.getElem_cons_zero, List.getElem_cons_succ]
    refine wpAnyH_take (i := 2) (oi := _) (v := ?_) rfl (by kernel_rfl) (by kernel_rfl) (by kernel_rfl) (fun _ _ _ h => h) (Or.inl ⟨by rfl, ?_⟩) hHeld ?_
    rotate_left
    · intro w' hSw
      (try dsimp only at hSw)
      go_simp
      try with_reducible rfl
    try simp only [Act.put, List.setIfInBounds_toArray, List.set_cons_zero, List.set_cons_succ, List.getElem_toArray, List.getElem_cons_zero, List.getElem_cons_succ]
    refine wpAnyH_take (i := 3) (oi := _) (v := ?_) rfl (by kernel_rfl) (by kernel_rfl) (by kernel_rfl) (fun _ _ _ h => h) (Or.inl ⟨by rfl, ?_⟩) hHeld ?_
    rotate_left
    · intro w' hSw
      (try dsimp only at hSw)
      go_simp
      try with_reducible rfl
    try simp only [Act.put, List.setIfInBounds_toArray, List.set_cons_zero, List.set_cons_succ, List.getElem_toArray, List.getElem_cons_zero, List.getElem_cons_succ]
    refine wpAnyH_take (i := 4) (oi := _) (v := ?_) rfl (by kernel_rfl) (by kernel_rfl) (by kernel_rfl) (fun _ _ _ h => h) (Or.inl ⟨by rfl, ?_⟩) hHeld ?_
    rotate_left
    · intro w' hSw
      (try dsimp only at hSw)
      go_simp
      try with_reducible rfl
    try simp only [Act.put, List.setIfInBounds_toArray, List.set_cons_zero, List.set_cons_succ, List.getElem_toArray, List.getElem_cons_zero, List.getElem_cons_succ]
    refine wpAnyH_take (i := 5) (oi := _) (v := ?_) rfl (by kernel_rfl) (by kernel_rfl) (by kernel_rfl) (fun _ _ _ h => h) (Or.inl ⟨by rfl, ?_⟩) hHeld ?_
    rotate_left
    · intro w' hSw
      (try dsimp only at hSw)
      go_simp
      try with_reducible rfl
    try simp only [Act.put, List.setIfInBounds_toArray, List.set_cons_zero, List.set_cons_succ, List.getElem_toArray, List.getElem_cons_zero, List.getElem_cons_succ]
    refine wpAnyH_take (i := 7) (oi := _) (v := ?_) rfl (by kernel_rfl) (by kernel_rfl) (by kernel_rfl) (fun _ _ _ h => h) (Or.inl ⟨by rfl, ?_⟩) hHeld ?_
    rotate_left
    · intro w' hSw
      (try dsimp only at hSw)
      go_simp
      try with_reducible rfl
    try simp only [Act.put, List.setIfInBounds_toArray, List.set_cons_zero, List.set_cons_succ, List.getElem_toArray, List.getElem_cons_zero, List.getElem_cons_succ]
    refine wpAnyH_ready (rs := [6]) (by kernel_rfl) (by simp) ?_
    refine AllReadyH.cons rfl (fun K hK => ?_) ?_
    · go_simp
      go_at_call 62
      refine (HOP.out _ _ (Sat.bring (Sat.drew S3) 4)).mono ?_
      rintro e w2 ⟨rfl, S4⟩
      refine hK.out _ _ ?_ (fun hHeld => ?_)
      · exact HX.out _ _ S4 (by simp) (by simp)
      clear hK K
      try simp only [Act.put, List.setIfInBounds_toArray, List.set_cons_zero, List.set_cons_succ, List.getElem_toArray, List.getElem_cons_zero, List.getElem_cons_succ]
      refine wpAnyH_take (i := 8) (oi := _) (v := ?_) rfl (by kernel_rfl) (by kernel_rfl) (by kernel_rfl) (fun _ _ _ h => h) (Or.inl ⟨by rfl, ?_⟩) hHeld ?_
      rotate_left
      · intro w' hSw
        (try dsimp only at hSw)
        go_simp
        try with_reducible rfl
      try simp only [Act.put, List.setIfInBounds_toArray, List.set_cons_zero, List.set_cons_succ, List.getElem_toArray, List.getElem_cons_zero, List.getElem_cons_succ]
      refine wpAnyH_ready (rs := [9]) (by kernel_rfl) (by simp) ?_
      refine AllReadyH.cons rfl (fun K hK => ?_) ?_
      · refine step_sstore rfl _ (.tmp 6) (.tmp 29) rfl (g := g) (S := (Sat.bring S4 1)) _ rfl rfl (by kernel_rfl) rfl (by simp [Value.oneCell']) ?_
        intro S5
        refine hK.out _ _ ?_ (fun hHeld => ?_)
        · exact HX.out _ _ S5 (by simp) (by simp)
        clear hK K
        try simp only [Act.put, List.setIfInBounds_toArray, List.set_cons_zero, List.set_cons_succ, List.getElem_toArray, List.getElem_cons_zero, List.getElem_cons_succ]
        refine wpAnyH_done (by kernel_rfl) ?_ _
        go_wp2_with fail
        refine bodyPost_ret (results_cell_row Tryz.results41 _ _ zb _ _ _ _ rfl S5.cells_get Tryz.underlying41 rfl (by kernel_rfl)) rfl ?_
        exact HR.out ⟨a1, 0, [], when_⟩ ⟨s.tree, a2, s.book, s.at_⟩ HE.out _ none 0 ((Sat.stateShut (s := ⟨s.tree, a2, s.book, s.at_⟩) ((((S5.drop.bring 1).drop.bring 2).bring 2))).nilRow _ _)
      exact AllReadyH.nil
    exact AllReadyH.nil
  have e0 : (kd == 0) = false := by simpa using h0
  have e1 : (kd == 1) = false := by simpa using h1
  obtain ⟨t, ts, bk, S3'⟩ := ((S2.bring 2)).stateOpen
  have S3 : Sat g w1 (cellsA zb 41 #[.int .i64 0, .int .i64 0, .slice none 0 0, .int .i64 0] :: cellsA cb 35 #[.int .i64 kd, .int .i64 ss, .int .i64 rq, .int .i64 nt, .slice A0 ops.length c0, .string (S pa), .bool ki, .bool oc] :: cellsA b 78 #[ptr t, ptr ts, ptr bk, .int .i64 s.at_] :: treeA t s.tree :: tblA ts s.tab :: bookA bk s.book :: rowA 71 6 (.slice A0 ops.length c0) ops.length (ops.flatMap opC) :: L) := ((S3'.bring 5).bring 5)
  have HSEEN : Hid (∀ (w' : World) (L' : List Asn), Sat g w' (tblA ts s.tab :: L') → Calls Tryz.prog 29 #[ptr ts, .int .i64 ss, .int .i64 rq] w' fun e w2 => e = .returned (seenV (seenF s.tab ss rq)) ∧ Sat g w2 (tblA ts s.tab :: L')) := hide fun w' L' S' => tbl_seen S' ss rq
  have hsl := seen_len HI.out.kept ss rq
  have HE0 : Hid (cmdF s ⟨kd, ss, rq, nt, ops, pa, ki, oc⟩ when_ = if (seenF s.tab ss rq).2.2 ≠ 0 then (⟨(seenF s.tab ss rq).2.2, 0, [], when_⟩, s) else if (seenF s.tab ss rq).2.1 = true then ((ansF (seenF s.tab ss rq).1).1, s) else if kd = 2 then (⟨0, 0, [], when_⟩, endF ⟨s.tree, s.tab, notedF s.book ss nt, s.at_⟩ ss when_) else ((doF ⟨s.tree, s.tab, notedF s.book ss nt, s.at_⟩ ⟨kd, ss, rq, nt, ops, pa, ki, oc⟩ when_).1,
      ⟨(doF ⟨s.tree, s.tab, notedF s.book ss nt, s.at_⟩ ⟨kd, ss, rq, nt, ops, pa, ki, oc⟩ when_).2.tree, (keepF (doF ⟨s.tree, s.tab, notedF s.book ss nt, s.at_⟩ ⟨kd, ss, rq, nt, ops, pa, ki, oc⟩ when_).2.tab ss rq (resB (doF ⟨s.tree, s.tab, notedF s.book ss nt, s.at_⟩ ⟨kd, ss, rq, nt, ops, pa, ki, oc⟩ when_).1)).2, (doF ⟨s.tree, s.tab, notedF s.book ss nt, s.at_⟩ ⟨kd, ss, rq, nt, ops, pa, ki, oc⟩ when_).2.book, (doF ⟨s.tree, s.tab, notedF s.book ss nt, s.at_⟩ ⟨kd, ss, rq, nt, ops, pa, ki, oc⟩ when_).2.at_⟩)) := hide (by unfold cmdF; exact (if_neg h0).trans (if_neg h1))
  generalize seenF s.tab ss rq = Q at *
  obtain ⟨q1, q2, q3⟩ := Q
  simp only at HSEEN HE0 hsl
  have HX : Hid (∀ (w' : World) (L' : List Asn), Sat g w' L' → cellsA b 78 #[ptr t, ptr ts, ptr bk, .int .i64 s.at_] ∈ L' → cellsA cb 35 #[.int .i64 kd, .int .i64 ss, .int .i64 rq, .int .i64 nt, .slice A0 ops.length c0, .string (S pa), .bool ki, .bool oc] ∈ L' → w'.cell? ⟨b, 1, none⟩ = some (ptr ts) ∧ w'.cell? ⟨cb, 1, none⟩ = some (.int .i64 ss) ∧ w'.cell? ⟨cb, 2, none⟩ = some (.int .i64 rq)) := hide fun w' L' S' h0 h1 => ⟨S'.cell_of h0 1 _ rfl, S'.cell_of h1 1 _ rfl, S'.cell_of h1 2 _ rfl⟩
  obtain ⟨y0, y1, y2⟩ := HX.out _ _ S3 (by simp) (by simp)
  have x0 := S3.p1.cell 0 _ rfl
  clear S2 S3'
  go_upto_region 6 with fail
  go_region_held3 (fun v' => v'.cell? ⟨b, 1, none⟩ = some (ptr ts) ∧ v'.cell? ⟨cb, 1, none⟩ = some (.int .i64 ss) ∧ v'.cell? ⟨cb, 2, none⟩ = some (.int .i64 rq)) (first
    | (go_keep; done)
    | exact HX.out _ _ (Sat.keep S4 (by (repeat (first | exact Keeps.refl _ _ | refine Keeps.alloc ?_ _ | refine Keeps.drew ?_ | refine Keeps.drewN ?_ _)))) (by simp) (by simp)
    | exact HX.out _ _ (Sat.keep S3 (by (repeat (first | exact Keeps.refl _ _ | refine Keeps.alloc ?_ _ | refine Keeps.drew ?_ | refine Keeps.drewN ?_ _)))) (by simp) (by simp)) (first
    | (go_at_call 29; refine (HSEEN.out _ _ (by (repeat (first | refine Sat.drew ?_ | refine Sat.drewN ?_ _)); exact S3.bring 4)).mono ?_; rintro e w4 ⟨rfl, S4⟩; obtain ⟨y0, y1, y2⟩ := HX.out _ _ S4 (by simp) (by simp)))
  all_goals
    clear S3 HX y0 y1 y2 x0 HSEEN
    by_cases hq3 : q3 = 0
    · subst hq3
      cases q2
      · have HE : Hid (cmdF s ⟨kd, ss, rq, nt, ops, pa, ki, oc⟩ when_ = if kd = 2 then (⟨0, 0, [], when_⟩, endF ⟨s.tree, s.tab, notedF s.book ss nt, s.at_⟩ ss when_) else ((doF ⟨s.tree, s.tab, notedF s.book ss nt, s.at_⟩ ⟨kd, ss, rq, nt, ops, pa, ki, oc⟩ when_).1,
          ⟨(doF ⟨s.tree, s.tab, notedF s.book ss nt, s.at_⟩ ⟨kd, ss, rq, nt, ops, pa, ki, oc⟩ when_).2.tree, (keepF (doF ⟨s.tree, s.tab, notedF s.book ss nt, s.at_⟩ ⟨kd, ss, rq, nt, ops, pa, ki, oc⟩ when_).2.tab ss rq (resB (doF ⟨s.tree, s.tab, notedF s.book ss nt, s.at_⟩ ⟨kd, ss, rq, nt, ops, pa, ki, oc⟩ when_).1)).2, (doF ⟨s.tree, s.tab, notedF s.book ss nt, s.at_⟩ ⟨kd, ss, rq, nt, ops, pa, ki, oc⟩ when_).2.book, (doF ⟨s.tree, s.tab, notedF s.book ss nt, s.at_⟩ ⟨kd, ss, rq, nt, ops, pa, ki, oc⟩ when_).2.at_⟩)) := hide (by have := HE0.out; rwa [if_neg (by simp), if_neg (by simp)] at this)
        have HKN : Hid (∀ (w' : World) (L' : List Asn), Sat g w' (bookA bk s.book :: L') → Calls Tryz.prog 63 #[ptr bk, .int .i64 ss, .int .i64 nt] w' fun e w2 => e = .returned (.tuple #[]) ∧ Sat g w2 (bookA bk (notedF s.book ss nt) :: L')) := hide fun w' L' S' => noted_book S' (by have := HI.out.book.es; omega) ss nt
        have HN : Hid (InvS ⟨s.tree, s.tab, notedF s.book ss nt, s.at_⟩ M n) := hide ⟨HI.out.tree, noted_inv HI.out.book _ _, HI.out.ok, HI.out.nd, HI.out.len, HI.out.kept, HI.out.at0, HI.out.at1⟩
        clear HE0
        have HX : Hid (∀ (w' : World) (L' : List Asn), Sat g w' L' → cellsA b 78 #[ptr t, ptr ts, ptr bk, .int .i64 s.at_] ∈ L' → cellsA cb 35 #[.int .i64 kd, .int .i64 ss, .int .i64 rq, .int .i64 nt, .slice A0 ops.length c0, .string (S pa), .bool ki, .bool oc] ∈ L' → w'.cell? ⟨b, 2, none⟩ = some (ptr bk) ∧ w'.cell? ⟨cb, 1, none⟩ = some (.int .i64 ss) ∧ w'.cell? ⟨cb, 3, none⟩ = some (.int .i64 nt)) := hide fun w' L' S' h0 h1 => ⟨S'.cell_of h0 2 _ rfl, S'.cell_of h1 1 _ rfl, S'.cell_of h1 3 _ rfl⟩
        obtain ⟨y0, y1, y2⟩ := HX.out _ _ S4 (by simp) (by simp)
        go_upto_region 12 with fail
        go_region_held3 (fun v' => v'.cell? ⟨b, 2, none⟩ = some (ptr bk) ∧ v'.cell? ⟨cb, 1, none⟩ = some (.int .i64 ss) ∧ v'.cell? ⟨cb, 3, none⟩ = some (.int .i64 nt)) (first
          | (go_keep; done)
          | exact HX.out _ _ (Sat.keep S5 (by (repeat (first | exact Keeps.refl _ _ | refine Keeps.alloc ?_ _ | refine Keeps.drew ?_ | refine Keeps.drewN ?_ _)))) (by simp) (by simp)
          | exact HX.out _ _ (Sat.keep S4 (by (repeat (first | exact Keeps.refl _ _ | refine Keeps.alloc ?_ _ | refine Keeps.drew ?_ | refine Keeps.drewN ?_ _)))) (by simp) (by simp)) (first
          | (go_at_call 63; refine (HKN.out _ _ (by (repeat (first | refine Sat.drew ?_ | refine Sat.drewN ?_ _)); exact S4.bring 5)).mono ?_; rintro e w5 ⟨rfl, S5⟩; obtain ⟨y0, y1, y2⟩ := HX.out _ _ S5 (by simp) (by simp)))
        all_goals
          clear S4 HX y0 y1 y2 HKN
          have S6 : Sat g w5 (stateA b ⟨s.tree, s.tab, notedF s.book ss nt, s.at_⟩ :: rowA 71 6 (.slice A0 ops.length c0) ops.length (ops.flatMap opC) :: cellsA zb 41 #[.int .i64 0, .int .i64 0, .slice none 0 0, .int .i64 0] :: cellsA cb 35 #[.int .i64 kd, .int .i64 ss, .int .i64 rq, .int .i64 nt, .slice A0 ops.length c0, .string (S pa), .bool ki, .bool oc] :: L) := ((Sat.stateShut (s := ⟨s.tree, s.tab, notedF s.book ss nt, s.at_⟩) ((((((S5.bring 6).bring 1).bring 2).bring 6).bring 6))))
          clear S5
          by_cases h2 : kd = 2
          · subst h2
            have HE2 : Hid (cmdF s ⟨2, ss, rq, nt, ops, pa, ki, oc⟩ when_ = (⟨0, 0, [], when_⟩, endF ⟨s.tree, s.tab, notedF s.book ss nt, s.at_⟩ ss when_)) := hide (by have := HE.out; rwa [if_pos rfl] at this)
            have hend := end_state S6 HG0.out (by simp [hm]) HN.out (by have := HN.out.tree.len; omega) ss when_
            generalize endF ⟨s.tree, s.tab, notedF s.book ss nt, s.at_⟩ ss when_ = EF at *
            clear HE
            have x0 := Sat.cell_of S6 (t := 35) (cs := #[.int .i64 2, .int .i64 ss, .int .i64 rq, .int .i64 nt, .slice A0 ops.length c0, .string (S pa), .bool ki, .bool oc]) (b := cb) (by simp) 0 _ rfl
            have x1 := Sat.cell_of S6 (t := 35) (cs := #[.int .i64 2, .int .i64 ss, .int .i64 rq, .int .i64 nt, .slice A0 ops.length c0, .string (S pa), .bool ki, .bool oc]) (b := cb) (by simp) 1 _ rfl
            go_wp2_with fail
            refine hend.mono ?_
            rintro e w7 ⟨rfl, S7⟩
            clear S6 x0 x1 hend
            go_wp2_with ((show Go.wpList _ _ _ (Oper.mk none (Op.store _ _ _) _ _ _ _ :: _) _ _); refine wpList_sstore rfl _ (.tmp 6) (.tmp 75) rfl (S7.bring 2) _ rfl rfl (by kernel_rfl) rfl (by simp [Value.oneCell']) ?_; intro S8)
            refine bodyPost_ret (results_cell_row Tryz.results41 _ _ zb _ _ _ _ rfl S8.cells_get Tryz.underlying41 rfl (by kernel_rfl)) rfl ?_
            exact HR.out _ _ HE2.out _ none 0 (((S8.drop.bring 2).drop).nilRow _ _)
          · have e2 : (kd == 2) = false := by simpa using h2
            have HE2 : Hid (cmdF s ⟨kd, ss, rq, nt, ops, pa, ki, oc⟩ when_ = ((doF ⟨s.tree, s.tab, notedF s.book ss nt, s.at_⟩ ⟨kd, ss, rq, nt, ops, pa, ki, oc⟩ when_).1,
              ⟨(doF ⟨s.tree, s.tab, notedF s.book ss nt, s.at_⟩ ⟨kd, ss, rq, nt, ops, pa, ki, oc⟩ when_).2.tree, (keepF (doF ⟨s.tree, s.tab, notedF s.book ss nt, s.at_⟩ ⟨kd, ss, rq, nt, ops, pa, ki, oc⟩ when_).2.tab ss rq (resB (doF ⟨s.tree, s.tab, notedF s.book ss nt, s.at_⟩ ⟨kd, ss, rq, nt, ops, pa, ki, oc⟩ when_).1)).2, (doF ⟨s.tree, s.tab, notedF s.book ss nt, s.at_⟩ ⟨kd, ss, rq, nt, ops, pa, ki, oc⟩ when_).2.book, (doF ⟨s.tree, s.tab, notedF s.book ss nt, s.at_⟩ ⟨kd, ss, rq, nt, ops, pa, ki, oc⟩ when_).2.at_⟩)) := hide (by have := HE.out; rwa [if_neg h2] at this)
            have hdo := do_state (cm := ⟨kd, ss, rq, nt, ops, pa, ki, oc⟩) S6 HG0.out (by simp [hm]) HN.out HN0.out HC.out when_ hw
            have hol := (doF_inv HN.out (c := ⟨kd, ss, rq, nt, ops, pa, ki, oc⟩) HC.out hw (by omega)).2
            generalize doF ⟨s.tree, s.tab, notedF s.book ss nt, s.at_⟩ ⟨kd, ss, rq, nt, ops, pa, ki, oc⟩ when_ = D at *
            obtain ⟨⟨r1, r2, r3, r4⟩, s2⟩ := D
            simp only at hdo HE2 hol
            have HDO := hide hdo
            clear HE hdo
            have x0 := Sat.cell_of S6 (t := 35) (cs := #[.int .i64 kd, .int .i64 ss, .int .i64 rq, .int .i64 nt, .slice A0 ops.length c0, .string (S pa), .bool ki, .bool oc]) (b := cb) (by simp) 0 _ rfl
            have x1 := Sat.cell_of S6 (t := 35) (cs := #[.int .i64 kd, .int .i64 ss, .int .i64 rq, .int .i64 nt, .slice A0 ops.length c0, .string (S pa), .bool ki, .bool oc]) (b := cb) (by simp) 1 _ rfl
            have x2 := Sat.cell_of S6 (t := 35) (cs := #[.int .i64 kd, .int .i64 ss, .int .i64 rq, .int .i64 nt, .slice A0 ops.length c0, .string (S pa), .bool ki, .bool oc]) (b := cb) (by simp) 2 _ rfl
            have x3 := Sat.cell_of S6 (t := 35) (cs := #[.int .i64 kd, .int .i64 ss, .int .i64 rq, .int .i64 nt, .slice A0 ops.length c0, .string (S pa), .bool ki, .bool oc]) (b := cb) (by simp) 3 _ rfl
            have x4 := Sat.cell_of S6 (t := 35) (cs := #[.int .i64 kd, .int .i64 ss, .int .i64 rq, .int .i64 nt, .slice A0 ops.length c0, .string (S pa), .bool ki, .bool oc]) (b := cb) (by simp) 4 _ rfl
            have x5 := Sat.cell_of S6 (t := 35) (cs := #[.int .i64 kd, .int .i64 ss, .int .i64 rq, .int .i64 nt, .slice A0 ops.length c0, .string (S pa), .bool ki, .bool oc]) (b := cb) (by simp) 5 _ rfl
            have x6 := Sat.cell_of S6 (t := 35) (cs := #[.int .i64 kd, .int .i64 ss, .int .i64 rq, .int .i64 nt, .slice A0 ops.length c0, .string (S pa), .bool ki, .bool oc]) (b := cb) (by simp) 6 _ rfl
            have x7 := Sat.cell_of S6 (t := 35) (cs := #[.int .i64 kd, .int .i64 ss, .int .i64 rq, .int .i64 nt, .slice A0 ops.length c0, .string (S pa), .bool ki, .bool oc]) (b := cb) (by simp) 7 _ rfl
            go_wp2_with fail
            refine HDO.out.mono ?_
            rintro e w7 ⟨A, c, rfl, S7⟩
            clear S6 x0 x1 x2 x3 x4 x5 x6 x7 HDO
            have S8 := S7.box #[.int .i64 r1, .int .i64 r2, .slice A r3.length c, .int .i64 r4] 41 rfl
            go_upto_region 17 with fail
            generalize w7.alloc (.cells #[.int .i64 r1, .int .i64 r2, .slice A r3.length c, .int .i64 r4] 41) = w8 at *
            generalize w7.heap.size = rb at *
            obtain ⟨t2, ts2, bk2, S9⟩ := (S8.bring 2).stateOpen
            clear S7 S8
            have hrl := resB_len ⟨r1, r2, r3, r4⟩
            simp only at hrl
            have HBY : Hid (∀ (w' : World) (L' : List Asn), Sat g w' L' → rowA 109 2 (.slice A r3.length c) r3.length (r3.flatMap outC) ∈ L' → Calls Tryz.prog 67 #[resV ⟨r1, r2, r3, r4⟩ A c] w' fun e w2 => e = .returned (.string (S (resB ⟨r1, r2, r3, r4⟩))) ∧ Sat g w2 L') := hide fun w' L' S' h => by
              obtain ⟨L2, SX⟩ := S'.mem_ h
              refine (bytes_res w' ⟨r1, r2, r3, r4⟩ A c SX.srcT (by simp only; omega)).mono ?_
              rintro e w2 ⟨rfl, hk⟩
              exact ⟨rfl, S'.keep hk⟩
            have HKP : Hid (∀ (w' : World) (L' : List Asn), Sat g w' (tblA ts2 s2.tab :: L') → Calls Tryz.prog 66 #[ptr ts2, .int .i64 ss, .int .i64 rq, .string (S (resB ⟨r1, r2, r3, r4⟩))] w' fun e w2 => e = .returned (.int .i64 (keepF s2.tab ss rq (resB ⟨r1, r2, r3, r4⟩)).1) ∧ Sat g w2 (tblA ts2 (keepF s2.tab ss rq (resB ⟨r1, r2, r3, r4⟩)).2 :: L')) := hide fun w' L' S' => tbl_keep S' ss rq _ (by omega)
            generalize resB ⟨r1, r2, r3, r4⟩ = RB at *
            generalize keepF s2.tab ss rq RB = KF at *
            obtain ⟨kf1, kf2⟩ := KF
            simp only at HKP HE2
            have HX : Hid (∀ (w' : World) (L' : List Asn), Sat g w' L' → cellsA b 78 #[ptr t2, ptr ts2, ptr bk2, .int .i64 s2.at_] ∈ L' → cellsA cb 35 #[.int .i64 kd, .int .i64 ss, .int .i64 rq, .int .i64 nt, .slice A0 ops.length c0, .string (S pa), .bool ki, .bool oc] ∈ L' → cellsA rb 41 #[.int .i64 r1, .int .i64 r2, .slice A r3.length c, .int .i64 r4] ∈ L' → w'.cell? ⟨b, 1, none⟩ = some (ptr ts2) ∧ w'.cell? ⟨cb, 1, none⟩ = some (.int .i64 ss) ∧ w'.cell? ⟨cb, 2, none⟩ = some (.int .i64 rq) ∧ w'.cell? ⟨rb, 0, none⟩ = some (.int .i64 r1) ∧ w'.cell? ⟨rb, 1, none⟩ = some (.int .i64 r2) ∧ w'.cell? ⟨rb, 2, none⟩ = some (.slice A r3.length c) ∧ w'.cell? ⟨rb, 3, none⟩ = some (.int .i64 r4)) := hide fun w' L' S' h0 h1 h2 => ⟨S'.cell_of h0 1 _ rfl, S'.cell_of h1 1 _ rfl, S'.cell_of h1 2 _ rfl, S'.cell_of h2 0 _ rfl, S'.cell_of h2 1 _ rfl, S'.cell_of h2 2 _ rfl, S'.cell_of h2 3 _ rfl⟩
            obtain ⟨y0, y1, y2, y3, y4, y5, y6⟩ := HX.out _ _ S9 (by simp) (by simp) (by simp)
            go_region_held3 (fun v' => v'.cell? ⟨b, 1, none⟩ = some (ptr ts2) ∧ v'.cell? ⟨cb, 1, none⟩ = some (.int .i64 ss) ∧ v'.cell? ⟨cb, 2, none⟩ = some (.int .i64 rq) ∧ v'.cell? ⟨rb, 0, none⟩ = some (.int .i64 r1) ∧ v'.cell? ⟨rb, 1, none⟩ = some (.int .i64 r2) ∧ v'.cell? ⟨rb, 2, none⟩ = some (.slice A r3.length c) ∧ v'.cell? ⟨rb, 3, none⟩ = some (.int .i64 r4)) (first
              | (go_keep; done)
              | exact HX.out _ _ (Sat.keep S11 (by (repeat (first | exact Keeps.refl _ _ | refine Keeps.alloc ?_ _ | refine Keeps.drew ?_ | refine Keeps.drewN ?_ _)))) (by simp) (by simp) (by simp)
              | exact HX.out _ _ (Sat.keep S10 (by (repeat (first | exact Keeps.refl _ _ | refine Keeps.alloc ?_ _ | refine Keeps.drew ?_ | refine Keeps.drewN ?_ _)))) (by simp) (by simp) (by simp)
              | exact HX.out _ _ (Sat.keep S9 (by (repeat (first | exact Keeps.refl _ _ | refine Keeps.alloc ?_ _ | refine Keeps.drew ?_ | refine Keeps.drewN ?_ _)))) (by simp) (by simp) (by simp)) (first
              | (go_at_call 67; refine (HBY.out _ _ (Sat.drew S9) (by simp)).mono ?_; rintro e w10 ⟨rfl, S10⟩; obtain ⟨y0, y1, y2, y3, y4, y5, y6⟩ := HX.out _ _ S10 (by simp) (by simp) (by simp))
              | (go_at_call 66; refine (HKP.out _ _ (by (repeat (first | refine Sat.drew ?_ | refine Sat.drewN ?_ _)); exact S10.bring 2)).mono ?_; rintro e w11 ⟨rfl, S11⟩; obtain ⟨y0, y1, y2, y3, y4, y5, y6⟩ := HX.out _ _ S11 (by simp) (by simp) (by simp)))
            all_goals
              clear S9 S10 HX HBY HKP
              go_wp2_with ((show Go.wpList _ _ _ (Oper.mk none (Op.store _ _ _) _ _ _ _ :: _) _ _); refine wpList_sstore rfl _ (.tmp 6) (.tmp 91) rfl (S11.bring 7) _ rfl rfl (by kernel_rfl) rfl (by simp [Value.oneCell']) ?_; intro S12)
              refine bodyPost_ret (results_cell_row Tryz.results41 _ _ zb _ _ _ _ rfl S12.cells_get Tryz.underlying41 rfl (by kernel_rfl)) rfl ?_
              exact HR.out ⟨r1, r2, r3, r4⟩ ⟨s2.tree, kf2, s2.book, s2.at_⟩ HE2.out _ A c (Sat.bring (Sat.stateShut (s := ⟨s2.tree, kf2, s2.book, s2.at_⟩) (((((S12.drop.bring 4).drop.bring 6).drop.bring 2).bring 2))) 1)
      · have HE : Hid (cmdF s ⟨kd, ss, rq, nt, ops, pa, ki, oc⟩ when_ = ((ansF q1).1, s)) := hide (by have := HE0.out; rwa [if_neg (by simp), if_pos rfl] at this)
        have HANS : Hid (∀ (w' : World) (L' : List Asn), Sat g w' L' → Calls Tryz.prog 30 #[.string (S q1)] w' fun e w2 => ∃ A cap, e = .returned (.tuple #[resV (ansF q1).1 A cap, .int .i64 (ansF q1).2]) ∧ Sat g w2 (rowA 109 2 (.slice A (ansF q1).1.outs.length cap) (ansF q1).1.outs.length ((ansF q1).1.outs.flatMap outC) :: L')) := hide fun w' L' S' => by
          refine (answer_row w' q1 (by omega)).mono ?_
          rintro e w2 ⟨A, cap, rfl, S''⟩
          exact ⟨A, cap, rfl, S'.fresh S'' rowA_own⟩
        generalize ansF q1 = AN at *
        obtain ⟨⟨r1, r2, r3, r4⟩, ae⟩ := AN
        simp only at HANS HE
        clear HE0
        go_wp2_with fail
        refine (HANS.out _ _ S4).mono ?_
        rintro e w5 ⟨A, c, rfl, S5⟩
        clear S4 HANS
        have S6 := S5.box #[.int .i64 r1, .int .i64 r2, .slice A r3.length c, .int .i64 r4] 41 rfl
        go_upto_region 11 with fail
        generalize w5.alloc (.cells #[.int .i64 r1, .int .i64 r2, .slice A r3.length c, .int .i64 r4] 41) = w6 at *
        generalize w5.heap.size = rb at *
        have y0 := S6.cell 0 _ rfl
        have y1 := S6.cell 1 _ rfl
        have y2 := S6.cell 2 _ rfl
        have y3 := S6.cell 3 _ rfl
        clear S5
        go_wp2_with ((show Go.wpList _ _ _ (Oper.mk none (Op.store _ _ _) _ _ _ _ :: _) _ _); refine wpList_sstore rfl _ (.tmp 6) (.tmp 56) rfl (S6.bring 3) _ rfl rfl (by kernel_rfl) rfl (by simp [Value.oneCell']) ?_; intro S7)
        refine bodyPost_ret (results_cell_row Tryz.results41 _ _ zb _ _ _ _ rfl S7.cells_get Tryz.underlying41 rfl (by kernel_rfl)) rfl ?_
        exact HR.out ⟨r1, r2, r3, r4⟩ s HE.out _ A c (Sat.bring (Sat.stateShut ((((((S7.drop.drop.bring 2).drop.bring 4).bring 2).bring 4).bring 4))) 1)
    · have e3 : (q3 != 0) = true := by simpa using hq3
      have HE : Hid (cmdF s ⟨kd, ss, rq, nt, ops, pa, ki, oc⟩ when_ = (⟨q3, 0, [], when_⟩, s)) := hide (by have := HE0.out; rwa [if_pos hq3] at this)
      clear HE0
      go_wp2_with ((show Go.wpList _ _ _ (Oper.mk none (Op.store _ _ _) _ _ _ _ :: _) _ _); refine wpList_sstore rfl _ (.tmp 6) (.tmp 48) rfl (S4.bring 1) _ rfl rfl (by kernel_rfl) rfl (by simp [Value.oneCell']) ?_; intro S5)
      refine bodyPost_ret (results_cell_row Tryz.results41 _ _ zb _ _ _ _ rfl S5.cells_get Tryz.underlying41 rfl (by kernel_rfl)) rfl ?_
      exact HR.out ⟨q3, 0, [], when_⟩ s HE.out _ none 0 ((Sat.stateShut ((((S5.drop.bring 1).drop.bring 2).bring 2))).nilRow _ _)
end

section
set_option linter.unusedVariables false
set_option linter.unusedSimpArgs false
open Go.RowKit

theorem least_nat (P : Nat → Prop) : ∀ n k, P k → k ≤ n → ∃ m, P m ∧ ∀ j, P j → m ≤ j := by
  intro n
  induction n with
  | zero => exact fun k h hk => ⟨k, h, fun j _ => by omega⟩
  | succ n ih =>
    intro k h hk
    by_cases hex : ∃ j, P j ∧ j ≤ n
    · obtain ⟨j, hj, hjn⟩ := hex
      exact ih j hj hjn
    · refine ⟨k, h, fun j hj => ?_⟩
      by_cases hjn : j ≤ n
      · exact absurd ⟨j, hj, hjn⟩ hex
      · omega
/-- what a loop lessens, where no slot tells it -/
theorem least_fn (R : Nat → World → Prop) : ∃ mu : World → Nat, (∀ w, (∃ k, R k w) → R (mu w) w) ∧ ∀ k w, R k w → mu w ≤ k := by
  have h : ∀ w, ∃ m, ((∃ k, R k w) → R m w) ∧ ∀ k, R k w → m ≤ k := fun w => by
    by_cases hex : ∃ k, R k w
    · obtain ⟨k, hk⟩ := hex
      obtain ⟨m, hm, hl⟩ := least_nat (fun k => R k w) k k hk (Nat.le_refl _)
      exact ⟨m, fun _ => hm, hl⟩
    · exact ⟨0, fun h => absurd h hex, fun k hk => absurd ⟨k, hk⟩ hex⟩
  refine ⟨fun w => Classical.choose (h w), fun w => (Classical.choose_spec (h w)).1, fun k w => (Classical.choose_spec (h w)).2 k⟩
theorem is_at2 {ks : List Int} {j : Nat} {x : Int} (h : ks[j]? = some x) : (Is ks)[j]? = some (.int .i64 x) := by simp [Is, h]
theorem findp_at {α : Type} {l : List α} {p : α → Bool} {j : Nat} {a : α} (hb : ∀ x ∈ l.take j, p x = false) (ha : l[j]? = some a) (hp : p a = true) : l.find? p = some a := by
  induction l generalizing j with
  | nil => cases ha
  | cons x r ih =>
    cases j with
    | zero =>
      simp only [List.getElem?_cons_zero, Option.some.injEq] at ha
      subst ha
      simp [hp]
    | succ j =>
      have hx := hb x (by simp)
      rw [List.find?_cons, hx]
      exact ih (fun y hy => hb y (by simp only [List.take_succ_cons, List.mem_cons]; exact .inr hy)) (by simpa using ha)
theorem crowdL_none {s : StT} {when_ : Int} (h : crowdF s = none) (k : Nat) : crowdL when_ k s = s := by
  cases k with
  | zero => rfl
  | succ k => unfold crowdL; rw [h]
theorem crowdL_some {s : StT} {when_ id : Int} (h : crowdF s = some id) (k : Nat) : crowdL when_ (k + 1) s = crowdL when_ k (endF s id when_) := by
  conv => lhs; unfold crowdL
  rw [h]
theorem crowd_step {s : StT} {M : TreeT} {n : Nat} (hi : InvS s M n) (id : Int) (h : crowdF s = some id) (when_ : Int) : ∃ M' n', InvS (endF s id when_) M' n' ∧ n' + M'.length ≤ n + M.length ∧ (endF s id when_).tab.length + 1 = s.tab.length := by
  obtain ⟨M', n', g1, g2, -⟩ := endF_inv hi id when_
  refine ⟨M', n', g1, g2, ?_⟩
  have hin : id ∈ keys s.tab := (sortI_mem _ _).1 (List.mem_of_find?_eq_some h)
  unfold endF closeF
  rw [if_pos hin]
  exact length_mdel hi.nd id hin

set_option maxRecDepth 100000 in
set_option maxHeartbeats 16000000 in
theorem crowded_state {g w : World} {L : List Asn} {b : Nat} {s : StT} {M : TreeT} {n : Nat} (S0 : Sat g w (stateA b s :: L)) (hG : GL g) (hm : oldA g ∈ L) (hi : InvS s M n) (hn : n + M.length ≤ 1000) (when_ : Int) :
    Calls Tryz.prog 42 #[ptr b, .int .i64 when_] w fun e w' => match crowdF s with
      | none => e = .returned (.bool false) ∧ Sat g w' (stateA b s :: L)
      | some id => e = .returned (.bool true) ∧ Sat g w' (stateA b (endF s id when_) :: L) := by
  have HG0 := hide hG
  have HI := hide hi
  have HFA : Hid (∀ j id, (∀ x ∈ (sortI (keys s.tab)).take j, overF s.book x = false) → (sortI (keys s.tab))[j]? = some id → overF s.book id = true → crowdF s = some id) := hide fun j id h1 h2 h3 => findp_at h1 h2 h3
  have HFN : Hid ((∀ x ∈ sortI (keys s.tab), overF s.book x = false) → crowdF s = none) := hide fun h => List.find?_eq_none.2 fun x hx => by simp [h x hx]
  generalize crowdF s = CF at *
  obtain ⟨t, ts, bk, S1⟩ := S0.stateOpen
  have hsl : (sortI (keys s.tab)).length = s.tab.length := by rw [sortI_length]; simp
  have hall := tbl_all (S1.bring 2) hi.ok (by have := hi.len; omega)
  have hes := hi.book.es
  have hml := hi.tree.len
  have hl16 := hi.len
  have hq1 := S1.cell 1 _ rfl
  go_enter Tryz.func42, Tryz.ntmps42
  go_wp2_with fail
  refine hall.mono ?_
  rintro e w2 ⟨A0, c0, rfl, S2⟩
  have S3 : Sat g w2 (rowA 3 1 (.slice A0 s.tab.length c0) s.tab.length (Is (sortI (keys s.tab))) :: stateA b s :: L) := (Sat.stateShut (((((S2.bring 4).bring 2).bring 4).bring 4))).p1
  clear S0 S1 S2 hq1 hall hG
  go_wp2_with fail
  go_loopw [13] (fun i wr => ∃ j : Nat, j ≤ s.tab.length ∧ i = .int .i64 j ∧ (∀ x ∈ (sortI (keys s.tab)).take j, overF s.book x = false) ∧ Sat g wr (rowA 3 1 (.slice A0 s.tab.length c0) s.tab.length (Is (sortI (keys s.tab))) :: stateA b s :: L)) (fun i _ => s.tab.length - (RowKit.intOf i).toNat)
  case atStart => exact ⟨0, by omega, rfl, by simp, S3⟩
  case round =>
    obtain ⟨j, hj, rfl, hb, S4⟩ := hrel
    clear S3
    by_cases hlt : j < s.tab.length
    · have hj0 : (0 : Int) ≤ (j : Int) := by omega
      have hj1 : (j : Int) < (s.tab.length : Int) := by omega
      obtain ⟨id, hid⟩ : ∃ id, (sortI (keys s.tab))[j]? = some id := ⟨_, List.getElem?_eq_getElem (by omega)⟩
      obtain ⟨ad, e1, hc⟩ := S4.srcT.2 (by omega)
      subst e1
      have d0 := hc j _ (is_at2 hid)
      clear hc
      obtain ⟨t2, ts2, bk2, S5⟩ := S4.p1.stateOpen
      have q2 := S5.cell 2 _ rfl
      have hev := events_book (S5.bring 3) (by omega) id
      have HOV : Hid (overF s.book id = decide (5 < (s.book.es.filter fun x => decide (x.session = id)).length)) := hide rfl
      have HTK : Hid ((sortI (keys s.tab)).take (j + 1) = (sortI (keys s.tab)).take j ++ [id]) := hide (by
        obtain ⟨hk, e⟩ := List.getElem?_eq_some_iff.1 hid
        rw [List.take_succ_eq_append_getElem hk, e])
      go_wp2_with fail
      refine hev.mono ?_
      rintro e w5 ⟨v, rfl, S6⟩
      obtain ⟨A5, c5, rfl, -⟩ := S6.row.form
      have S7 : Sat g w5 (stateA b s :: rowA 3 1 (.slice (some ad) s.tab.length c0) s.tab.length (Is (sortI (keys s.tab))) :: L) := Sat.stateShut ((((S6.drop.bring 3).bring 3).bring 3))
      clear S4 S5 S6 q2 d0 hev
      by_cases h5 : 5 < (s.book.es.filter fun x => decide (x.session = id)).length
      · have h5i : (5 : Int) < ((s.book.es.filter fun x => decide (x.session = id)).length : Int) := by omega
        have hov : overF s.book id = true := by rw [HOV.out]; simpa using h5
        have hcf := HFA.out j id hb hid hov
        subst hcf
        have hend := end_state S7 HG0.out (by simp [hm]) HI.out hn id when_
        generalize (s.book.es.filter fun x => decide (x.session = id)).length = evn at *
        go_wp2_with fail
        refine hend.mono ?_
        rintro e w7 ⟨rfl, S8⟩
        have HS := hide S8.p1.drop
        clear S7 S8 hend
        go_wp2_with fail
        go_ret
        exact ⟨rfl, HS.out⟩
      · have h5i : ¬ (5 : Int) < ((s.book.es.filter fun x => decide (x.session = id)).length : Int) := by omega
        have hov : overF s.book id = false := by rw [HOV.out]; simpa using h5
        have HS := hide S7.p1
        generalize (s.book.es.filter fun x => decide (x.session = id)).length = evn at *
        clear S7
        go_wp2_with fail
        go_roundw
        case rel => exact ⟨j + 1, by omega, by go_num, by rw [HTK.out]; intro x hx; exact (List.mem_append.1 hx).elim (fun h => hb x h) (fun h => by simp only [List.mem_singleton] at h; subst h; exact hov), HS.out⟩
        case measure => simp [RowKit.intOf]; omega
    · obtain rfl : j = s.tab.length := by omega
      have hcf := HFN.out (by rw [← hsl, List.take_length] at hb; exact hb)
      subst hcf
      have HS := hide S4.drop
      clear S4 hb
      go_wp2_with fail
      go_ret
      exact ⟨rfl, HS.out⟩

set_option maxRecDepth 100000 in
set_option maxHeartbeats 16000000 in
theorem apply_state {g w : World} {L : List Asn} {b : Nat} {s : StT} {M : TreeT} {n : Nat} (S0 : Sat g w (stateA b s :: L)) (hG : GL g) (hm : oldA g ∈ L) (hi : InvS s M n) (hn0 : n ≤ 90 ∨ (n ≤ 900 ∧ TabE g)) (hat : s.at_ < 900) (tx : List UInt8) (ht : tx.length ≤ 9223372036854775807) :
    Calls Tryz.prog 20 #[ptr b, .string (S tx)] w fun e w' => ∃ A c, e = .returned (resV (applyF s tx).1 A c) ∧ Sat g w' (rowA 109 2 (.slice A (applyF s tx).1.outs.length c) (applyF s tx).1.outs.length ((applyF s tx).1.outs.flatMap outC) :: stateA b (applyF s tx).2 :: L) := by
  have HR : Hid (∀ r s2, applyF s tx = (r, s2) → ∀ w' A c, Sat g w' (rowA 109 2 (.slice A r.outs.length c) r.outs.length (r.outs.flatMap outC) :: stateA b s2 :: L) → ∃ A' c', Ending.returned (resV r A c) = .returned (resV (applyF s tx).1 A' c') ∧ Sat g w' (rowA 109 2 (.slice A' (applyF s tx).1.outs.length c') (applyF s tx).1.outs.length ((applyF s tx).1.outs.flatMap outC) :: stateA b (applyF s tx).2 :: L)) := hide fun r s2 e w' A c S' => by rw [e]; exact ⟨A, c, rfl, S'⟩
  have HG0 := hide hG
  have hn : n ≤ 900 := by rcases hn0 with h | h <;> omega
  have HN0 := hide hn0
  clear hn0
  have hml := hi.tree.len
  have hat0 := hi.at0
  have HI1 : Hid (InvS ⟨s.tree, s.tab, s.book, s.at_ + 1⟩ M n) := hide ⟨hi.tree, hi.book, hi.ok, hi.nd, hi.len, hi.kept, by show 0 ≤ s.at_ + 1; omega, by show s.at_ + 1 ≤ 900; omega⟩
  have HCR : Hid (cmdR (cmdOf tx) = true) := hide (by
    unfold cmdOf
    split
    · decide
    · rename_i h
      exact (readF_bytes (by simpa using h)).2)
  have HCO0 : Hid (cmdOf tx = if (readF tx).2 ≠ 0 then noCmd else (readF tx).1) := hide rfl
  have hread := fun wr => read_row wr tx ht
  generalize readF tx = RF at *
  obtain ⟨rc, re⟩ := RF
  simp only at hread HCO0
  have HRD := hide hread
  obtain ⟨t, ts, bk, S1⟩ := S0.stateOpen
  have S2 := S1.box #[.int .i64 0, .int .i64 0, .slice none 0 0, .int .i64 0] 41 rfl
  have hwr : IntKind.i64.wrap (s.at_ + 1) = s.at_ + 1 := IntWalk.i64_in _ ⟨by omega, by omega⟩
  go_enter Tryz.func20, Tryz.ntmps20
  go_upto_region 1 with fail
  generalize w.alloc (.cells #[.int .i64 0, .int .i64 0, .slice none 0 0, .int .i64 0] 41) = w1 at *
  generalize w.heap.size = zb at *
  have q3 := S2.p1.cell 3 _ rfl
  have f3 := S2.p1.cells_fz 3
  have l3 : b < w1.heap.size := World.block_lt_of_cell? w1 _ q3
  clear S0 S1 hread hi hG
  go_upto_region 2 with fail
  have S3 := S2.p1.setc 3 (.int .i64 (s.at_ + 1))
  generalize w1.setCell ⟨b, 3, none⟩ (.int .i64 (s.at_ + 1)) = w2 at *
  have q3' := S3.cell 3 _ rfl
  have S4 : Sat g w2 (stateA b ⟨s.tree, s.tab, s.book, s.at_ + 1⟩ :: cellsA zb 41 #[.int .i64 0, .int .i64 0, .slice none 0 0, .int .i64 0] :: L) := Sat.stateShut (s := ⟨s.tree, s.tab, s.book, s.at_ + 1⟩) (((((S3.bring 4).bring 4).bring 4).bring 3))
  clear S2 S3 q3 f3 l3
  go_wp2_with fail
  refine (HRD.out _).mono ?_
  rintro e w5 ⟨A0, c0, rfl, hrow, hk5⟩
  have S5 := S4.newRow hk5 hrow
  clear S4 hrow hk5 q3' HRD
  have S6 := S5.box #[.int .i64 rc.kind, .int .i64 rc.session, .int .i64 rc.req, .int .i64 rc.noted, .slice A0 rc.ops.length c0, .string (S rc.path), .bool rc.kids, .bool rc.once] 35 rfl
  go_upto_region 4 with fail
  generalize w5.alloc (.cells #[.int .i64 rc.kind, .int .i64 rc.session, .int .i64 rc.req, .int .i64 rc.noted, .slice A0 rc.ops.length c0, .string (S rc.path), .bool rc.kids, .bool rc.once] 35) = w6 at *
  generalize w5.heap.size = cb at *
  clear S5
  by_cases hre : re = 0
  · subst hre
    have HCO : Hid (cmdOf tx = rc) := hide (by rw [HCO0.out]; simp)
    replace HCR : Hid (cmdR rc = true) := hide (by rw [← HCO.out]; exact HCR.out)
    clear HCO0
    have S6b := ((S6.bring 2).bring 1)
    clear S6
    have hcmd := cmd_state (cm := rc) (A0 := A0) (c0 := c0) (((S6b.bring 2).bring 2)) HG0.out (by simp [hm]) HI1.out HN0.out HCR.out (s.at_ + 1) ⟨by omega, by omega⟩
    have HCM := hide hcmd
    have x0 := S6b.cell 0 _ rfl
    have x1 := S6b.cell 1 _ rfl
    have x2 := S6b.cell 2 _ rfl
    have x3 := S6b.cell 3 _ rfl
    have x4 := S6b.cell 4 _ rfl
    have x5 := S6b.cell 5 _ rfl
    have x6 := S6b.cell 6 _ rfl
    have x7 := S6b.cell 7 _ rfl
    clear hcmd
    have HAP : Hid (applyF s tx = ((cmdF ⟨s.tree, s.tab, s.book, s.at_ + 1⟩ rc (s.at_ + 1)).1, crowdL (s.at_ + 1) (cmdF ⟨s.tree, s.tab, s.book, s.at_ + 1⟩ rc (s.at_ + 1)).2.tab.length (cmdF ⟨s.tree, s.tab, s.book, s.at_ + 1⟩ rc (s.at_ + 1)).2)) := hide (by unfold applyF applyC; rw [HCO.out])
    have HIC := hide (cmdF_inv HI1.out (c := rc) HCR.out (when_ := s.at_ + 1) ⟨by omega, by omega⟩ (by omega))
    generalize cmdF ⟨s.tree, s.tab, s.book, s.at_ + 1⟩ rc (s.at_ + 1) = CF at *
    obtain ⟨⟨r1, r2, r3, r4⟩, s2⟩ := CF
    simp only at HCM HAP HIC
    go_wp2_with fail
    refine HCM.out.mono ?_
    rintro e w7 ⟨A, c, rfl, S7⟩
    clear S6b HCM x0 x1 x2 x3 x4 x5 x6 x7
    have S8 := S7.box #[.int .i64 r1, .int .i64 r2, .slice A r3.length c, .int .i64 r4] 41 rfl
    go_upto_block 0 with fail
    generalize w7.alloc (.cells #[.int .i64 r1, .int .i64 r2, .slice A r3.length c, .int .i64 r4] 41) = w8 at *
    generalize w7.heap.size = rb at *
    clear S7
    obtain ⟨M2, n2, hI2, hn2, hn3⟩ := HIC.out
    have h44 := (cmdR_at HCR.out).2.2.2.2.1
    replace hn2 : n2 + M2.length ≤ n + M.length + 8 := by omega
    obtain ⟨mu, hmu1, hmu2⟩ := least_fn (fun k wr => ∃ (s' : StT) (M' : TreeT) (n' : Nat), InvS s' M' n' ∧ n' + M'.length ≤ n + M.length + 8 ∧ s'.tab.length = k ∧ crowdL (s.at_ + 1) s2.tab.length s2 = crowdL (s.at_ + 1) k s' ∧ Sat g wr (cellsA rb 41 #[.int .i64 r1, .int .i64 r2, .slice A r3.length c, .int .i64 r4] :: rowA 109 2 (.slice A (⟨r1, r2, r3, r4⟩ : ResT).outs.length c) (⟨r1, r2, r3, r4⟩ : ResT).outs.length ((⟨r1, r2, r3, r4⟩ : ResT).outs.flatMap outC) :: stateA b s' :: cellsA zb 41 #[.int .i64 0, .int .i64 0, .slice none 0 0, .int .i64 0] :: L))
    have S9 : Sat g w8 (cellsA rb 41 #[.int .i64 r1, .int .i64 r2, .slice A r3.length c, .int .i64 r4] :: rowA 109 2 (.slice A (⟨r1, r2, r3, r4⟩ : ResT).outs.length c) (⟨r1, r2, r3, r4⟩ : ResT).outs.length ((⟨r1, r2, r3, r4⟩ : ResT).outs.flatMap outC) :: stateA b s2 :: cellsA zb 41 #[.int .i64 0, .int .i64 0, .slice none 0 0, .int .i64 0] :: L) := ((S8.bring 3).drop.bring 3).drop
    clear S8
    go_wp2_with fail
    go_loopw [] (fun wr => ∃ (k : Nat) (s' : StT) (M' : TreeT) (n' : Nat), InvS s' M' n' ∧ n' + M'.length ≤ n + M.length + 8 ∧ s'.tab.length = k ∧ crowdL (s.at_ + 1) s2.tab.length s2 = crowdL (s.at_ + 1) k s' ∧ Sat g wr (cellsA rb 41 #[.int .i64 r1, .int .i64 r2, .slice A r3.length c, .int .i64 r4] :: rowA 109 2 (.slice A (⟨r1, r2, r3, r4⟩ : ResT).outs.length c) (⟨r1, r2, r3, r4⟩ : ResT).outs.length ((⟨r1, r2, r3, r4⟩ : ResT).outs.flatMap outC) :: stateA b s' :: cellsA zb 41 #[.int .i64 0, .int .i64 0, .slice none 0 0, .int .i64 0] :: L)) (fun wr => mu wr)
    case atStart => exact ⟨s2.tab.length, s2, M2, n2, hI2, hn2, rfl, rfl, S9⟩
    case round =>
      have hk0 := hmu1 wr hrel
      clear hrel S9 hmu1
      obtain ⟨s', M', n', hI', hnn, hlen, hcl, S10⟩ := hk0
      have hcw := crowded_state (S10.bring 2) HG0.out (by simp [hm]) hI' (by omega) (s.at_ + 1)
      have HMU := hide (fun k wx (h : ∃ (s' : StT) (M' : TreeT) (n' : Nat), InvS s' M' n' ∧ n' + M'.length ≤ n + M.length + 8 ∧ s'.tab.length = k ∧ crowdL (s.at_ + 1) s2.tab.length s2 = crowdL (s.at_ + 1) k s' ∧ Sat g wx (cellsA rb 41 #[.int .i64 r1, .int .i64 r2, .slice A r3.length c, .int .i64 r4] :: rowA 109 2 (.slice A (⟨r1, r2, r3, r4⟩ : ResT).outs.length c) (⟨r1, r2, r3, r4⟩ : ResT).outs.length ((⟨r1, r2, r3, r4⟩ : ResT).outs.flatMap outC) :: stateA b s' :: cellsA zb 41 #[.int .i64 0, .int .i64 0, .slice none 0 0, .int .i64 0] :: L)) => hmu2 k wx h)
      clear hmu2
      have HSTEP := hide (fun id h => crowd_step hI' id h (s.at_ + 1))
      generalize hq : crowdF s' = CQ at *
      have HQ := hide hq
      clear hq
      cases CQ with
      | none =>
        have HCL : Hid (crowdL (s.at_ + 1) s2.tab.length s2 = s') := hide (by rw [hcl]; exact crowdL_none HQ.out _)
        clear hcl HSTEP
        go_wp2_with fail
        refine hcw.mono ?_
        rintro e w11 ⟨rfl, S11⟩
        clear S10 hcw
        have y0 := S11.p1.cell 0 _ rfl
        have y1 := S11.p1.cell 1 _ rfl
        have y2 := S11.p1.cell 2 _ rfl
        have y3 := S11.p1.cell 3 _ rfl
        go_wp2_with ((show Go.wpList _ _ _ (Oper.mk none (Op.store _ _ _) _ _ _ _ :: _) _ _); refine wpList_sstore rfl _ (.tmp 4) (.tmp 35) rfl (S11.bring 3) _ rfl rfl (by kernel_rfl) rfl (by simp [Value.oneCell']) ?_; intro S12)
        refine bodyPost_ret (results_cell_row Tryz.results20 _ _ zb _ _ _ _ rfl S12.cells_get Tryz.underlying41 rfl (by kernel_rfl)) rfl ?_
        refine HR.out ⟨r1, r2, r3, r4⟩ s' (by rw [HAP.out, HCL.out]) _ A c (((S12.drop.bring 1).drop.bring 1))
      | some id =>
        obtain ⟨M3, n3, hI3, hn4, hl3⟩ := HSTEP.out id rfl
        have hmupos : mu wr = s'.tab.length := hlen.symm
        have HCL : Hid (crowdL (s.at_ + 1) s2.tab.length s2 = crowdL (s.at_ + 1) (endF s' id (s.at_ + 1)).tab.length (endF s' id (s.at_ + 1))) := hide (by rw [hcl, hmupos, ← hl3]; exact crowdL_some HQ.out _)
        clear hcl hlen
        go_wp2_with fail
        refine hcw.mono ?_
        rintro e w11 ⟨rfl, S11⟩
        have S12 := ((S11.bring 2).bring 2)
        clear S10 hcw S11
        have hle := HMU.out (endF s' id (s.at_ + 1)).tab.length w11 ⟨endF s' id (s.at_ + 1), M3, n3, hI3, by omega, rfl, HCL.out, S12⟩
        go_wp2_with fail
        go_roundw
        case rel => exact ⟨(endF s' id (s.at_ + 1)).tab.length, endF s' id (s.at_ + 1), M3, n3, hI3, by omega, rfl, HCL.out, S12⟩
        case measure => omega

  · have hre2 : (re != 0) = true := by simpa using hre
    have HCO : Hid (cmdOf tx = noCmd) := hide (by rw [HCO0.out, if_pos hre])
    replace HCR : Hid (cmdR noCmd = true) := hide (by decide)
    clear HCO0
    go_upto_region 6 with ((show Go.wpList _ _ _ (Oper.mk none (Op.store _ _ _) _ _ _ _ :: _) _ _); refine wpList_sstore rfl _ (.tmp 6) (.tmp 27) rfl S6 _ rfl rfl (by kernel_rfl) rfl (by simp [Value.oneCell']) ?_; intro S6x)
    have S6b : Sat g (w6.setRow cb #[.int .i64 0, .int .i64 0, .int .i64 0, .int .i64 0, .slice none 0 0, .string ⟨#[]⟩, .bool false, .bool false]) (cellsA cb 35 #[.int .i64 noCmd.kind, .int .i64 noCmd.session, .int .i64 noCmd.req, .int .i64 noCmd.noted, .slice none noCmd.ops.length 0, .string (S noCmd.path), .bool noCmd.kids, .bool noCmd.once] :: stateA b ⟨s.tree, s.tab, s.book, s.at_ + 1⟩ :: rowA 71 6 (.slice none noCmd.ops.length 0) noCmd.ops.length (noCmd.ops.flatMap opC) :: cellsA zb 41 #[.int .i64 0, .int .i64 0, .slice none 0 0, .int .i64 0] :: L) := (((Sat.nilRow ((S6x.bring 1).drop) 71 6).bring 2).bring 2)
    generalize w6.setRow cb #[.int .i64 0, .int .i64 0, .int .i64 0, .int .i64 0, .slice none 0 0, .string ⟨#[]⟩, .bool false, .bool false] = w6b at *
    clear S6 S6x
    have hcmd := cmd_state (cm := noCmd) (A0 := none) (c0 := 0) (((S6b.bring 2).bring 2)) HG0.out (by simp [hm]) HI1.out HN0.out HCR.out (s.at_ + 1) ⟨by omega, by omega⟩
    have HCM := hide hcmd
    have x0 := S6b.cell 0 _ rfl
    have x1 := S6b.cell 1 _ rfl
    have x2 := S6b.cell 2 _ rfl
    have x3 := S6b.cell 3 _ rfl
    have x4 := S6b.cell 4 _ rfl
    have x5 := S6b.cell 5 _ rfl
    have x6 := S6b.cell 6 _ rfl
    have x7 := S6b.cell 7 _ rfl
    clear hcmd
    have HAP : Hid (applyF s tx = ((cmdF ⟨s.tree, s.tab, s.book, s.at_ + 1⟩ noCmd (s.at_ + 1)).1, crowdL (s.at_ + 1) (cmdF ⟨s.tree, s.tab, s.book, s.at_ + 1⟩ noCmd (s.at_ + 1)).2.tab.length (cmdF ⟨s.tree, s.tab, s.book, s.at_ + 1⟩ noCmd (s.at_ + 1)).2)) := hide (by unfold applyF applyC; rw [HCO.out])
    have HIC := hide (cmdF_inv HI1.out (c := noCmd) HCR.out (when_ := s.at_ + 1) ⟨by omega, by omega⟩ (by omega))
    generalize cmdF ⟨s.tree, s.tab, s.book, s.at_ + 1⟩ noCmd (s.at_ + 1) = CF at *
    obtain ⟨⟨r1, r2, r3, r4⟩, s2⟩ := CF
    simp only at HCM HAP HIC
    go_wp2_with fail
    refine HCM.out.mono ?_
    rintro e w7 ⟨A, c, rfl, S7⟩
    clear S6b HCM x0 x1 x2 x3 x4 x5 x6 x7
    have S8 := S7.box #[.int .i64 r1, .int .i64 r2, .slice A r3.length c, .int .i64 r4] 41 rfl
    go_upto_block 0 with fail
    generalize w7.alloc (.cells #[.int .i64 r1, .int .i64 r2, .slice A r3.length c, .int .i64 r4] 41) = w8 at *
    generalize w7.heap.size = rb at *
    clear S7
    obtain ⟨M2, n2, hI2, hn2, hn3⟩ := HIC.out
    have h44 := (cmdR_at HCR.out).2.2.2.2.1
    replace hn2 : n2 + M2.length ≤ n + M.length + 8 := by omega
    obtain ⟨mu, hmu1, hmu2⟩ := least_fn (fun k wr => ∃ (s' : StT) (M' : TreeT) (n' : Nat), InvS s' M' n' ∧ n' + M'.length ≤ n + M.length + 8 ∧ s'.tab.length = k ∧ crowdL (s.at_ + 1) s2.tab.length s2 = crowdL (s.at_ + 1) k s' ∧ Sat g wr (cellsA rb 41 #[.int .i64 r1, .int .i64 r2, .slice A r3.length c, .int .i64 r4] :: rowA 109 2 (.slice A (⟨r1, r2, r3, r4⟩ : ResT).outs.length c) (⟨r1, r2, r3, r4⟩ : ResT).outs.length ((⟨r1, r2, r3, r4⟩ : ResT).outs.flatMap outC) :: stateA b s' :: cellsA zb 41 #[.int .i64 0, .int .i64 0, .slice none 0 0, .int .i64 0] :: L))
    have S9 : Sat g w8 (cellsA rb 41 #[.int .i64 r1, .int .i64 r2, .slice A r3.length c, .int .i64 r4] :: rowA 109 2 (.slice A (⟨r1, r2, r3, r4⟩ : ResT).outs.length c) (⟨r1, r2, r3, r4⟩ : ResT).outs.length ((⟨r1, r2, r3, r4⟩ : ResT).outs.flatMap outC) :: stateA b s2 :: cellsA zb 41 #[.int .i64 0, .int .i64 0, .slice none 0 0, .int .i64 0] :: L) := ((S8.bring 3).drop.bring 3).drop
    clear S8
    go_wp2_with fail
    go_loopw [] (fun wr => ∃ (k : Nat) (s' : StT) (M' : TreeT) (n' : Nat), InvS s' M' n' ∧ n' + M'.length ≤ n + M.length + 8 ∧ s'.tab.length = k ∧ crowdL (s.at_ + 1) s2.tab.length s2 = crowdL (s.at_ + 1) k s' ∧ Sat g wr (cellsA rb 41 #[.int .i64 r1, .int .i64 r2, .slice A r3.length c, .int .i64 r4] :: rowA 109 2 (.slice A (⟨r1, r2, r3, r4⟩ : ResT).outs.length c) (⟨r1, r2, r3, r4⟩ : ResT).outs.length ((⟨r1, r2, r3, r4⟩ : ResT).outs.flatMap outC) :: stateA b s' :: cellsA zb 41 #[.int .i64 0, .int .i64 0, .slice none 0 0, .int .i64 0] :: L)) (fun wr => mu wr)
    case atStart => exact ⟨s2.tab.length, s2, M2, n2, hI2, hn2, rfl, rfl, S9⟩
    case round =>
      have hk0 := hmu1 wr hrel
      clear hrel S9 hmu1
      obtain ⟨s', M', n', hI', hnn, hlen, hcl, S10⟩ := hk0
      have hcw := crowded_state (S10.bring 2) HG0.out (by simp [hm]) hI' (by omega) (s.at_ + 1)
      have HMU := hide (fun k wx (h : ∃ (s' : StT) (M' : TreeT) (n' : Nat), InvS s' M' n' ∧ n' + M'.length ≤ n + M.length + 8 ∧ s'.tab.length = k ∧ crowdL (s.at_ + 1) s2.tab.length s2 = crowdL (s.at_ + 1) k s' ∧ Sat g wx (cellsA rb 41 #[.int .i64 r1, .int .i64 r2, .slice A r3.length c, .int .i64 r4] :: rowA 109 2 (.slice A (⟨r1, r2, r3, r4⟩ : ResT).outs.length c) (⟨r1, r2, r3, r4⟩ : ResT).outs.length ((⟨r1, r2, r3, r4⟩ : ResT).outs.flatMap outC) :: stateA b s' :: cellsA zb 41 #[.int .i64 0, .int .i64 0, .slice none 0 0, .int .i64 0] :: L)) => hmu2 k wx h)
      clear hmu2
      have HSTEP := hide (fun id h => crowd_step hI' id h (s.at_ + 1))
      generalize hq : crowdF s' = CQ at *
      have HQ := hide hq
      clear hq
      cases CQ with
      | none =>
        have HCL : Hid (crowdL (s.at_ + 1) s2.tab.length s2 = s') := hide (by rw [hcl]; exact crowdL_none HQ.out _)
        clear hcl HSTEP
        go_wp2_with fail
        refine hcw.mono ?_
        rintro e w11 ⟨rfl, S11⟩
        clear S10 hcw
        have y0 := S11.p1.cell 0 _ rfl
        have y1 := S11.p1.cell 1 _ rfl
        have y2 := S11.p1.cell 2 _ rfl
        have y3 := S11.p1.cell 3 _ rfl
        go_wp2_with ((show Go.wpList _ _ _ (Oper.mk none (Op.store _ _ _) _ _ _ _ :: _) _ _); refine wpList_sstore rfl _ (.tmp 4) (.tmp 35) rfl (S11.bring 3) _ rfl rfl (by kernel_rfl) rfl (by simp [Value.oneCell']) ?_; intro S12)
        refine bodyPost_ret (results_cell_row Tryz.results20 _ _ zb _ _ _ _ rfl S12.cells_get Tryz.underlying41 rfl (by kernel_rfl)) rfl ?_
        refine HR.out ⟨r1, r2, r3, r4⟩ s' (by rw [HAP.out, HCL.out]) _ A c (((S12.drop.bring 1).drop.bring 1))
      | some id =>
        obtain ⟨M3, n3, hI3, hn4, hl3⟩ := HSTEP.out id rfl
        have hmupos : mu wr = s'.tab.length := hlen.symm
        have HCL : Hid (crowdL (s.at_ + 1) s2.tab.length s2 = crowdL (s.at_ + 1) (endF s' id (s.at_ + 1)).tab.length (endF s' id (s.at_ + 1))) := hide (by rw [hcl, hmupos, ← hl3]; exact crowdL_some HQ.out _)
        clear hcl hlen
        go_wp2_with fail
        refine hcw.mono ?_
        rintro e w11 ⟨rfl, S11⟩
        have S12 := ((S11.bring 2).bring 2)
        clear S10 hcw S11
        have hle := HMU.out (endF s' id (s.at_ + 1)).tab.length w11 ⟨endF s' id (s.at_ + 1), M3, n3, hI3, by omega, rfl, HCL.out, S12⟩
        go_wp2_with fail
        go_roundw
        case rel => exact ⟨(endF s' id (s.at_ + 1)).tab.length, endF s' id (s.at_ + 1), M3, n3, hI3, by omega, rfl, HCL.out, S12⟩
        case measure => omega
end

end Go.Proofs.YtanlobdidjednaaGreatDoor
