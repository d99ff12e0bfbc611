/- One operation of an update, walked. No condition. -/
import Derived.Test.YthgiamofndhehaaGreatDoorStA
import Derived.Test.YthgiamofndhehaaGreatDoorTCr
import Derived.Deep.RegionHeld3
set_option linter.unusedVariables false
set_option linter.unusedSimpArgs false
namespace Go.Proofs.YthgiamofndhehaaGreatDoor
open Go.RowKit

/-- a whole struct stored into a block of one's own, as one step of a region that draws -/
theorem step_sstore {P : Program} {ops : Array Oper} {o : Oper} {a : Act} {g w : World} {L : List Asn} {K : Act → World → Prop} {Q : Exit → Act → World → Prop} {E : Prop} (hgd : o.guard = none) (ty : TypeId) (x y : Operand) (ho : o.op = .store ty x y)
    {b : Nat} {t : TypeId} {old : Array Value} (S : Sat g w (cellsA b t old :: L)) (cells : Array Value) (hx : a.eval x = .pointer (some ⟨b, 0, none⟩)) (hy : a.eval y = .agg cells)
    (hi : (P.info? ty).map (·.size) = some cells.size) (hold : old.size = cells.size) (h1 : cells.all (·.oneCell') = true)
    (h : Sat g (w.setRow b cells) (cellsA b t cells :: L) → K (a.put o.dst undef) (w.setRow b cells)) : if Region.wanted o (yielded ops a.tmps) = true then Oper.wp P o a w K Q else E := by
  have hw : Region.wanted o (yielded ops a.tmps) = true := by simp [Region.wanted, hgd]
  rw [if_pos hw]
  exact wp_store_row ty x y ho b cells hx hy t old S.cells_get hi hold h1 (h (S.setRow cells))

set_option maxRecDepth 100000 in
set_option maxHeartbeats 8000000 in
theorem one_state {g w : World} {L : List Asn} {t : Nat} {T M : TreeT} {n : Nat} (S0 : Sat g w (treeA t T :: L)) (hG : GL g) (hm : oldA g ∈ L) (hM : Mod T M n) (hn : n < 100 ∨ (n < 1000 ∧ TabE g)) (o : OpT) (h1 : 1 ≤ o.does) (h4 : o.does ≤ 4) (hp : o.path.length ≤ 1000) (hd : o.data.length ≤ 1000) (ss when_ : Int) :
    Calls Tryz.prog 157 #[ptr t, opV o, .int .i64 ss, .int .i64 when_] w fun e w' => e = .returned (.tuple #[outV (stepF T o ss when_).out, chgV (stepF T o ss when_).chg, .int .i64 (stepF T o ss when_).err]) ∧ Sat g w' (treeA t (stepF T o ss when_).tree :: L) := by
  have HGL : Hid (∀ {w : World} {L' : List Asn}, Sat g w L' → oldA g ∈ L' → GL w) := fun S h => hG.at S h
  have HG0 := hide hG
  have hn9 : n < 1000 := by rcases hn with h | h <;> omega
  have hlen := hM.len_eq
  have hmlen := hM.len
  have HP := hide hM.pathsT
  have hok : ∀ a, mget T (upF o.path).1 = some a → okN n a := fun a ha => hM.at_ (by rw [← hM.get]; exact ha)
  obtain ⟨d, p, dt, v, sr, ow⟩ := o
  simp only at h1 h4 hp hd hok
  have hv := hM.at_ver p v
  rw [← hM.atF] at hv
  have S1 := ((S0.box #[.int .i64 d, .string (S p), .string (S dt), .int .i64 v, .bool sr, .bool ow] 103 rfl).box #[.string ⟨#[]⟩, .int .i64 0] 129 (b := w.heap.size + 1) (by simp)).box #[.string ⟨#[]⟩, .int .i64 0] 220 (b := w.heap.size + 1 + 1) (by simp)
  go_enter Tryz.func157, Tryz.ntmps157
  go_upto_region 1 with fail
  generalize ((w.alloc (.cells #[.int .i64 d, .string (S p), .string (S dt), .int .i64 v, .bool sr, .bool ow] 103)).alloc (.cells #[.string ⟨#[]⟩, .int .i64 0] 129)).alloc (.cells #[.string ⟨#[]⟩, .int .i64 0] 220) = w1 at *
  have hne : ¬ (w.heap.size + 1 + 1 = w.heap.size + 1) := by omega
  have hne2 : ¬ (w.heap.size + 1 = w.heap.size + 1 + 1) := by omega
  have hne3 : ¬ (w.heap.size = w.heap.size + 1) := by omega
  have hne4 : ¬ (w.heap.size = w.heap.size + 1 + 1) := by omega
  have hne5 : ¬ (w.heap.size + 1 = w.heap.size) := by omega
  have hne6 : ¬ (w.heap.size + 1 + 1 = w.heap.size) := by omega
  generalize w.heap.size + 1 + 1 = cb at *
  generalize w.heap.size + 1 = rb at *
  generalize w.heap.size = xb at *
  have q0 := S1.p2.cell 0 _ rfl
  have q1 := S1.p2.cell 1 _ rfl
  have q2 := S1.p2.cell 2 _ rfl
  have q3 := S1.p2.cell 3 _ rfl
  have q4 := S1.p2.cell 4 _ rfl
  have q5 := S1.p2.cell 5 _ rfl
  clear S0 hG
  rcases (show d = 1 ∨ d = 2 ∨ d = 3 ∨ d = 4 by omega) with rfl | rfl | rfl | rfl
  · have hcr := create_tree2 S1.p3 (HGL.out S1 (by simp [hm])) p dt (if ow = true then ss else 0) when_ sr (by omega) (by omega) (by omega) (fun a ha => ⟨(hok a ha).2.2.2.2.1, hn.elim (fun h => .inl (by have := (hok a ha).2.2.2.2.2.1; omega)) (fun h => .inr ⟨by have := (hok a ha).2.2.2.2.2.1; omega, h.2.at S1 (by simp [hm])⟩), (hok a ha).2.2.1, by have := (hok a ha).2.2.2.1; omega⟩)
    have HE : Hid (stepF T ⟨1, p, dt, v, sr, ow⟩ ss when_ = ⟨⟨(createF T p dt (if ow = true then ss else 0) when_ sr).1, 0⟩, ((createF T p dt (if ow = true then ss else 0) when_ sr).1, 1), (createF T p dt (if ow = true then ss else 0) when_ sr).2.1, (createF T p dt (if ow = true then ss else 0) when_ sr).2.2⟩) := hide rfl
    have HCR := hide hcr
    clear hcr hok hv
    cases ow
    all_goals
      simp only [if_true, if_false, Bool.false_eq_true] at HCR HE
      generalize createF T p dt _ when_ sr = X at *
      obtain ⟨x1, x2, x3⟩ := X
      simp only at HCR HE
      go_wp2_with fail
      refine HCR.out.mono ?_
      rintro e w2 ⟨rfl, S2⟩
      have S3 := S2.p2
      clear S1 S2 q0 q1 q2 q3 q4 q5
      go_wp2_with (first | ((show Go.wpList _ _ _ (Oper.mk none (Op.store _ _ _) _ _ _ _ :: _) _ _); refine wpList_sstore rfl _ (.tmp 8) (.tmp 37) rfl S3 _ rfl rfl (by kernel_rfl) rfl (by simp [Value.oneCell']) ?_; intro S4; have S4 := S4.p2) | ((show Go.wpList _ _ _ (Oper.mk none (Op.store _ _ _) _ _ _ _ :: _) _ _); refine wpList_sstore rfl _ (.tmp 9) (.tmp 39) rfl S4 _ rfl rfl (by kernel_rfl) rfl (by simp [Value.oneCell']) ?_; intro S5))
      refine bodyPost_ret (results_rows_tmp Tryz.results157 _ _ rb cb _ _ _ _ _ _ _ _ rfl rfl S5.p1.cells_get S5.cells_get Tryz.underlying129 rfl (by kernel_rfl) Tryz.underlying220 rfl (by kernel_rfl)) rfl ?_
      rw [HE.out]
      exact ⟨rfl, (S5.drop.drop.p1.drop)⟩
  · have hse := set_tree S1.p3 (HGL.out S1 (by simp [hm])) p dt v when_ (by omega) (by omega) ⟨hv.1, by have := hv.2; omega⟩
    have HE : Hid (stepF T ⟨2, p, dt, v, sr, ow⟩ ss when_ = ⟨⟨p, (setF T p dt v when_).1⟩, (p, 3), (setF T p dt v when_).2.1, (setF T p dt v when_).2.2⟩) := hide rfl
    generalize setF T p dt v when_ = X at *
    obtain ⟨x1, x2, x3⟩ := X
    simp only at hse HE
    have HSE := hide hse
    clear hse hok hv
    go_wp2_with fail
    refine HSE.out.mono ?_
    rintro e w2 ⟨rfl, S2⟩
    have S3 := S2.p2
    have q1 := Sat.cell_of S3 (t := 103) (cs := #[.int .i64 2, .string (S p), .string (S dt), .int .i64 v, .bool sr, .bool ow]) (b := xb) (by simp) 1 _ rfl
    clear S1 S2 q0 q2 q3 q4 q5
    have HX : Hid (∀ (w' : World) (L' : List Asn), Sat g w' L' → cellsA xb 103 #[.int .i64 2, .string (S p), .string (S dt), .int .i64 v, .bool sr, .bool ow] ∈ L' → w'.cell? ⟨xb, 1, none⟩ = some (.string (S p)) ∧ w'.cell? ⟨xb, 3, none⟩ = some (.int .i64 v)) := hide fun w' L' S' h => ⟨S'.cell_of h 1 _ rfl, S'.cell_of h 3 _ rfl⟩
    go_wp2_with fail
    refine wp_region_held_drew (S := (fun w' => w'.cell? ⟨xb, 1, none⟩ = some (.string (S p)) ∧ w'.cell? ⟨xb, 3, none⟩ = some (.int .i64 v))) (by kernel_rfl) ?_ (fun hHeld => ?_)
    · exact HX.out _ _ S3.drew (by simp)
    refine wpAnyH_take (i := 0) (oi := _) (v := ?_) rfl (by kernel_rfl) (by kernel_rfl) (by kernel_rfl) (fun _ _ _ h => h) (Or.inl ⟨by rfl, ?_⟩) hHeld ?_
    rotate_left
    · intro w' hSw
      (try dsimp only at hSw)
      go_simp
      try with_reducible rfl
    try simp only [Act.put, List.setIfInBounds_toArray, List.set_cons_zero, List.set_cons_succ, List.getElem_toArray, List.getElem_cons_zero, List.getElem_cons_succ]
    refine wpAnyH_take (i := 1) (oi := _) (v := ?_) rfl (by kernel_rfl) (by kernel_rfl) (by kernel_rfl) (fun _ _ _ h => h) (Or.inl ⟨by rfl, ?_⟩) hHeld ?_
    rotate_left
    · intro w' hSw
      (try dsimp only at hSw)
      go_simp
      try with_reducible rfl
    try simp only [Act.put, List.setIfInBounds_toArray, List.set_cons_zero, List.set_cons_succ, List.getElem_toArray, List.getElem_cons_zero, List.getElem_cons_succ]
    refine wpAnyH_take (i := 2) (oi := _) (v := ?_) rfl (by kernel_rfl) (by kernel_rfl) (by kernel_rfl) (fun _ _ _ h => h) (Or.inl ⟨by rfl, ?_⟩) hHeld ?_
    rotate_left
    · intro w' hSw
      (try dsimp only at hSw)
      go_simp
      try with_reducible rfl
    try simp only [Act.put, List.setIfInBounds_toArray, List.set_cons_zero, List.set_cons_succ, List.getElem_toArray, List.getElem_cons_zero, List.getElem_cons_succ]
    refine wpAnyH_take (i := 3) (oi := _) (v := ?_) rfl (by kernel_rfl) (by kernel_rfl) (by kernel_rfl) (fun _ _ _ h => h) (Or.inl ⟨by rfl, ?_⟩) hHeld ?_
    rotate_left
    · intro w' hSw
      (try dsimp only at hSw)
      go_simp
      try with_reducible rfl
    try simp only [Act.put, List.setIfInBounds_toArray, List.set_cons_zero, List.set_cons_succ, List.getElem_toArray, List.getElem_cons_zero, List.getElem_cons_succ]
    refine wpAnyH_take (i := 4) (oi := _) (v := ?_) rfl (by kernel_rfl) (by kernel_rfl) (by kernel_rfl) (fun _ _ _ h => h) (Or.inl ⟨by rfl, ?_⟩) hHeld ?_
    rotate_left
    · intro w' hSw
      (try dsimp only at hSw)
      go_simp
      try with_reducible rfl
    try simp only [Act.put, List.setIfInBounds_toArray, List.set_cons_zero, List.set_cons_succ, List.getElem_toArray, List.getElem_cons_zero, List.getElem_cons_succ]
    refine wpAnyH_take (i := 5) (oi := _) (v := ?_) rfl (by kernel_rfl) (by kernel_rfl) (by kernel_rfl) (fun _ _ _ h => h) (Or.inl ⟨by rfl, ?_⟩) hHeld ?_
    rotate_left
    · intro w' hSw
      (try dsimp only at hSw)
      go_simp
      try with_reducible rfl
    try simp only [Act.put, List.setIfInBounds_toArray, List.set_cons_zero, List.set_cons_succ, List.getElem_toArray, List.getElem_cons_zero, List.getElem_cons_succ]
    refine wpAnyH_take (i := 6) (oi := _) (v := ?_) rfl (by kernel_rfl) (by kernel_rfl) (by kernel_rfl) (fun _ _ _ h => h) (Or.inl ⟨by rfl, ?_⟩) hHeld ?_
    rotate_left
    · intro w' hSw
      (try dsimp only at hSw)
      go_simp
      try with_reducible rfl
    try simp only [Act.put, List.setIfInBounds_toArray, List.set_cons_zero, List.set_cons_succ, List.getElem_toArray, List.getElem_cons_zero, List.getElem_cons_succ]
    refine wpAnyH_take (i := 7) (oi := _) (v := ?_) rfl (by kernel_rfl) (by kernel_rfl) (by kernel_rfl) (fun _ _ _ h => h) (Or.inl ⟨by rfl, ?_⟩) hHeld ?_
    rotate_left
    · intro w' hSw
      (try dsimp only at hSw)
      go_simp
      try with_reducible rfl
    try simp only [Act.put, List.setIfInBounds_toArray, List.set_cons_zero, List.set_cons_succ, List.getElem_toArray, List.getElem_cons_zero, List.getElem_cons_succ]
    refine wpAnyH_ready (rs := [8]) (by kernel_rfl) (by simp) ?_
    refine AllReadyH.cons rfl (fun K hK => ?_) ?_
    · refine step_sstore rfl _ (.tmp 8) (.tmp 58) rfl (g := g) (S := S3.drew) _ rfl rfl (by kernel_rfl) rfl (by simp [Value.oneCell']) ?_
      intro S4
      refine hK.out _ _ ?_ (fun hHeld => ?_)
      · exact HX.out _ _ S4 (by simp)
      clear hK K
      try simp only [Act.put, List.setIfInBounds_toArray, List.set_cons_zero, List.set_cons_succ, List.getElem_toArray, List.getElem_cons_zero, List.getElem_cons_succ]
      refine wpAnyH_ready (rs := [9]) (by kernel_rfl) (by simp) ?_
      refine AllReadyH.cons rfl (fun K hK => ?_) ?_
      · refine step_sstore rfl _ (.tmp 9) (.tmp 61) rfl (g := g) (S := (Sat.p2 S4)) _ rfl rfl (by kernel_rfl) rfl (by simp [Value.oneCell']) ?_
        intro S5
        refine hK.out _ _ ?_ (fun hHeld => ?_)
        · exact HX.out _ _ S5 (by simp)
        clear hK K
        try simp only [Act.put, List.setIfInBounds_toArray, List.set_cons_zero, List.set_cons_succ, List.getElem_toArray, List.getElem_cons_zero, List.getElem_cons_succ]
        refine wpAnyH_take (i := 10) (oi := _) (v := ?_) rfl (by kernel_rfl) (by kernel_rfl) (by kernel_rfl) (fun _ _ _ h => h) (Or.inl ⟨by rfl, ?_⟩) hHeld ?_
        rotate_left
        · intro w' hSw
          (try dsimp only at hSw)
          go_simp
          try with_reducible rfl
        try simp only [Act.put, List.setIfInBounds_toArray, List.set_cons_zero, List.set_cons_succ, List.getElem_toArray, List.getElem_cons_zero, List.getElem_cons_succ]
        refine wpAnyH_done (by kernel_rfl) ?_ _
        go_wp2_with fail
        refine bodyPost_ret (results_rows_tmp Tryz.results157 _ _ rb cb _ _ _ _ _ _ _ _ rfl rfl S5.p1.cells_get S5.cells_get Tryz.underlying129 rfl (by kernel_rfl) Tryz.underlying220 rfl (by kernel_rfl)) rfl ?_
        rw [HE.out]
        exact ⟨rfl, S5.drop.drop.p1.drop⟩
      exact AllReadyH.nil
    exact AllReadyH.nil
  · have hde : Hid (∀ (w' : World) (L' : List Asn), Sat g w' (treeA t T :: L') → oldA g ∈ L' → Calls Tryz.prog 125 #[ptr t, .string (S p), .int .i64 v] w' fun e w2 => e = .returned (.int .i64 (deleteF T p v).1) ∧ Sat g w2 (treeA t (deleteF T p v).2 :: L')) := hide fun w' L' S' hm' => delete_tree S' HG0.out hm' HP.out (by omega) p v (by omega) (fun a ha => ⟨(hok a ha).2.2.1, by have := (hok a ha).2.2.2.1; omega⟩)
    have HE : Hid (stepF T ⟨3, p, dt, v, sr, ow⟩ ss when_ = ⟨⟨p, 0⟩, (p, 2), (deleteF T p v).1, (deleteF T p v).2⟩) := hide rfl
    generalize deleteF T p v = X at *
    obtain ⟨x2, x3⟩ := X
    simp only at hde HE
    clear hok hv
    have HX : Hid (∀ (w' : World) (L' : List Asn), Sat g w' L' → cellsA xb 103 #[.int .i64 3, .string (S p), .string (S dt), .int .i64 v, .bool sr, .bool ow] ∈ L' → w'.cell? ⟨xb, 1, none⟩ = some (.string (S p)) ∧ w'.cell? ⟨xb, 3, none⟩ = some (.int .i64 v)) := hide fun w' L' S' h => ⟨S'.cell_of h 1 _ rfl, S'.cell_of h 3 _ rfl⟩
    go_upto_region 12 with fail
    refine wp_region_held_drew (S := (fun w' => w'.cell? ⟨xb, 1, none⟩ = some (.string (S p)) ∧ w'.cell? ⟨xb, 3, none⟩ = some (.int .i64 v))) (by kernel_rfl) ?_ (fun hHeld => ?_)
    · exact HX.out _ _ S1.drew (by simp)
    refine wpAnyH_take (i := 0) (oi := _) (v := ?_) rfl (by kernel_rfl) (by kernel_rfl) (by kernel_rfl) (fun _ _ _ h => h) (Or.inl ⟨by rfl, ?_⟩) hHeld ?_
    rotate_left
    · intro w' hSw
      (try dsimp only at hSw)
      go_simp
      try with_reducible rfl
    try simp only [Act.put, List.setIfInBounds_toArray, List.set_cons_zero, List.set_cons_succ, List.getElem_toArray, List.getElem_cons_zero, List.getElem_cons_succ]
    refine wpAnyH_take (i := 1) (oi := _) (v := ?_) rfl (by kernel_rfl) (by kernel_rfl) (by kernel_rfl) (fun _ _ _ h => h) (Or.inl ⟨by rfl, ?_⟩) hHeld ?_
    rotate_left
    · intro w' hSw
      (try dsimp only at hSw)
      go_simp
      try with_reducible rfl
    try simp only [Act.put, List.setIfInBounds_toArray, List.set_cons_zero, List.set_cons_succ, List.getElem_toArray, List.getElem_cons_zero, List.getElem_cons_succ]
    refine wpAnyH_take (i := 2) (oi := _) (v := ?_) rfl (by kernel_rfl) (by kernel_rfl) (by kernel_rfl) (fun _ _ _ h => h) (Or.inl ⟨by rfl, ?_⟩) hHeld ?_
    rotate_left
    · intro w' hSw
      (try dsimp only at hSw)
      go_simp
      try with_reducible rfl
    try simp only [Act.put, List.setIfInBounds_toArray, List.set_cons_zero, List.set_cons_succ, List.getElem_toArray, List.getElem_cons_zero, List.getElem_cons_succ]
    refine wpAnyH_take (i := 3) (oi := _) (v := ?_) rfl (by kernel_rfl) (by kernel_rfl) (by kernel_rfl) (fun _ _ _ h => h) (Or.inl ⟨by rfl, ?_⟩) hHeld ?_
    rotate_left
    · intro w' hSw
      (try dsimp only at hSw)
      go_simp
      try with_reducible rfl
    try simp only [Act.put, List.setIfInBounds_toArray, List.set_cons_zero, List.set_cons_succ, List.getElem_toArray, List.getElem_cons_zero, List.getElem_cons_succ]
    refine wpAnyH_take (i := 4) (oi := _) (v := ?_) rfl (by kernel_rfl) (by kernel_rfl) (by kernel_rfl) (fun _ _ _ h => h) (Or.inl ⟨by rfl, ?_⟩) hHeld ?_
    rotate_left
    · intro w' hSw
      (try dsimp only at hSw)
      go_simp
      try with_reducible rfl
    try simp only [Act.put, List.setIfInBounds_toArray, List.set_cons_zero, List.set_cons_succ, List.getElem_toArray, List.getElem_cons_zero, List.getElem_cons_succ]
    refine wpAnyH_take (i := 5) (oi := _) (v := ?_) rfl (by kernel_rfl) (by kernel_rfl) (by kernel_rfl) (fun _ _ _ h => h) (Or.inl ⟨by rfl, ?_⟩) hHeld ?_
    rotate_left
    · intro w' hSw
      (try dsimp only at hSw)
      go_simp
      try with_reducible rfl
    try simp only [Act.put, List.setIfInBounds_toArray, List.set_cons_zero, List.set_cons_succ, List.getElem_toArray, List.getElem_cons_zero, List.getElem_cons_succ]
    refine wpAnyH_take (i := 6) (oi := _) (v := ?_) rfl (by kernel_rfl) (by kernel_rfl) (by kernel_rfl) (fun _ _ _ h => h) (Or.inl ⟨by rfl, ?_⟩) hHeld ?_
    rotate_left
    · intro w' hSw
      (try dsimp only at hSw)
      go_simp
      try with_reducible rfl
    try simp only [Act.put, List.setIfInBounds_toArray, List.set_cons_zero, List.set_cons_succ, List.getElem_toArray, List.getElem_cons_zero, List.getElem_cons_succ]
    refine wpAnyH_take (i := 7) (oi := _) (v := ?_) rfl (by kernel_rfl) (by kernel_rfl) (by kernel_rfl) (fun _ _ _ h => h) (Or.inl ⟨by rfl, ?_⟩) hHeld ?_
    rotate_left
    · intro w' hSw
      (try dsimp only at hSw)
      go_simp
      try with_reducible rfl
    try simp only [Act.put, List.setIfInBounds_toArray, List.set_cons_zero, List.set_cons_succ, List.getElem_toArray, List.getElem_cons_zero, List.getElem_cons_succ]
    refine wpAnyH_take (i := 8) (oi := _) (v := ?_) rfl (by kernel_rfl) (by kernel_rfl) (by kernel_rfl) (fun _ _ _ h => h) (Or.inl ⟨by rfl, ?_⟩) hHeld ?_
    rotate_left
    · intro w' hSw
      (try dsimp only at hSw)
      go_simp
      try with_reducible rfl
    try simp only [Act.put, List.setIfInBounds_toArray, List.set_cons_zero, List.set_cons_succ, List.getElem_toArray, List.getElem_cons_zero, List.getElem_cons_succ]
    refine wpAnyH_take (i := 9) (oi := _) (v := ?_) rfl (by kernel_rfl) (by kernel_rfl) (by kernel_rfl) (fun _ _ _ h => h) (Or.inl ⟨by rfl, ?_⟩) hHeld ?_
    rotate_left
    · intro w' hSw
      (try dsimp only at hSw)
      go_simp
      try with_reducible rfl
    try simp only [Act.put, List.setIfInBounds_toArray, List.set_cons_zero, List.set_cons_succ, List.getElem_toArray, List.getElem_cons_zero, List.getElem_cons_succ]
    refine wpAnyH_take (i := 10) (oi := _) (v := ?_) rfl (by kernel_rfl) (by kernel_rfl) (by kernel_rfl) (fun _ _ _ h => h) (Or.inl ⟨by rfl, ?_⟩) hHeld ?_
    rotate_left
    · intro w' hSw
      (try dsimp only at hSw)
      go_simp
      try with_reducible rfl
    try simp only [Act.put, List.setIfInBounds_toArray, List.set_cons_zero, List.set_cons_succ, List.getElem_toArray, List.getElem_cons_zero, List.getElem_cons_succ]
    refine wpAnyH_ready (rs := [11]) (by kernel_rfl) (by simp) ?_
    refine AllReadyH.cons rfl (fun K hK => ?_) ?_
    · go_simp
      go_at_call 125
      refine (hde.out _ _ (Sat.p3 (Sat.drew S1)) (by simp [hm])).mono ?_
      rintro e w2 ⟨rfl, S2⟩
      have S3 := S2.p2
      refine hK.out _ _ ?_ (fun hHeld => ?_)
      · exact HX.out _ _ S2 (by simp)
      clear hK K
      try simp only [Act.put, List.setIfInBounds_toArray, List.set_cons_zero, List.set_cons_succ, List.getElem_toArray, List.getElem_cons_zero, List.getElem_cons_succ]
      refine wpAnyH_ready (rs := [12]) (by kernel_rfl) (by simp) ?_
      refine AllReadyH.cons rfl (fun K hK => ?_) ?_
      · refine step_sstore rfl _ (.tmp 8) (.tmp 67) rfl (g := g) (S := S3) _ rfl rfl (by kernel_rfl) rfl (by simp [Value.oneCell']) ?_
        intro S4
        refine hK.out _ _ ?_ (fun hHeld => ?_)
        · exact HX.out _ _ S4 (by simp)
        clear hK K
        try simp only [Act.put, List.setIfInBounds_toArray, List.set_cons_zero, List.set_cons_succ, List.getElem_toArray, List.getElem_cons_zero, List.getElem_cons_succ]
        refine wpAnyH_ready (rs := [13]) (by kernel_rfl) (by simp) ?_
        refine AllReadyH.cons rfl (fun K hK => ?_) ?_
        · refine step_sstore rfl _ (.tmp 9) (.tmp 70) rfl (g := g) (S := (Sat.p2 S4)) _ rfl rfl (by kernel_rfl) rfl (by simp [Value.oneCell']) ?_
          intro S5
          refine hK.out _ _ ?_ (fun hHeld => ?_)
          · exact HX.out _ _ S5 (by simp)
          clear hK K
          try simp only [Act.put, List.setIfInBounds_toArray, List.set_cons_zero, List.set_cons_succ, List.getElem_toArray, List.getElem_cons_zero, List.getElem_cons_succ]
          refine wpAnyH_take (i := 14) (oi := _) (v := ?_) rfl (by kernel_rfl) (by kernel_rfl) (by kernel_rfl) (fun _ _ _ h => h) (Or.inl ⟨by rfl, ?_⟩) hHeld ?_
          rotate_left
          · intro w' hSw
            (try dsimp only at hSw)
            go_simp
            try with_reducible rfl
          try simp only [Act.put, List.setIfInBounds_toArray, List.set_cons_zero, List.set_cons_succ, List.getElem_toArray, List.getElem_cons_zero, List.getElem_cons_succ]
          refine wpAnyH_done (by kernel_rfl) ?_ _
          go_wp2_with fail
          refine bodyPost_ret (results_rows_tmp Tryz.results157 _ _ rb cb _ _ _ _ _ _ _ _ rfl rfl S5.p1.cells_get S5.cells_get Tryz.underlying129 rfl (by kernel_rfl) Tryz.underlying220 rfl (by kernel_rfl)) rfl ?_
          rw [HE.out]
          exact ⟨rfl, S5.drop.drop.p1.drop⟩
        exact AllReadyH.nil
      exact AllReadyH.nil
    exact AllReadyH.nil
  · have hde : Hid (∀ (w' : World) (L' : List Asn), Sat g w' (treeA t T :: L') → oldA g ∈ L' → Calls Tryz.prog 182 #[ptr t, .string (S p), .int .i64 v] w' fun e w2 => e = .returned (.int .i64 (atF T p v).2) ∧ Sat g w2 (treeA t T :: L')) := hide fun w' L' S' hm' => check_tree S' (HG0.out.at S' (by simp [hm'])) p v (by omega)
    have HE : Hid (stepF T ⟨4, p, dt, v, sr, ow⟩ ss when_ = ⟨⟨p, 0⟩, ([], 0), (atF T p v).2, T⟩) := hide rfl
    generalize atF T p v = X at *
    obtain ⟨x2, x3⟩ := X
    simp only at hde HE
    clear hok hv
    have HX : Hid (∀ (w' : World) (L' : List Asn), Sat g w' L' → cellsA xb 103 #[.int .i64 4, .string (S p), .string (S dt), .int .i64 v, .bool sr, .bool ow] ∈ L' → w'.cell? ⟨xb, 1, none⟩ = some (.string (S p)) ∧ w'.cell? ⟨xb, 3, none⟩ = some (.int .i64 v)) := hide fun w' L' S' h => ⟨S'.cell_of h 1 _ rfl, S'.cell_of h 3 _ rfl⟩
    go_upto_region 14 with fail
    refine wp_region_held_drew (S := (fun w' => w'.cell? ⟨xb, 1, none⟩ = some (.string (S p)) ∧ w'.cell? ⟨xb, 3, none⟩ = some (.int .i64 v))) (by kernel_rfl) ?_ (fun hHeld => ?_)
    · exact HX.out _ _ S1.drew (by simp)
    refine wpAnyH_take (i := 0) (oi := _) (v := ?_) rfl (by kernel_rfl) (by kernel_rfl) (by kernel_rfl) (fun _ _ _ h => h) (Or.inl ⟨by rfl, ?_⟩) hHeld ?_
    rotate_left
    · intro w' hSw
      (try dsimp only at hSw)
      go_simp
      try with_reducible rfl
    try simp only [Act.put, List.setIfInBounds_toArray, List.set_cons_zero, List.set_cons_succ, List.getElem_toArray, List.getElem_cons_zero, List.getElem_cons_succ]
    refine wpAnyH_take (i := 1) (oi := _) (v := ?_) rfl (by kernel_rfl) (by kernel_rfl) (by kernel_rfl) (fun _ _ _ h => h) (Or.inl ⟨by rfl, ?_⟩) hHeld ?_
    rotate_left
    · intro w' hSw
      (try dsimp only at hSw)
      go_simp
      try with_reducible rfl
    try simp only [Act.put, List.setIfInBounds_toArray, List.set_cons_zero, List.set_cons_succ, List.getElem_toArray, List.getElem_cons_zero, List.getElem_cons_succ]
    refine wpAnyH_take (i := 2) (oi := _) (v := ?_) rfl (by kernel_rfl) (by kernel_rfl) (by kernel_rfl) (fun _ _ _ h => h) (Or.inl ⟨by rfl, ?_⟩) hHeld ?_
    rotate_left
    · intro w' hSw
      (try dsimp only at hSw)
      go_simp
      try with_reducible rfl
    try simp only [Act.put, List.setIfInBounds_toArray, List.set_cons_zero, List.set_cons_succ, List.getElem_toArray, List.getElem_cons_zero, List.getElem_cons_succ]
    refine wpAnyH_take (i := 3) (oi := _) (v := ?_) rfl (by kernel_rfl) (by kernel_rfl) (by kernel_rfl) (fun _ _ _ h => h) (Or.inl ⟨by rfl, ?_⟩) hHeld ?_
    rotate_left
    · intro w' hSw
      (try dsimp only at hSw)
      go_simp
      try with_reducible rfl
    try simp only [Act.put, List.setIfInBounds_toArray, List.set_cons_zero, List.set_cons_succ, List.getElem_toArray, List.getElem_cons_zero, List.getElem_cons_succ]
    refine wpAnyH_take (i := 4) (oi := _) (v := ?_) rfl (by kernel_rfl) (by kernel_rfl) (by kernel_rfl) (fun _ _ _ h => h) (Or.inl ⟨by rfl, ?_⟩) hHeld ?_
    rotate_left
    · intro w' hSw
      (try dsimp only at hSw)
      go_simp
      try with_reducible rfl
    try simp only [Act.put, List.setIfInBounds_toArray, List.set_cons_zero, List.set_cons_succ, List.getElem_toArray, List.getElem_cons_zero, List.getElem_cons_succ]
    refine wpAnyH_take (i := 5) (oi := _) (v := ?_) rfl (by kernel_rfl) (by kernel_rfl) (by kernel_rfl) (fun _ _ _ h => h) (Or.inl ⟨by rfl, ?_⟩) hHeld ?_
    rotate_left
    · intro w' hSw
      (try dsimp only at hSw)
      go_simp
      try with_reducible rfl
    try simp only [Act.put, List.setIfInBounds_toArray, List.set_cons_zero, List.set_cons_succ, List.getElem_toArray, List.getElem_cons_zero, List.getElem_cons_succ]
    refine wpAnyH_take (i := 6) (oi := _) (v := ?_) rfl (by kernel_rfl) (by kernel_rfl) (by kernel_rfl) (fun _ _ _ h => h) (Or.inl ⟨by rfl, ?_⟩) hHeld ?_
    rotate_left
    · intro w' hSw
      (try dsimp only at hSw)
      go_simp
      try with_reducible rfl
    try simp only [Act.put, List.setIfInBounds_toArray, List.set_cons_zero, List.set_cons_succ, List.getElem_toArray, List.getElem_cons_zero, List.getElem_cons_succ]
    refine wpAnyH_take (i := 7) (oi := _) (v := ?_) rfl (by kernel_rfl) (by kernel_rfl) (by kernel_rfl) (fun _ _ _ h => h) (Or.inl ⟨by rfl, ?_⟩) hHeld ?_
    rotate_left
    · intro w' hSw
      (try dsimp only at hSw)
      go_simp
      try with_reducible rfl
    try simp only [Act.put, List.setIfInBounds_toArray, List.set_cons_zero, List.set_cons_succ, List.getElem_toArray, List.getElem_cons_zero, List.getElem_cons_succ]
    refine wpAnyH_take (i := 8) (oi := _) (v := ?_) rfl (by kernel_rfl) (by kernel_rfl) (by kernel_rfl) (fun _ _ _ h => h) (Or.inl ⟨by rfl, ?_⟩) hHeld ?_
    rotate_left
    · intro w' hSw
      (try dsimp only at hSw)
      go_simp
      try with_reducible rfl
    try simp only [Act.put, List.setIfInBounds_toArray, List.set_cons_zero, List.set_cons_succ, List.getElem_toArray, List.getElem_cons_zero, List.getElem_cons_succ]
    refine wpAnyH_ready (rs := [9]) (by kernel_rfl) (by simp) ?_
    refine AllReadyH.cons rfl (fun K hK => ?_) ?_
    · go_simp
      go_at_call 182
      refine (hde.out _ _ (Sat.p3 (Sat.drew S1)) (by simp [hm])).mono ?_
      rintro e w2 ⟨rfl, S2⟩
      have S3 := S2.p2
      refine hK.out _ _ ?_ (fun hHeld => ?_)
      · exact HX.out _ _ S2 (by simp)
      clear hK K
      try simp only [Act.put, List.setIfInBounds_toArray, List.set_cons_zero, List.set_cons_succ, List.getElem_toArray, List.getElem_cons_zero, List.getElem_cons_succ]
      refine wpAnyH_ready (rs := [10]) (by kernel_rfl) (by simp) ?_
      refine AllReadyH.cons rfl (fun K hK => ?_) ?_
      · refine step_sstore rfl _ (.tmp 8) (.tmp 81) rfl (g := g) (S := S3) _ rfl rfl (by kernel_rfl) rfl (by simp [Value.oneCell']) ?_
        intro S4
        refine hK.out _ _ ?_ (fun hHeld => ?_)
        · exact HX.out _ _ S4 (by simp)
        clear hK K
        try simp only [Act.put, List.setIfInBounds_toArray, List.set_cons_zero, List.set_cons_succ, List.getElem_toArray, List.getElem_cons_zero, List.getElem_cons_succ]
        refine wpAnyH_ready (rs := [11]) (by kernel_rfl) (by simp) ?_
        refine AllReadyH.cons rfl (fun K hK => ?_) ?_
        · refine step_sstore rfl _ (.tmp 9) (.tmp 82) rfl (g := g) (S := (Sat.p2 S4)) _ rfl rfl (by kernel_rfl) rfl (by simp [Value.oneCell']) ?_
          intro S5
          refine hK.out _ _ ?_ (fun hHeld => ?_)
          · exact HX.out _ _ S5 (by simp)
          clear hK K
          try simp only [Act.put, List.setIfInBounds_toArray, List.set_cons_zero, List.set_cons_succ, List.getElem_toArray, List.getElem_cons_zero, List.getElem_cons_succ]
          refine wpAnyH_take (i := 12) (oi := _) (v := ?_) rfl (by kernel_rfl) (by kernel_rfl) (by kernel_rfl) (fun _ _ _ h => h) (Or.inl ⟨by rfl, ?_⟩) hHeld ?_
          rotate_left
          · intro w' hSw
            (try dsimp only at hSw)
            go_simp
            try with_reducible rfl
          try simp only [Act.put, List.setIfInBounds_toArray, List.set_cons_zero, List.set_cons_succ, List.getElem_toArray, List.getElem_cons_zero, List.getElem_cons_succ]
          refine wpAnyH_done (by kernel_rfl) ?_ _
          go_wp2_with fail
          refine bodyPost_ret (results_rows_tmp Tryz.results157 _ _ rb cb _ _ _ _ _ _ _ _ rfl rfl S5.p1.cells_get S5.cells_get Tryz.underlying129 rfl (by kernel_rfl) Tryz.underlying220 rfl (by kernel_rfl)) rfl ?_
          rw [HE.out]
          exact ⟨rfl, S5.drop.drop.p1.drop⟩
        exact AllReadyH.nil
      exact AllReadyH.nil
    exact AllReadyH.nil
end Go.Proofs.YthgiamofndhehaaGreatDoor
