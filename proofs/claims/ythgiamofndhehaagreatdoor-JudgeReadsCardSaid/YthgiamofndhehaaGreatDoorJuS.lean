/- An answer that is too old; JudgeReads: walked. No condition. -/
import Derived.Test.YthgiamofndhehaaGreatDoorJuR
import Derived.Test.YthgiamofndhehaaGreatDoorJuL
set_option linter.unusedVariables false
set_option linter.unusedSimpArgs false
namespace Go.Proofs.YthgiamofndhehaaGreatDoor
open Go.RowKit

set_option maxRecDepth 100000 in
set_option maxHeartbeats 4000000 in
theorem read_old {g w : World} {L : List Asn} {b : Nat} {m : JTx} {ss : List StT} {told wrong : Int} {re at_ : Int} {r1 r2 r3 r4 n0 n1 n2 n3 n4 n5 n6 kv ev ld : Value} (S0 : Sat g w (judgeA b m ss told wrong :: L)) (h1 : re ≠ 21) (least : Int) (h4 : at_ < least) (sv : Value) :
    Calls Tryz.prog 18 #[ptr b, sv, .agg #[.int .i64 re, r1, r2, r3, r4, n0, n1, n2, n3, n4, n5, n6, kv, ev, .int .i64 at_, ld], .int .i64 least] w fun e w' => e = .returned (.bool false) ∧ Sat g w' (judgeA b m ss told 6 :: L) := by
  have S2 := S0.box #[.int .i64 re, r1, r2, r3, r4, n0, n1, n2, n3, n4, n5, n6, kv, ev, .int .i64 at_, ld] 55 rfl
  have y0 := S2.cell 0 _ rfl
  have y14 := S2.cell 14 _ rfl
  have k1 : (re == 21) = false := by simpa using h1
  have HD : Hid (decide (at_ < least) = true) := hide (by simpa using h4)
  have HS := hide S2
  have HY : Hid (∀ (w' : World) (L' : List Asn), Sat g w' L' → cellsA w.heap.size 55 #[.int .i64 re, r1, r2, r3, r4, n0, n1, n2, n3, n4, n5, n6, kv, ev, .int .i64 at_, ld] ∈ L' → w'.cell? ⟨w.heap.size, 14, none⟩ = some (.int .i64 at_)) := hide fun w' L' S' h => S'.cell_of h 14 _ rfl
  clear S0 S2 h1 h4
  go_enter Tryz.func18, Tryz.ntmps18
  go_wp2_with fail
  generalize w.heap.size = rb at *
  refine wp_region_held_drew (S := (fun w' => w'.cell? ⟨rb, 14, none⟩ = some (.int .i64 at_))) (by kernel_rfl) ?_ (fun hHeld => ?_)
  · exact HY.out _ _ HS.out.drew (by simp)
  refine wpAnyH_take (i := 0) (oi := _) (v := ?_) rfl (by kernel_rfl) (by kernel_rfl) (by kernel_rfl) (fun _ _ _ h => h) (Or.inl ⟨by rfl, ?_⟩) hHeld ?_
  rotate_left
  · intro w' hSw
    (try dsimp only at hSw)
    go_simp
    try with_reducible rfl
  try simp only [Act.put, List.setIfInBounds_toArray, List.set_cons_zero, List.set_cons_succ, List.getElem_toArray, List.getElem_cons_zero, List.getElem_cons_succ]
  refine wpAnyH_take (i := 1) (oi := _) (v := ?_) rfl (by kernel_rfl) (by kernel_rfl) (by kernel_rfl) (fun _ _ _ h => h) (Or.inl ⟨by rfl, ?_⟩) hHeld ?_
  rotate_left
  · intro w' hSw
    (try dsimp only at hSw)
    go_simp
    try with_reducible rfl
  try simp only [Act.put, List.setIfInBounds_toArray, List.set_cons_zero, List.set_cons_succ, List.getElem_toArray, List.getElem_cons_zero, List.getElem_cons_succ]
  refine wpAnyH_take (i := 2) (oi := _) (v := ?_) rfl (by kernel_rfl) (by kernel_rfl) (by kernel_rfl) (fun _ _ _ h => h) (Or.inl ⟨by rfl, ?_⟩) hHeld ?_
  rotate_left
  · intro w' hSw
    (try dsimp only at hSw)
    go_simp
    try with_reducible rfl
  try simp only [Act.put, List.setIfInBounds_toArray, List.set_cons_zero, List.set_cons_succ, List.getElem_toArray, List.getElem_cons_zero, List.getElem_cons_succ]
  refine wpAnyH_take (i := 3) (oi := _) (v := ?_) rfl (by kernel_rfl) (by kernel_rfl) (by kernel_rfl) (fun _ _ _ h => h) (Or.inl ⟨by rfl, ?_⟩) hHeld ?_
  rotate_left
  · intro w' hSw
    (try dsimp only at hSw)
    go_simp
    try with_reducible rfl
  try simp only [Act.put, List.setIfInBounds_toArray, List.set_cons_zero, List.set_cons_succ, List.getElem_toArray, List.getElem_cons_zero, List.getElem_cons_succ]
  refine wpAnyH_take (i := 4) (oi := _) (v := ?_) rfl (by kernel_rfl) (by kernel_rfl) (by kernel_rfl) (fun _ _ _ h => h) (Or.inl ⟨by rfl, ?_⟩) hHeld ?_
  rotate_left
  · intro w' hSw
    (try dsimp only at hSw)
    go_simp
    try with_reducible rfl
  try simp only [Act.put, List.setIfInBounds_toArray, List.set_cons_zero, List.set_cons_succ, List.getElem_toArray, List.getElem_cons_zero, List.getElem_cons_succ]
  refine wpAnyH_ready (rs := [5]) (by kernel_rfl) (by simp) ?_
  refine AllReadyH.cons rfl (fun K hK => ?_) ?_
  · go_simp
    rw [HD.out]
    go_at_call 38
    refine (j_bad (g := g) (b := b) (m := m) (ss := ss) (told := told) (wrong := wrong) (by (repeat (first | refine Sat.drew ?_ | refine Sat.drewN ?_ _)); exact (HS.out.bring 1)) true).mono ?_
    rintro e w3 ⟨rfl, S3⟩
    have z3 := HY.out _ _ S3 (by simp)
    refine hK.out _ _ ?_ (fun hHeld => ?_)
    · exact HY.out _ _ S3 (by simp)
    clear hK K
    try simp only [Act.put, List.setIfInBounds_toArray, List.set_cons_zero, List.set_cons_succ, List.getElem_toArray, List.getElem_cons_zero, List.getElem_cons_succ]
    refine wpAnyH_take (i := 6) (oi := _) (v := ?_) rfl (by kernel_rfl) (by kernel_rfl) (by kernel_rfl) (fun _ _ _ h => h) (Or.inl ⟨by rfl, ?_⟩) hHeld ?_
    rotate_left
    · intro w' hSw
      (try dsimp only at hSw)
      go_simp
      try with_reducible rfl
    try simp only [Act.put, List.setIfInBounds_toArray, List.set_cons_zero, List.set_cons_succ, List.getElem_toArray, List.getElem_cons_zero, List.getElem_cons_succ]
    refine wpAnyH_take (i := 7) (oi := _) (v := ?_) rfl (by kernel_rfl) (by kernel_rfl) (by kernel_rfl) (fun _ _ _ h => h) (Or.inl ⟨by rfl, ?_⟩) hHeld ?_
    rotate_left
    · intro w' hSw
      (try dsimp only at hSw)
      go_simp
      try with_reducible rfl
    try simp only [Act.put, List.setIfInBounds_toArray, List.set_cons_zero, List.set_cons_succ, List.getElem_toArray, List.getElem_cons_zero, List.getElem_cons_succ]
    refine wpAnyH_take (i := 8) (oi := _) (v := undef) rfl (by kernel_rfl) (by kernel_rfl) (by kernel_rfl) (fun _ _ _ h => h) (Or.inr ⟨by rfl, rfl⟩) hHeld ?_
    try simp only [Act.put, List.setIfInBounds_toArray, List.set_cons_zero, List.set_cons_succ, List.getElem_toArray, List.getElem_cons_zero, List.getElem_cons_succ]
    refine wpAnyH_take (i := 9) (oi := _) (v := undef) rfl (by kernel_rfl) (by kernel_rfl) (by kernel_rfl) (fun _ _ _ h => h) (Or.inr ⟨by rfl, rfl⟩) hHeld ?_
    try simp only [Act.put, List.setIfInBounds_toArray, List.set_cons_zero, List.set_cons_succ, List.getElem_toArray, List.getElem_cons_zero, List.getElem_cons_succ]
    refine wpAnyH_take (i := 10) (oi := _) (v := undef) rfl (by kernel_rfl) (by kernel_rfl) (by kernel_rfl) (fun _ _ _ h => h) (Or.inr ⟨by rfl, rfl⟩) hHeld ?_
    try simp only [Act.put, List.setIfInBounds_toArray, List.set_cons_zero, List.set_cons_succ, List.getElem_toArray, List.getElem_cons_zero, List.getElem_cons_succ]
    refine wpAnyH_take (i := 11) (oi := _) (v := undef) rfl (by kernel_rfl) (by kernel_rfl) (by kernel_rfl) (fun _ _ _ h => h) (Or.inr ⟨by rfl, rfl⟩) hHeld ?_
    try simp only [Act.put, List.setIfInBounds_toArray, List.set_cons_zero, List.set_cons_succ, List.getElem_toArray, List.getElem_cons_zero, List.getElem_cons_succ]
    refine wpAnyH_take (i := 12) (oi := _) (v := undef) rfl (by kernel_rfl) (by kernel_rfl) (by kernel_rfl) (fun _ _ _ h => h) (Or.inr ⟨by rfl, rfl⟩) hHeld ?_
    try simp only [Act.put, List.setIfInBounds_toArray, List.set_cons_zero, List.set_cons_succ, List.getElem_toArray, List.getElem_cons_zero, List.getElem_cons_succ]
    refine wpAnyH_take (i := 13) (oi := _) (v := ?_) rfl (by kernel_rfl) (by kernel_rfl) (by kernel_rfl) (fun _ _ _ h => h) (Or.inl ⟨by rfl, ?_⟩) hHeld ?_
    rotate_left
    · intro w' hSw
      (try dsimp only at hSw)
      go_simp
      try with_reducible rfl
    try simp only [Act.put, List.setIfInBounds_toArray, List.set_cons_zero, List.set_cons_succ, List.getElem_toArray, List.getElem_cons_zero, List.getElem_cons_succ]
    refine wpAnyH_done (by kernel_rfl) ?_ _
    clear z3
    obtain ⟨tb, eb, A, c, ps, h, hl2, S5⟩ := S3.judgeOpen
    have x4 := S5.cell 4 _ rfl
    clear S5
    go_wp2_with fail
    go_ret
    exact ⟨rfl, (S3.bring 1).drop⟩
  exact AllReadyH.nil

theorem RelS.getF {s u : StT} (h : RelS s u) (p : List UInt8) : Go.Proofs.YthgiamofndhehaaGreatDoor.getF u.tree p = Go.Proofs.YthgiamofndhehaaGreatDoor.getF s.tree p := by
  obtain ⟨M, n, h1, h2⟩ := h.tree
  rw [h1.getF, h2.getF]
theorem RelS.kids {s u : StT} (h : RelS s u) (p : List UInt8) : kidsF u.tree p = kidsF s.tree p := by
  obtain ⟨M, n, h1, h2⟩ := h.tree
  have e := h.getF p
  by_cases h0 : (Go.Proofs.YthgiamofndhehaaGreatDoor.getF s.tree p).2 = 0
  · rw [h1.kids h0, h2.kids (by rw [e]; exact h0)]
  · unfold kidsF
    rw [e, if_neg h0, if_neg h0]
theorem FitS.get_le {s : StT} {kk mm : Nat} (h : FitS s kk mm) (p : List UInt8) : (Go.Proofs.YthgiamofndhehaaGreatDoor.getF s.tree p).1.data.length ≤ 60 ∧ 0 ≤ (Go.Proofs.YthgiamofndhehaaGreatDoor.getF s.tree p).2 ∧ (Go.Proofs.YthgiamofndhehaaGreatDoor.getF s.tree p).2 ≤ 11 := by
  obtain ⟨M, n, hM, -, -⟩ := h.it
  unfold Go.Proofs.YthgiamofndhehaaGreatDoor.getF
  have hc : 0 ≤ checkF p ∧ checkF p ≤ 10 := by
    unfold checkF
    split
    · omega
    · split
      · omega
      · split <;> omega
  split
  · split
    · rename_i hx
      rw [hM.tree.get] at hx
      have := (hM.tree.num _ (mget_mem hx)).2.2.2.2.2.2.2.2.2.2.2.2
      exact ⟨this, by simp, by simp⟩
    · simp [zN]
  · exact ⟨by simp [zN], hc.1, by have := hc.2; omega⟩
/-- a struct stored into a part of a block -/
theorem wpList_sstore_at {P : Program} {g w : World} {L : List Asn} {ops : Array Oper} {rest : List Oper} {o : Oper} {a : Act} {Q : Exit → Act → World → Prop} (hgd : o.guard = none) (ty : TypeId) (x y : Operand) (ho : o.op = .store ty x y)
    {b off : Nat} {t : TypeId} {old : Array Value} (S0 : Sat g w (cellsA b t old :: L)) (cells : Array Value) (hx : a.eval x = .pointer (some ⟨b, off, none⟩)) (hy : a.eval y = .agg cells)
    (hi : (P.info? ty).map (·.size) = some cells.size) (hold : off + cells.size ≤ old.size) (h1 : cells.all (·.oneCell') = true) (new : Array Value) (hnew : (old.toList.take off ++ cells.toList ++ old.toList.drop (off + cells.size)).toArray = new)
    (h : Sat g (w.setRow b new) (cellsA b t new :: L) → wpList P ops Q rest (a.put o.dst undef) (w.setRow b new)) : wpList P ops Q (o :: rest) a w := by
  refine wpList_plain hgd fun _ hK => ?_
  have hs := run_storeCells_at (P := P) b off t cells.toList 0 old w S0.cells_get (by simp; omega) (fun v hv => (Array.all_eq_true_iff_forall_mem.1 h1) v (by simpa using hv))
  simp only [Nat.add_zero, Array.length_toList] at hs
  rw [hnew] at hs
  have hv : (storeVar ty ⟨b, off, none⟩ (.agg cells)).run P w = .ok () (w.setRow b new) := by
    cases hq : P.info? ty with
    | none => simp [hq] at hi
    | some i =>
      have hsz : cells.size = i.size := by simp [hq] at hi; omega
      simp [storeVar, sizeOf, typeInfo, hq, Value.cells, hsz, hs]
  have h2 := hK _ _ (h (S0.setRow new))
  unfold Oper.wp execOp
  simp only [ho, hx, hy, Instr.storeAt, Instr.sureAddr, Sem.run_bind, Sem.run_pure, Result.andThen_ok, hv]
  exact h2

set_option maxRecDepth 100000 in
set_option maxHeartbeats 32000000 in
theorem jreads_walk (W : World) (hG : GL W) (hT : TabE W) (A0 : Option Addr) (q0 : List CQ) (c0 : Nat) (at0 least how : Int) (sp : List UInt8) (hs0 : Src W 8 A0 q0.length (q0.flatMap cqL)) (hk0 : ∀ q ∈ q0, CqOk W q) (hl0 : q0.length ≤ 9223372036854775807) :
    Calls Tryz.prog 4 #[.slice A0 q0.length c0, .int .i64 at0, .int .i64 least, .int .i64 how, .string (S sp)] W fun e W' => e = .returned (.bool true) ∧ Keeps (fun _ => False) W W' := by
  have HG0 := hide hG
  have HT0 := hide hT
  have HF0 := hide fun (w' : World) (L' : List Asn) (S' : Sat W w' L') (h : oldA W ∈ L') => s_fewq S' h q0 A0 c0 hs0 hk0 hl0
  have HFX := hide fun (w' : World) (L' : List Asn) (S' : Sat W w' L') (h : oldA W ∈ L') (hl : q0.length ≤ 40) => fixed_walk S' h hG hT A0 q0 c0 hs0 hk0 hl
  clear hs0 hk0 hG hT
  go_enter Tryz.func4, Tryz.ntmps4
  go_wp2_with fail
  refine (head_judge (Sat.start W) HG0.out (by simp) HT0.out).mono ?_
  rintro e w1 ⟨rfl, S1⟩
  go_wp2_with fail
  refine (HF0.out _ _ S1 (by simp)).mono ?_
  rintro e w2 ⟨he, S2⟩
  clear S1 HF0
  rcases he with rfl | ⟨rfl, h40⟩
  · have HS := hide S2.keep_all
    clear S2
    go_wp2_with fail
    go_ret
    exact ⟨rfl, HS.out⟩
  by_cases ho : 100 < sp.length
  · have ho2 : (100 : Int) < (sp.length : Int) := by omega
    have HS := hide S2.keep_all
    clear S2
    go_wp2_with fail
    go_ret
    exact ⟨rfl, HS.out⟩
  have ho2 : ¬ (100 : Int) < (sp.length : Int) := by omega
  have hspl : sp.length ≤ 100 := by omega
  go_wp2_with fail
  clear ho2 ho
  refine (HFX.out _ _ S2 (by simp) (by omega)).mono ?_
  rintro e w3 ⟨T, A5, A6, c5, c6, ps, rfl, hTl, hF, S3⟩
  have HF := hide hF
  have hTb : T.length ≤ 43 := by omega
  have hTp : 3 ≤ T.length := by omega
  have hpl := hF.len
  have hpb : ps.length ≤ 44 := by omega
  have hpp : 1 ≤ ps.length := by omega
  have HPL := hide hpl
  clear S2 HFX hF hTl hpl
  go_wp2_with fail
  refine (new_j S3).mono ?_
  rintro e w4 ⟨b, rfl, S4⟩
  clear S3
  go_wp2_with fail
  go_loopw [41] (fun i wr => ∃ k : Nat, k ≤ T.length ∧ i = .int .i64 (k : Int) ∧ ∃ (sn1 : List Bool) (m1 : JTx) (ss1 : List StT), JOk m1 ss1 ∧ mget m1 (ss1.length : Int) = none ∧ SeenOk T sn1 m1 ∧ (∀ i, i < T.length → sn1[i + 1]? = some (decide (i < k))) ∧ Sat W wr (judgeA b m1 ss1 0 0 :: rowA 9 1 (.slice A5 T.length c5) T.length (Ss T) :: jR (.slice A6 ps.length c6) ps :: jS ps :: [oldA W])) (fun i _ => T.length - (RowKit.intOf i).toNat)
  case atStart => exact ⟨0, by omega, rfl, _, [], [st0], JOk.init, rfl, SeenOk.init T, fun i hi => by simp [List.getElem?_replicate]; omega, S4⟩
  case round =>
    obtain ⟨k, hk, rfl, sn1, m1, ss1, hJ, hfull, hSN, hP, S6⟩ := hrel
    clear S4
    have HJ1 := hide hJ
    have HFU1 := hide hfull
    have HSN1 := hide hSN
    have HP1 := hide hP
    clear hJ hfull hSN hP
    by_cases hlt : k < T.length
    · have hlt3 : (k : Int) < (T.length : Int) := by omega
      obtain ⟨adx, u, eadx, hu, zt⟩ := Src.at_ (S6.bring 1).srcOf (k := k) (by omega)
      subst eadx
      obtain ⟨t, ht, rfl⟩ : ∃ t, T[k]? = some t ∧ u = .string (S t) := by
        rw [show Ss T = T.map fun s => Value.string (S s) from rfl, List.getElem?_map] at hu
        cases h3 : T[k]? with
        | none => rw [h3] at hu; cases hu
        | some t2 => rw [h3] at hu; injection hu with hu; exact ⟨t2, rfl, hu.symm⟩
      have hw5 : IntKind.i64.wrap ((k : Int) + 1) = (k : Int) + 1 := IntWalk.i64_in _ ⟨by omega, by omega⟩
      have hco := commit_seen S6 HG0.out (by simp) HT0.out HJ1.out HFU1.out HSN1.out HF.out.tl hTb ht
      clear hu ht
      go_wp2_with fail
      refine hco.mono ?_
      rintro e w7 ⟨m2, ss2, rfl, hJ2, hF2, hSN2, S7⟩
      have HJ2 := hide hJ2
      have HF2 := hide hF2
      have HS2 := hide hSN2
      clear S6 hco zt hJ2 hF2 hSN2
      go_wp2_with fail
      go_roundw
      case rel => exact ⟨k + 1, by omega, by go_num, sn1.set (k + 1) true, m2, ss2, HJ2.out, HF2.out, HS2.out, fun i hi => by
          have hln := HSN1.out.len
          by_cases e : i = k
          · subst e
            rw [List.getElem?_set_self (by omega)]
            simp
          · rw [List.getElem?_set_ne (by omega), HP1.out i hi]
            congr 1
            rw [decide_eq_decide]
            omega, S7⟩
      case measure => simp [RowKit.intOf]; omega
    · obtain rfl : k = T.length := by omega
      have hsl1 : ss1.length = T.length + 1 := HSN1.out.known HJ1.out HFU1.out (Nat.le_refl _) (fun i hi => by rw [HP1.out i hi]; simp [hi]) HSN1.out.last

      have hKq : 0 ≤ bits .and .i64 at0 255 ∧ bits .and .i64 at0 255 ≤ 255 := and_le at0 255 (by decide)
      have hKq1 := hKq.1
      obtain ⟨q, hq⟩ : ∃ q : Nat, (bits .and .i64 at0 255).tmod (ps.length : Int) = (q : Int) := ⟨(bits .and .i64 at0 255 % (ps.length : Int)).toNat, by
        rw [Int.tmod_eq_emod_of_nonneg hKq.1]
        have := Int.emod_nonneg (bits .and .i64 at0 255) (b := (ps.length : Int)) (by omega)
        omega⟩
      have hq2 : (q : Int) < (ps.length : Int) := by
        have := Int.emod_lt_of_pos (bits .and .i64 at0 255) (b := (ps.length : Int)) (by omega)
        rw [← Int.tmod_eq_emod_of_nonneg hKq.1, hq] at this
        omega

      have hqn : q < ps.length := by omega
      obtain ⟨⟨sb, sq⟩, hp⟩ : ∃ p, ps[q]? = some p := ⟨_, List.getElem?_eq_getElem hqn⟩
      obtain ⟨hr1, hf1⟩ : RelS (chainF (listF T) q) sq ∧ FitS sq (1 + 8 * q) q := HF.out.st q _ hp
      have hqs : q < ss1.length := by have := HPL.out; omega
      obtain ⟨sj, hsj⟩ : ∃ s, ss1[q]? = some s := ⟨_, List.getElem?_eq_getElem hqs⟩
      have hrj : RelS sq sj := by
        have h1 := (HJ1.out.st q sj hsj).1
        have e1 : chainS m1 q = chainF (listF T) q := chainF_eq q fun j hj => by
          have hj2 : j < T.length := by have := HPL.out; omega
          have := HSN1.out.got j hj2 (by rw [HP1.out j hj2]; simp [hj2])
          rw [show (((j + 1 : Nat)) : Int) = (j : Int) + 1 by omega] at this
          simp only [mapF, listF, this]
        rw [e1] at h1
        exact hr1.symm.trans h1
      have HSJ := hide hsj
      obtain ⟨gl1, gl2, gl3⟩ := hf1.get_le sp
      have hge := hrj.getF sp
      have hke := hrj.kids sp
      obtain ⟨M9, n9, hM9, -, -⟩ := hf1.it
      have hlM := hM9.tree.len
      have hlE := hM9.tree.len_eq
      obtain ⟨t, ts, bk, S7⟩ := ((S6.bring 3).jAt hp).stateOpen
      have S8 := S7.bring 1
      have HGET := hide fun (w' : World) (L' : List Asn) (S' : Sat W w' (treeA t sq.tree :: L')) (h : oldA W ∈ L') => get_tree S' (GL.at HG0.out S' (by simp [h])) sp (by omega)
      have HKID := hide fun (w' : World) (L' : List Asn) (S' : Sat W w' (treeA t sq.tree :: L')) (h : oldA W ∈ L') => kids_tree S' (GL.at HG0.out S' (by simp [h])) hM9.tree.pathsT (by omega) sp (by omega)
      obtain ⟨adp, u, eadp, hu, zp⟩ := Src.at_ (S8.bring 7).srcOf (k := q) hqn
      subst eadp
      have HX : Hid (∀ (w' : World) (L' : List Asn), Sat W w' L' → jR (.slice (some adp) ps.length c6) ps ∈ L' → cellsA sb 47 #[ptr t, ptr ts, ptr bk, .int .i64 sq.at_] ∈ L' → w'.cell? (adp.add q) = some (ptr sb) ∧ w'.cell? ⟨sb, 0, none⟩ = some (ptr t)) := hide fun w' L' S' h2 h4 => ⟨(by
        obtain ⟨L3, S3⟩ := S'.mem_ h2
        obtain ⟨ad2, u2, e2, hu2, z2⟩ := Src.at_ S3.srcOf (k := q) hqn
        cases e2
        rw [List.getElem?_map, hp] at hu2
        cases hu2
        exact z2), S'.cell_of h4 0 _ rfl⟩
      generalize hG9 : Go.Proofs.YthgiamofndhehaaGreatDoor.getF sq.tree sp = G9 at *
      generalize hK9 : kidsF sq.tree sp = K at *
      obtain ⟨N, E⟩ := G9
      simp only at HGET HKID gl1 gl2 gl3
      have HGE := hide hge
      have HKE := hide hke
      have hkl60 : K.length ≤ 60 := by
        rw [← hK9]
        unfold kidsF
        split
        · rw [sortB_length]
          exact Nat.le_trans (kidL_length _ _) (by omega)
        · simp
      have hq0 : (0 : Int) ≤ (q : Int) := by omega
      obtain ⟨z1, z2⟩ := HX.out _ _ S8 (by simp [bringA]) (by simp [bringA])
      clear S6 S7 hu zp hp hr1 hf1 hsj hrj hge hke hM9 hlM hlE hG9 hK9 hpp
      go_wp2_with fail
      refine (HGET.out _ _ S8 (by simp)).mono ?_
      rintro e w9 ⟨rfl, S9⟩
      clear S8 z1 z2
      have S10 := S9.box (nodC N) 39 rfl
      go_upto_region 14 with fail
      generalize w9.alloc (.cells (nodC N) 39) = w10 at *
      generalize w9.heap.size = nb at *
      clear S9
      obtain ⟨z1, z2⟩ := HX.out _ _ S10 (by simp) (by simp)
      go_wp2_with fail
      refine (HKID.out _ _ (S10.bring 1) (by simp)).mono ?_
      rintro e w11 ⟨v11, rfl, S11⟩
      obtain ⟨A9, c9, rfl, -⟩ := S11.row.form
      clear S10 z1 z2 HGET HKID
      have n0 := (S11.bring 2).cell 0 _ rfl
      have n1 := (S11.bring 2).cell 1 _ rfl
      have n2 := (S11.bring 2).cell 2 _ rfl
      have n3 := (S11.bring 2).cell 3 _ rfl
      have n4 := (S11.bring 2).cell 4 _ rfl
      have n5 := (S11.bring 2).cell 5 _ rfl
      have n6 := (S11.bring 2).cell 6 _ rfl
      have S12 := S11.box #[.int .i64 E, .int .i64 0, .int .i64 0, .slice none 0 0, .int .i64 0, .string (S N.data), .int .i64 N.version, .int .i64 N.below, .int .i64 N.owner, .int .i64 N.made, .int .i64 N.set, .int .i64 N.serial, .slice A9 K.length c9, .slice none 0 0, .int .i64 (q : Int), .int .i64 0] 55 rfl
      go_upto_region 16 with fail
      generalize w11.alloc (.cells #[.int .i64 E, .int .i64 0, .int .i64 0, .slice none 0 0, .int .i64 0, .string (S N.data), .int .i64 N.version, .int .i64 N.below, .int .i64 N.owner, .int .i64 N.made, .int .i64 N.set, .int .i64 N.serial, .slice A9 K.length c9, .slice none 0 0, .int .i64 (q : Int), .int .i64 0] 55) = w12 at *
      generalize w11.heap.size = ab at *
      clear S11 n0 n1 n2 n3 n4 n5 n6
      have hwq : IntKind.i64.wrap ((q : Int) + 1) = (q : Int) + 1 := IntWalk.i64_in _ ⟨by omega, by omega⟩
      have hKl : 0 ≤ bits .and .i64 least 255 ∧ bits .and .i64 least 255 ≤ 255 := and_le least 255 (by decide)
      have hKl1 := hKl.1
      obtain ⟨l, hl⟩ : ∃ l : Nat, (bits .and .i64 least 255).tmod ((q : Int) + 1) = (l : Int) := ⟨(bits .and .i64 least 255 % ((q : Int) + 1)).toNat, by
        rw [Int.tmod_eq_emod_of_nonneg hKl.1]
        have := Int.emod_nonneg (bits .and .i64 least 255) (b := ((q : Int) + 1)) (by omega)
        omega⟩
      have hl2 : (l : Int) < ((q : Int) + 1) := by
        have := Int.emod_lt_of_pos (bits .and .i64 least 255) (b := ((q : Int) + 1)) (by omega)
        rw [← Int.tmod_eq_emod_of_nonneg hKl.1, hl] at this
        omega

      have S13 := S12.bring 8
      have y0 := S12.cell 0 _ rfl
      have y1 := S12.cell 1 _ rfl
      have y2 := S12.cell 2 _ rfl
      have y3 := S12.cell 3 _ rfl
      have y4 := S12.cell 4 _ rfl
      have y5 := S12.cell 5 _ rfl
      have y6 := S12.cell 6 _ rfl
      have y7 := S12.cell 7 _ rfl
      have y8 := S12.cell 8 _ rfl
      have y9 := S12.cell 9 _ rfl
      have y10 := S12.cell 10 _ rfl
      have y11 := S12.cell 11 _ rfl
      have y12 := S12.cell 12 _ rfl
      have y13 := S12.cell 13 _ rfl
      have y14 := S12.cell 14 _ rfl
      have y15 := S12.cell 15 _ rfl
      have hrn := read_near S13 HG0.out (by simp) HJ1.out HSJ.out (re := E) (by omega) (nd := N) (kl := K) (A2 := A9) (c2 := c9) (r1 := .int .i64 0) (r2 := .int .i64 0) (r3 := .slice none 0 0) (r4 := .int .i64 0) (ev := .slice none 0 0) (ld := .int .i64 0) (by simp) (l : Int) (by omega) sp hspl
      clear S12
      go_wp2_with fail
      refine hrn.mono ?_
      rintro e w14 ⟨gd, hgd, rfl, S14⟩
      have hgt : gd = true := by rw [hgd, HGE.out, HKE.out]; simp
      subst hgt
      rw [if_pos rfl] at S14
      clear hrn S13 hgd y0 y1 y2 y3 y4 y5 y6 y7 y8 y9 y10 y11 y12 y13 y14 y15
      have y0 := (S14.bring 1).cell 0 _ rfl
      have y1 := (S14.bring 1).cell 1 _ rfl
      have y2 := (S14.bring 1).cell 2 _ rfl
      have y3 := (S14.bring 1).cell 3 _ rfl
      have y4 := (S14.bring 1).cell 4 _ rfl
      have y5 := (S14.bring 1).cell 5 _ rfl
      have y6 := (S14.bring 1).cell 6 _ rfl
      have y7 := (S14.bring 1).cell 7 _ rfl
      have y8 := (S14.bring 1).cell 8 _ rfl
      have y9 := (S14.bring 1).cell 9 _ rfl
      have y10 := (S14.bring 1).cell 10 _ rfl
      have y11 := (S14.bring 1).cell 11 _ rfl
      have y12 := (S14.bring 1).cell 12 _ rfl
      have y13 := (S14.bring 1).cell 13 _ rfl
      have y14 := (S14.bring 1).cell 14 _ rfl
      have y15 := (S14.bring 1).cell 15 _ rfl
      go_wp2_with fail
      refine (read_old S14 (show E ≠ 21 by omega) ((q : Int) + 1) (by omega) _).mono ?_
      rintro e w15 ⟨rfl, S15⟩
      clear S14 y0 y1 y2 y3 y4 y5 y6 y7 y8 y9 y10 y11 y12 y13 y14 y15
      go_wp2_with fail
      refine (new_j S15).mono ?_
      rintro e w16 ⟨b2, rfl, S16⟩
      have S17 := (S16.bring 10).p1
      clear S15 S16 hl hKl hKl1 hl2
      go_wp2_with fail
      go_loopw [108] (fun i wr => ∃ k : Nat, k ≤ T.length ∧ i = .int .i64 (k : Int) ∧ ∃ (sn : List Bool) (m : JTx) (ss : List StT), JOk m ss ∧ mget m (ss.length : Int) = none ∧ SeenOk T sn m ∧ (∀ i, i < T.length → sn[i + 1]? = some (decide (i < k))) ∧ Sat W wr (judgeA b2 m ss 0 0 :: rowA 9 1 (.slice A5 T.length c5) T.length (Ss T) :: judgeA b m1 ss1 0 6 :: cellsA ab 55 #[.int .i64 E, .int .i64 0, .int .i64 0, .slice none 0 0, .int .i64 0, .string (S N.data), .int .i64 N.version, .int .i64 N.below, .int .i64 N.owner, .int .i64 N.made, .int .i64 N.set, .int .i64 N.serial, .slice A9 K.length c9, .slice none 0 0, .int .i64 (q : Int), .int .i64 0] :: rowA 9 1 (.slice A9 K.length c9) K.length (Ss K) :: treeA t sq.tree :: cellsA nb 39 (nodC N) :: cellsA sb 47 #[ptr t, ptr ts, ptr bk, .int .i64 sq.at_] :: tblA ts sq.tab :: bookA bk sq.book :: stars ((ps.eraseIdx q).map stp) :: jR (.slice (some adp) ps.length c6) ps :: [oldA W])) (fun i _ => T.length - (RowKit.intOf i).toNat)
      case atStart => exact ⟨0, by omega, rfl, _, [], [st0], JOk.init, rfl, SeenOk.init T, fun i hi => by simp [List.getElem?_replicate]; omega, S17⟩
      case round =>
        obtain ⟨k, hk, rfl, sn, m, ss, hJ, hfull, hSN, hP, S6⟩ := hrel
        clear S17
        have HJ := hide hJ
        have HFU := hide hfull
        have HSN := hide hSN
        have HP := hide hP
        clear hJ hfull hSN hP
        by_cases hlt : k < T.length
        · have hlt3 : (k : Int) < (T.length : Int) := by omega
          obtain ⟨adx, u, eadx, hu, zt⟩ := Src.at_ (S6.bring 1).srcOf (k := k) (by omega)
          subst eadx
          obtain ⟨t, ht, rfl⟩ : ∃ t, T[k]? = some t ∧ u = .string (S t) := by
            rw [show Ss T = T.map fun s => Value.string (S s) from rfl, List.getElem?_map] at hu
            cases h3 : T[k]? with
            | none => rw [h3] at hu; cases hu
            | some t2 => rw [h3] at hu; injection hu with hu; exact ⟨t2, rfl, hu.symm⟩
          have hw5 : IntKind.i64.wrap ((k : Int) + 1) = (k : Int) + 1 := IntWalk.i64_in _ ⟨by omega, by omega⟩
          have hco := commit_seen S6 HG0.out (by simp) HT0.out HJ.out HFU.out HSN.out HF.out.tl hTb ht
          clear hu ht
          go_wp2_with fail
          refine hco.mono ?_
          rintro e w7 ⟨m2, ss2, rfl, hJ2, hF2, hSN2, S7⟩
          have HJ2 := hide hJ2
          have HF2 := hide hF2
          have HS2 := hide hSN2
          clear S6 hco zt hJ2 hF2 hSN2
          go_wp2_with fail
          go_roundw
          case rel => exact ⟨k + 1, by omega, by go_num, sn.set (k + 1) true, m2, ss2, HJ2.out, HF2.out, HS2.out, fun i hi => by
              have hln := HSN.out.len
              by_cases e : i = k
              · subst e
                rw [List.getElem?_set_self (by omega)]
                simp
              · rw [List.getElem?_set_ne (by omega), HP.out i hi]
                congr 1
                rw [decide_eq_decide]
                omega, S7⟩
          case measure => simp [RowKit.intOf]; omega
        · obtain rfl : k = T.length := by omega
          have hsl : ss.length = T.length + 1 := HSN.out.known HJ.out HFU.out (Nat.le_refl _) (fun i hi => by rw [HP.out i hi]; simp [hi]) HSN.out.last

          obtain ⟨sj2, hsj2⟩ : ∃ s, ss[q]? = some s := ⟨_, List.getElem?_eq_getElem (by omega)⟩
          have hrr : RelS sj sj2 := by
            have h1 := (HJ.out.st q sj2 hsj2).1
            have h2 := (HJ1.out.st q sj HSJ.out).1
            have e1 : chainS m q = chainS m1 q := chainF_eq q fun j hj => by
              have hj2 : j < T.length := by have := HPL.out; omega
              have g1 := HSN.out.got j hj2 (by rw [HP.out j hj2]; simp [hj2])
              have g2 := HSN1.out.got j hj2 (by rw [HP1.out j hj2]; simp [hj2])
              rw [show (((j + 1 : Nat)) : Int) = (j : Int) + 1 by omega] at g1 g2
              simp only [mapF, g1, g2]
            rw [e1] at h1
            exact h2.symm.trans h1
          have HGE2 : Hid (Go.Proofs.YthgiamofndhehaaGreatDoor.getF sj2.tree sp = (N, E)) := hide (by rw [hrr.getF, HGE.out])
          have HKE2 : Hid (kidsF sj2.tree sp = K) := hide (by rw [hrr.kids, HKE.out])
          have HSJ2 := hide hsj2
          clear hsj2 hrr
          obtain ⟨K0, K3⟩ : 0 ≤ bits .and .i64 how 3 ∧ bits .and .i64 how 3 ≤ 3 := and_le how 3 (by decide)
          have hcase : bits .and .i64 how 3 = 0 ∨ bits .and .i64 how 3 = 1 ∨ bits .and .i64 how 3 = 2 ∨ bits .and .i64 how 3 = 3 := by omega
          clear K0 K3
          rcases hcase with hb | hb | hb | hb
          · as_aux_lemma =>
            have n0 := (S6.bring 6).cell 0 _ rfl
            have hcc : S N.data ++ (⟨#[120]⟩ : ByteArray) = S (N.data ++ [120]) := by rw [show (⟨#[120]⟩ : ByteArray) = S [120] from rfl, S_append]
            go_upto_region 34 with ((show Go.wpList _ _ _ (Oper.mk none (Op.store _ _ _) _ _ _ _ :: _) _ _); refine wpList_sstore_at rfl _ (.tmp 134) (.tmp 133) rfl (g := W) (off := 5) (S6.bring 3) #[.string (S (N.data ++ [120])), .int .i64 0, .int .i64 0, .int .i64 0, .int .i64 0, .int .i64 0, .int .i64 0] rfl rfl (by kernel_rfl) (by simp) (by simp [Value.oneCell']) #[.int .i64 E, .int .i64 0, .int .i64 0, .slice none 0 0, .int .i64 0, .string (S (N.data ++ [120])), .int .i64 0, .int .i64 0, .int .i64 0, .int .i64 0, .int .i64 0, .int .i64 0, .slice A9 K.length c9, .slice none 0 0, .int .i64 (q : Int), .int .i64 0] rfl ?_; intro S20)
            generalize wr.setRow ab #[.int .i64 E, .int .i64 0, .int .i64 0, .slice none 0 0, .int .i64 0, .string (S (N.data ++ [120])), .int .i64 0, .int .i64 0, .int .i64 0, .int .i64 0, .int .i64 0, .int .i64 0, .slice A9 K.length c9, .slice none 0 0, .int .i64 (q : Int), .int .i64 0] = w20 at *
            clear S6 n0 hcc
            have y0 := S20.cell 0 _ rfl
            have y1 := S20.cell 1 _ rfl
            have y2 := S20.cell 2 _ rfl
            have y3 := S20.cell 3 _ rfl
            have y4 := S20.cell 4 _ rfl
            have y5 := S20.cell 5 _ rfl
            have y6 := S20.cell 6 _ rfl
            have y7 := S20.cell 7 _ rfl
            have y8 := S20.cell 8 _ rfl
            have y9 := S20.cell 9 _ rfl
            have y10 := S20.cell 10 _ rfl
            have y11 := S20.cell 11 _ rfl
            have y12 := S20.cell 12 _ rfl
            have y13 := S20.cell 13 _ rfl
            have y14 := S20.cell 14 _ rfl
            have y15 := S20.cell 15 _ rfl
            have hrn := read_near (S20.bring 1) HG0.out (by simp) HJ.out HSJ2.out (re := E) (by omega) (nd := ⟨N.data ++ [120], 0, 0, 0, 0, 0, 0⟩) (kl := K) (A2 := A9) (c2 := c9) (r1 := .int .i64 0) (r2 := .int .i64 0) (r3 := .slice none 0 0) (r4 := .int .i64 0) (ev := .slice none 0 0) (ld := .int .i64 0) (by simp) 0 (by omega) sp hspl
            go_wp2_with fail
            refine hrn.mono ?_
            rintro e w21 ⟨gd, hgd, rfl, S21⟩
            have hgt : gd = false := by
              rw [hgd, HGE2.out, HKE2.out, Bool.eq_false_iff]
              intro h
              simp only [Bool.and_eq_true, decide_eq_true_eq] at h
              have := congrArg (fun n : NodeT => n.data.length) h.1.1; simp at this
            subst hgt
            rw [if_neg (by simp)] at S21
            clear hrn S20 hgd y0 y1 y2 y3 y4 y5 y6 y7 y8 y9 y10 y11 y12 y13 y14 y15
            go_wp2_with fail
            refine (j_wrong S21).mono ?_
            rintro e w22 ⟨rfl, S22⟩
            have HS := hide (Sat.keep_all S22.drop.drop.drop.drop.drop.drop.drop.drop.drop.drop.drop.drop)
            clear S21 S22
            go_wp2_with fail
            go_ret
            exact ⟨rfl, HS.out⟩

          · as_aux_lemma =>
            have y0 := (S6.bring 3).cell 0 _ rfl
            have yf := (S6.bring 3).cells_fz 0
            have hwe : IntKind.i64.wrap (E + 1) = E + 1 := IntWalk.i64_in _ ⟨by omega, by omega⟩
            have S20 := (S6.bring 3).setc 0 (.int .i64 (E + 1))
            go_upto_region 34 with fail
            generalize wr.setCell ⟨ab, 0, none⟩ (.int .i64 (E + 1)) = w20 at *
            clear S6 y0 yf hwe
            have y0 := S20.cell 0 _ rfl
            have y1 := S20.cell 1 _ rfl
            have y2 := S20.cell 2 _ rfl
            have y3 := S20.cell 3 _ rfl
            have y4 := S20.cell 4 _ rfl
            have y5 := S20.cell 5 _ rfl
            have y6 := S20.cell 6 _ rfl
            have y7 := S20.cell 7 _ rfl
            have y8 := S20.cell 8 _ rfl
            have y9 := S20.cell 9 _ rfl
            have y10 := S20.cell 10 _ rfl
            have y11 := S20.cell 11 _ rfl
            have y12 := S20.cell 12 _ rfl
            have y13 := S20.cell 13 _ rfl
            have y14 := S20.cell 14 _ rfl
            have y15 := S20.cell 15 _ rfl
            have hrn := read_near (S20.bring 1) HG0.out (by simp) HJ.out HSJ2.out (re := (E + 1)) (by omega) (nd := N) (kl := K) (A2 := A9) (c2 := c9) (r1 := .int .i64 0) (r2 := .int .i64 0) (r3 := .slice none 0 0) (r4 := .int .i64 0) (ev := .slice none 0 0) (ld := .int .i64 0) (by simp) 0 (by omega) sp hspl
            go_wp2_with fail
            refine hrn.mono ?_
            rintro e w21 ⟨gd, hgd, rfl, S21⟩
            have hgt : gd = false := by
              rw [hgd, HGE2.out, HKE2.out, Bool.eq_false_iff]
              intro h
              simp only [Bool.and_eq_true, decide_eq_true_eq] at h
              have := h.1.2; omega
            subst hgt
            rw [if_neg (by simp)] at S21
            clear hrn S20 hgd y0 y1 y2 y3 y4 y5 y6 y7 y8 y9 y10 y11 y12 y13 y14 y15
            go_wp2_with fail
            refine (j_wrong S21).mono ?_
            rintro e w22 ⟨rfl, S22⟩
            have HS := hide (Sat.keep_all S22.drop.drop.drop.drop.drop.drop.drop.drop.drop.drop.drop.drop)
            clear S21 S22
            go_wp2_with fail
            go_ret
            exact ⟨rfl, HS.out⟩

          · as_aux_lemma =>
            go_upto_region 34 with (at_builtin; refine wpList_sapp slStr rfl (.tmp 143) (.tmp 144) rfl (g := W) (S := (S6.box #[.string ⟨#[110, 101, 119]⟩] 9 rfl).rowOf 1 1 rfl (by unfold maxLen; omega)) rfl ((S6.bring 4).srcOf.keep ((Keeps.refl (fun _ => False) _).alloc _) (fun _ _ h => h)) rfl (by intro u hu; obtain ⟨x, -, rfl⟩ := List.mem_map.1 hu; rfl) (by unfold maxLen; omega) (by omega) ?_; intro A20 c20 w20a S20a; rw [show 1 + K.length = K.length + 1 from Nat.add_comm _ _] at S20a ⊢; have y12 := (S20a.bring 4).cell 12 _ rfl; have yf := (S20a.bring 4).cells_fz 12)
            have S20b : Sat W w20a (rowA 9 1 (.slice A20 (([110, 101, 119] : List UInt8) :: K).length c20) (([110, 101, 119] : List UInt8) :: K).length (Ss (([110, 101, 119] : List UInt8) :: K)) :: _) := S20a
            have S20 := (((S20b.bring 4).setc 12 (.slice A20 (K.length + 1) c20)).bring 2).p1
            generalize w20a.setCell ⟨ab, 12, none⟩ (.slice A20 (K.length + 1) c20) = w20 at *
            clear S6 S20a S20b y12 yf
            have y0 := S20.cell 0 _ rfl
            have y1 := S20.cell 1 _ rfl
            have y2 := S20.cell 2 _ rfl
            have y3 := S20.cell 3 _ rfl
            have y4 := S20.cell 4 _ rfl
            have y5 := S20.cell 5 _ rfl
            have y6 := S20.cell 6 _ rfl
            have y7 := S20.cell 7 _ rfl
            have y8 := S20.cell 8 _ rfl
            have y9 := S20.cell 9 _ rfl
            have y10 := S20.cell 10 _ rfl
            have y11 := S20.cell 11 _ rfl
            have y12 := S20.cell 12 _ rfl
            have y13 := S20.cell 13 _ rfl
            have y14 := S20.cell 14 _ rfl
            have y15 := S20.cell 15 _ rfl
            have hrn := read_near (S20.bring 1) HG0.out (by simp) HJ.out HSJ2.out (re := E) (by omega) (nd := N) (kl := (([110, 101, 119] : List UInt8) :: K)) (A2 := A20) (c2 := c20) (r1 := .int .i64 0) (r2 := .int .i64 0) (r3 := .slice none 0 0) (r4 := .int .i64 0) (ev := .slice none 0 0) (ld := .int .i64 0) (by simp) 0 (by omega) sp hspl
            go_wp2_with fail
            refine hrn.mono ?_
            rintro e w21 ⟨gd, hgd, rfl, S21⟩
            have hgt : gd = false := by
              rw [hgd, HGE2.out, HKE2.out, Bool.eq_false_iff]
              intro h
              simp only [Bool.and_eq_true, decide_eq_true_eq] at h
              have := congrArg List.length h.2; simp at this
            subst hgt
            rw [if_neg (by simp)] at S21
            clear hrn S20 hgd y0 y1 y2 y3 y4 y5 y6 y7 y8 y9 y10 y11 y12 y13 y14 y15
            go_wp2_with fail
            refine (j_wrong S21).mono ?_
            rintro e w22 ⟨rfl, S22⟩
            have HS := hide (Sat.keep_all S22.drop.drop.drop.drop.drop.drop.drop.drop.drop.drop.drop.drop.drop)
            clear S21 S22
            go_wp2_with fail
            go_ret
            exact ⟨rfl, HS.out⟩

          · as_aux_lemma =>
            have y0 := (S6.bring 3).cell 0 _ rfl
            have yf := (S6.bring 3).cells_fz 0
            have S20 := (S6.bring 3).setc 0 (.int .i64 21)
            go_upto_region 27 with fail
            generalize wr.setCell ⟨ab, 0, none⟩ (.int .i64 21) = w20 at *
            clear S6 y0 yf
            have y0 := S20.cell 0 _ rfl
            have y1 := S20.cell 1 _ rfl
            have y2 := S20.cell 2 _ rfl
            have y3 := S20.cell 3 _ rfl
            have y4 := S20.cell 4 _ rfl
            have y5 := S20.cell 5 _ rfl
            have y6 := S20.cell 6 _ rfl
            have y7 := S20.cell 7 _ rfl
            have y8 := S20.cell 8 _ rfl
            have y9 := S20.cell 9 _ rfl
            have y10 := S20.cell 10 _ rfl
            have y11 := S20.cell 11 _ rfl
            have y12 := S20.cell 12 _ rfl
            have y13 := S20.cell 13 _ rfl
            have y14 := S20.cell 14 _ rfl
            have y15 := S20.cell 15 _ rfl
            go_wp2_with fail
            refine (read_early S20 rfl _ _ _).mono ?_
            rintro e w21 ⟨rfl, S21⟩
            have HS := hide (Sat.keep_all S21.drop.drop.drop.drop.drop.drop.drop.drop.drop.drop.drop.drop)
            clear S20 S21 y0 y1 y2 y3 y4 y5 y6 y7 y8 y9 y10 y11 y12 y13 y14 y15
            go_wp2_with fail
            go_ret
            exact ⟨rfl, HS.out⟩
end Go.Proofs.YthgiamofndhehaaGreatDoor
