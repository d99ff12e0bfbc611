/- Strings compared; an answer about a node held against what is known: walked. No condition. -/
import Derived.Test.YthgiamofndhehaaGreatDoorJuF
set_option linter.unusedVariables false
set_option linter.unusedSimpArgs false
namespace Go.Proofs.YthgiamofndhehaaGreatDoor
open Go.RowKit

theorem nodT_eq (o p : NodeT) : decide (o = p) = ((o.data == p.data) && ((o.version == p.version) && ((o.below == p.below) && ((o.owner == p.owner) && ((o.made == p.made) && ((o.set == p.set) && ((o.serial == p.serial) && true))))))) := by
  obtain ⟨a, b, c, d, e, f, h⟩ := o
  obtain ⟨a2, b2, c2, d2, e2, f2, h2⟩ := p
  rw [Bool.eq_iff_iff]
  simp
theorem neq_nodJ (w : World) (o p : NodeT) : (binOp .neq 39 (nodV o) (nodV p)).run Tryz.prog w = .ok (.bool (!decide (o = p))) w := by
  rw [nodT_eq]
  exact neq_of Tryz.underlying39 (by kernel_rfl)
    (ef_cons (.string (S o.data)) (.string (S p.data)) (by decide) (by kernel_rfl) (by kernel_rfl) (str_eq (d := 9998) Tryz.underlying9)
    (ef_cons (.int .i64 o.version) (.int .i64 p.version) (by decide) (by kernel_rfl) (by kernel_rfl) (run_equalIn_int _ 9998 _ _ _ _ _ Tryz.underlying3)
    (ef_cons (.int .i64 o.below) (.int .i64 p.below) (by decide) (by kernel_rfl) (by kernel_rfl) (run_equalIn_int _ 9998 _ _ _ _ _ Tryz.underlying3)
    (ef_cons (.int .i64 o.owner) (.int .i64 p.owner) (by decide) (by kernel_rfl) (by kernel_rfl) (run_equalIn_int _ 9998 _ _ _ _ _ Tryz.underlying3)
    (ef_cons (.int .i64 o.made) (.int .i64 p.made) (by decide) (by kernel_rfl) (by kernel_rfl) (run_equalIn_int _ 9998 _ _ _ _ _ Tryz.underlying3)
    (ef_cons (.int .i64 o.set) (.int .i64 p.set) (by decide) (by kernel_rfl) (by kernel_rfl) (run_equalIn_int _ 9998 _ _ _ _ _ Tryz.underlying3)
    (ef_cons (.int .i64 o.serial) (.int .i64 p.serial) (by decide) (by kernel_rfl) (by kernel_rfl) (run_equalIn_int _ 9998 _ _ _ _ _ Tryz.underlying3) ef_nil)))))))
theorem Sat.rowMaxJ {g w : World} {L : List Asn} {e : TypeId} {size n : Nat} {v : Value} {xs : List Value} (S0 : Sat g w (rowA e size v n xs :: L)) : n ≤ 9223372036854775807 := by
  obtain ⟨A, cap, e, h1, h2, h3, h4⟩ := S0.row.form
  unfold maxLen at *
  omega
theorem ss_at {w : World} {A : Option Addr} {xs : List (List UInt8)} (h : Src w 1 A xs.length (Ss xs)) {k : Nat} (hk : k < xs.length) : ∃ ad x, A = some ad ∧ xs[k]? = some x ∧ w.cell? (ad.add k) = some (.string (S x)) := by
  obtain ⟨ad, u, e, hu, hc⟩ := Src.at_ h hk
  rw [show Ss xs = xs.map fun s => Value.string (S s) from rfl, List.getElem?_map] at hu
  cases h3 : xs[k]? with
  | none => rw [h3] at hu; cases hu
  | some x =>
    rw [h3] at hu
    injection hu with hu
    subst hu
    exact ⟨ad, x, e, rfl, hc⟩
set_option maxRecDepth 100000 in
set_option maxHeartbeats 1000000 in
theorem equal_ss (w : World) (A B : Option Addr) (c d : Nat) (xs ys : List (List UInt8)) (hx : Src w 1 A xs.length (Ss xs)) (hy : Src w 1 B ys.length (Ss ys)) (hlx : xs.length ≤ 9223372036854775807) (hly : ys.length ≤ 9223372036854775807) :
    Calls Tryz.prog 43 #[.slice A xs.length c, .slice B ys.length d] w fun e w' => e = .returned (.bool (decide (xs = ys))) ∧ Keeps (fun _ => False) w w' := by
  by_cases hl : xs.length = ys.length
  · go_enter Tryz.func43, Tryz.ntmps43
    go_wp2_with fail
    go_loopw [13] (fun i wr => ∃ k : Nat, k ≤ xs.length ∧ i = .int .i64 k ∧ xs.take k = ys.take k ∧ Keeps (fun _ => False) w wr) (fun i _ => xs.length - (intOf i).toNat)
    case atStart => exact ⟨0, by omega, rfl, rfl, Keeps.refl _ _⟩
    case round =>
      obtain ⟨k, hk, rfl, heq, hK⟩ := hrel
      have HE := hide heq
      have HL := hide hl
      have hly2 : k ≤ ys.length := by omega
      clear heq
      by_cases hlt : k < xs.length
      · have hlt2 : k < ys.length := by omega
        clear hl
        obtain ⟨ad, o, rfl, hx1, c0⟩ := ss_at (hx.keep hK (fun _ _ h => h)) hlt
        obtain ⟨bd, p, rfl, hy1, d0⟩ := ss_at (hy.keep hK (fun _ _ h => h)) hlt2
        have HX := hide hx1
        have HY := hide hy1
        have HK := hide hK
        clear hx1 hy1 hx hy hK
        by_cases hD : o = p
        · subst hD
          go_wp2_with fail
          go_quiet (fail)
          go_wp2_with fail
          go_roundw
          case rel =>
            refine ⟨k + 1, by omega, by go_num, ?_, HK.out.drewN _⟩
            obtain ⟨hk1, e1⟩ := List.getElem?_eq_some_iff.1 HX.out
            obtain ⟨hk2, e2⟩ := List.getElem?_eq_some_iff.1 HY.out
            rw [List.take_succ_eq_append_getElem hk1, List.take_succ_eq_append_getElem hk2, HE.out, e1, e2]
          case measure => simp [intOf]; omega
        · have hne : (o == p) = false := by simpa using hD
          have HD := hide hD
          clear hD
          go_wp2_with fail
          go_quiet (fail)
          go_wp2_with fail
          go_ret
          refine ⟨?_, HK.out.drewN _⟩
          have hne : xs ≠ ys := fun e => by
            subst e
            have := HX.out.symm.trans HY.out
            injection this with this
            exact HD.out this
          have e : decide (xs = ys) = false := by simpa using hne
          rw [e]
          rfl
      · have hk2 : k = xs.length := by omega
        have e : decide (xs = ys) = true := by
          have h1 := HE.out
          rw [List.take_of_length_le (by omega), List.take_of_length_le (by rw [← HL.out]; omega)] at h1
          simp [h1]
        have E := hide e
        clear e
        go_wp2_with fail
        go_ret
        exact ⟨by rw [E.out]; rfl, hK⟩
  · have e : decide (xs = ys) = false := by
      simp only [decide_eq_false_iff_not]
      rintro rfl
      exact hl rfl
    have hne : ((xs.length : Int) != (ys.length : Int)) = true := by simp; omega
    rw [e]
    clear e hl
    go_enter Tryz.func43, Tryz.ntmps43
    go_wp2_with fail
    go_ret
    exact ⟨rfl, Keeps.refl _ _⟩

set_option maxRecDepth 100000 in
set_option maxHeartbeats 16000000 in
theorem read_near {g w : World} {L : List Asn} {b : Nat} {m : JTx} {ss : List StT} {told wrong : Int} (S0 : Sat g w (judgeA b m ss told wrong :: L)) (hG : GL g) (hm : oldA g ∈ L) (hJ : JOk m ss) {k : Nat} {s9 : StT} (hs9 : ss[k]? = some s9) {re : Int} (h1 : re ≠ 21) {nd : NodeT} {kl : List (List UInt8)} {A2 : Option Addr} {c2 : Nat} {r1 r2 r3 r4 ev ld : Value}
    (hKV : rowA 9 1 (.slice A2 kl.length c2) kl.length (Ss kl) ∈ L) (least : Int) (h4 : least ≤ (k : Int)) (sp : List UInt8) (hsp : sp.length ≤ 100) :
    Calls Tryz.prog 18 #[ptr b, .string (S sp), .agg #[.int .i64 re, r1, r2, r3, r4, .string (S nd.data), .int .i64 nd.version, .int .i64 nd.below, .int .i64 nd.owner, .int .i64 nd.made, .int .i64 nd.set, .int .i64 nd.serial, .slice A2 kl.length c2, ev, .int .i64 (k : Int), ld], .int .i64 least] w fun e w' => ∃ gd : Bool, gd = (decide ((Go.Proofs.YthgiamofndhehaaGreatDoor.getF s9.tree sp).1 = nd) && decide ((Go.Proofs.YthgiamofndhehaaGreatDoor.getF s9.tree sp).2 = re) && decide (kidsF s9.tree sp = kl)) ∧ e = .returned (.bool gd) ∧ Sat g w' (judgeA b m ss told (if gd = true then wrong else 6) :: L) := by
  have hk := (List.getElem?_eq_some_iff.1 hs9).1
  have hl : ss.length ≤ 1000000 := by have := hJ.len; have := hJ.ml; omega
  obtain ⟨hrel, hfit⟩ := hJ.st k s9 hs9
  have S2 := S0.box #[.int .i64 re, r1, r2, r3, r4, .string (S nd.data), .int .i64 nd.version, .int .i64 nd.below, .int .i64 nd.owner, .int .i64 nd.made, .int .i64 nd.set, .int .i64 nd.serial, .slice A2 kl.length c2, ev, .int .i64 (k : Int), ld] 55 rfl
  have y0 := S2.cell 0 _ rfl
  have y14 := S2.cell 14 _ rfl
  have k1 : (re == 21) = false := by simpa using h1
  have HD : Hid (decide ((k : Int) < least) = false) := hide (by simpa using h4)
  have h6 : ¬ (ss.length : Int) - 1 < (k : Int) := by omega
  have HS := hide S2
  have HY : Hid (∀ (w' : World) (L' : List Asn), Sat g w' L' → cellsA w.heap.size 55 #[.int .i64 re, r1, r2, r3, r4, .string (S nd.data), .int .i64 nd.version, .int .i64 nd.below, .int .i64 nd.owner, .int .i64 nd.made, .int .i64 nd.set, .int .i64 nd.serial, .slice A2 kl.length c2, ev, .int .i64 (k : Int), ld] ∈ L' → w'.cell? ⟨w.heap.size, 14, none⟩ = some (.int .i64 (k : Int))) := hide fun w' L' S' h => S'.cell_of h 14 _ rfl
  clear S0 S2 h1 h4
  go_enter Tryz.func18, Tryz.ntmps18
  go_wp2_with fail
  generalize w.heap.size = rb at *
  refine wp_region_held_drew (S := (fun w' => w'.cell? ⟨rb, 14, none⟩ = some (.int .i64 (k : Int)))) (by kernel_rfl) ?_ (fun hHeld => ?_)
  · exact HY.out _ _ HS.out.drew (by simp)
  refine wpAnyH_take (i := 0) (oi := _) (v := ?_) rfl (by kernel_rfl) (by kernel_rfl) (by kernel_rfl) (fun _ _ _ h => h) (Or.inl ⟨by rfl, ?_⟩) hHeld ?_
  rotate_left
  · intro w' hSw
    (try dsimp only at hSw)
    go_simp
    try with_reducible rfl
  try simp only [Act.put, List.setIfInBounds_toArray, List.set_cons_zero, List.set_cons_succ, List.getElem_toArray, List.getElem_cons_zero, List.getElem_cons_succ]
  refine wpAnyH_take (i := 1) (oi := _) (v := ?_) rfl (by kernel_rfl) (by kernel_rfl) (by kernel_rfl) (fun _ _ _ h => h) (Or.inl ⟨by rfl, ?_⟩) hHeld ?_
  rotate_left
  · intro w' hSw
    (try dsimp only at hSw)
    go_simp
    try with_reducible rfl
  try simp only [Act.put, List.setIfInBounds_toArray, List.set_cons_zero, List.set_cons_succ, List.getElem_toArray, List.getElem_cons_zero, List.getElem_cons_succ]
  refine wpAnyH_take (i := 2) (oi := _) (v := ?_) rfl (by kernel_rfl) (by kernel_rfl) (by kernel_rfl) (fun _ _ _ h => h) (Or.inl ⟨by rfl, ?_⟩) hHeld ?_
  rotate_left
  · intro w' hSw
    (try dsimp only at hSw)
    go_simp
    try with_reducible rfl
  try simp only [Act.put, List.setIfInBounds_toArray, List.set_cons_zero, List.set_cons_succ, List.getElem_toArray, List.getElem_cons_zero, List.getElem_cons_succ]
  refine wpAnyH_take (i := 3) (oi := _) (v := ?_) rfl (by kernel_rfl) (by kernel_rfl) (by kernel_rfl) (fun _ _ _ h => h) (Or.inl ⟨by rfl, ?_⟩) hHeld ?_
  rotate_left
  · intro w' hSw
    (try dsimp only at hSw)
    go_simp
    try with_reducible rfl
  try simp only [Act.put, List.setIfInBounds_toArray, List.set_cons_zero, List.set_cons_succ, List.getElem_toArray, List.getElem_cons_zero, List.getElem_cons_succ]
  refine wpAnyH_take (i := 4) (oi := _) (v := ?_) rfl (by kernel_rfl) (by kernel_rfl) (by kernel_rfl) (fun _ _ _ h => h) (Or.inl ⟨by rfl, ?_⟩) hHeld ?_
  rotate_left
  · intro w' hSw
    (try dsimp only at hSw)
    go_simp
    try with_reducible rfl
  try simp only [Act.put, List.setIfInBounds_toArray, List.set_cons_zero, List.set_cons_succ, List.getElem_toArray, List.getElem_cons_zero, List.getElem_cons_succ]
  refine wpAnyH_ready (rs := [5]) (by kernel_rfl) (by simp) ?_
  refine AllReadyH.cons rfl (fun K hK => ?_) ?_
  · go_simp
    rw [HD.out]
    go_at_call 38
    refine (j_bad (g := g) (b := b) (m := m) (ss := ss) (told := told) (wrong := wrong) (by (repeat (first | refine Sat.drew ?_ | refine Sat.drewN ?_ _)); exact (HS.out.bring 1)) false).mono ?_
    rintro e w3 ⟨rfl, S3⟩
    have z3 := HY.out _ _ S3 (by simp)
    refine hK.out _ _ ?_ (fun hHeld => ?_)
    · exact HY.out _ _ S3 (by simp)
    clear hK K
    try simp only [Act.put, List.setIfInBounds_toArray, List.set_cons_zero, List.set_cons_succ, List.getElem_toArray, List.getElem_cons_zero, List.getElem_cons_succ]
    refine wpAnyH_take (i := 6) (oi := _) (v := ?_) rfl (by kernel_rfl) (by kernel_rfl) (by kernel_rfl) (fun _ _ _ h => h) (Or.inl ⟨by rfl, ?_⟩) hHeld ?_
    rotate_left
    · intro w' hSw
      (try dsimp only at hSw)
      go_simp
      try with_reducible rfl
    try simp only [Act.put, List.setIfInBounds_toArray, List.set_cons_zero, List.set_cons_succ, List.getElem_toArray, List.getElem_cons_zero, List.getElem_cons_succ]
    refine wpAnyH_take (i := 7) (oi := _) (v := ?_) rfl (by kernel_rfl) (by kernel_rfl) (by kernel_rfl) (fun _ _ _ h => h) (Or.inl ⟨by rfl, ?_⟩) hHeld ?_
    rotate_left
    · intro w' hSw
      (try dsimp only at hSw)
      go_simp
      try with_reducible rfl
    try simp only [Act.put, List.setIfInBounds_toArray, List.set_cons_zero, List.set_cons_succ, List.getElem_toArray, List.getElem_cons_zero, List.getElem_cons_succ]
    refine wpAnyH_take (i := 8) (oi := _) (v := ?_) rfl (by kernel_rfl) (by kernel_rfl) (by kernel_rfl) (fun _ _ _ h => h) (Or.inl ⟨by rfl, ?_⟩) hHeld ?_
    rotate_left
    · intro w' hSw
      (try dsimp only at hSw)
      go_simp
      try with_reducible rfl
    try simp only [Act.put, List.setIfInBounds_toArray, List.set_cons_zero, List.set_cons_succ, List.getElem_toArray, List.getElem_cons_zero, List.getElem_cons_succ]
    refine wpAnyH_take (i := 9) (oi := _) (v := ?_) rfl (by kernel_rfl) (by kernel_rfl) (by kernel_rfl) (fun _ _ _ h => h) (Or.inl ⟨by rfl, ?_⟩) hHeld ?_
    rotate_left
    · intro w' hSw
      (try dsimp only at hSw)
      go_simp
      try with_reducible rfl
    try simp only [Act.put, List.setIfInBounds_toArray, List.set_cons_zero, List.set_cons_succ, List.getElem_toArray, List.getElem_cons_zero, List.getElem_cons_succ]
    refine wpAnyH_take (i := 10) (oi := _) (v := ?_) rfl (by kernel_rfl) (by kernel_rfl) (by kernel_rfl) (fun _ _ _ h => h) (Or.inl ⟨by rfl, ?_⟩) hHeld ?_
    rotate_left
    · intro w' hSw
      (try dsimp only at hSw)
      go_simp
      try with_reducible rfl
    try simp only [Act.put, List.setIfInBounds_toArray, List.set_cons_zero, List.set_cons_succ, List.getElem_toArray, List.getElem_cons_zero, List.getElem_cons_succ]
    refine wpAnyH_ready (rs := [11]) (by kernel_rfl) (by simp) ?_
    refine AllReadyH.cons rfl (fun K hK => ?_) ?_
    · go_simp
      go_at_call 14
      refine (j_known (g := g) (b := b) (m := m) (ss := ss) (told := told) (wrong := wrong) (by (repeat (first | refine Sat.drew ?_ | refine Sat.drewN ?_ _)); exact S3) hl).mono ?_
      rintro e w4 ⟨rfl, S4⟩
      have z4 := HY.out _ _ S4 (by simp)
      refine hK.out _ _ ?_ (fun hHeld => ?_)
      · exact HY.out _ _ S4 (by simp)
      clear hK K
      try simp only [Act.put, List.setIfInBounds_toArray, List.set_cons_zero, List.set_cons_succ, List.getElem_toArray, List.getElem_cons_zero, List.getElem_cons_succ]
      refine wpAnyH_take (i := 12) (oi := _) (v := ?_) rfl (by kernel_rfl) (by kernel_rfl) (by kernel_rfl) (fun _ _ _ h => h) (Or.inl ⟨by rfl, ?_⟩) hHeld ?_
      rotate_left
      · intro w' hSw
        (try dsimp only at hSw)
        go_simp
        try with_reducible rfl
      try simp only [Act.put, List.setIfInBounds_toArray, List.set_cons_zero, List.set_cons_succ, List.getElem_toArray, List.getElem_cons_zero, List.getElem_cons_succ]
      refine wpAnyH_take (i := 13) (oi := _) (v := ?_) rfl (by kernel_rfl) (by kernel_rfl) (by kernel_rfl) (fun _ _ _ h => h) (Or.inl ⟨by rfl, ?_⟩) hHeld ?_
      rotate_left
      · intro w' hSw
        (try dsimp only at hSw)
        go_simp
        try with_reducible rfl
      try simp only [Act.put, List.setIfInBounds_toArray, List.set_cons_zero, List.set_cons_succ, List.getElem_toArray, List.getElem_cons_zero, List.getElem_cons_succ]
      refine wpAnyH_done (by kernel_rfl) ?_ _
      clear z3 z4 S3
      obtain ⟨tb, eb, A, c, ps, hps, hpl, S4b⟩ := S4.judgeOpen
      obtain ⟨sb, hp⟩ : ∃ sb, ps[k]? = some (sb, s9) := by
        rw [← hps, List.getElem?_map] at hs9
        cases h : ps[k]? with
        | none => rw [h] at hs9; cases hs9
        | some p => rw [h] at hs9; injection hs9 with hs9; exact ⟨p.1, by rw [← hs9]⟩
      obtain ⟨ad, u, rfl, hu, z0⟩ := Src.at_ (S4b.bring 2).srcOf (k := k) (by omega)
      obtain ⟨t, ts, bk, S4c⟩ := ((S4b.bring 3).jAt hp).stateOpen
      have S5 : Sat g w4 (treeA t s9.tree :: cellsA sb 47 #[ptr t, ptr ts, ptr bk, .int .i64 s9.at_] :: tblA ts s9.tab :: bookA bk s9.book :: stars ((ps.eraseIdx k).map stp) :: jC b tb (.slice (some ad) ps.length c) eb told wrong :: mapA kI tW tb m :: jR (.slice (some ad) ps.length c) ps :: evsA eb (2000 * ss.length) :: cellsA rb 55 #[.int .i64 re, r1, r2, r3, r4, .string (S nd.data), .int .i64 nd.version, .int .i64 nd.below, .int .i64 nd.owner, .int .i64 nd.made, .int .i64 nd.set, .int .i64 nd.serial, .slice A2 kl.length c2, ev, .int .i64 (k : Int), ld] :: L) := S4c.bring 1
      have hnl : ¬ (ss.length : Int) - 1 < (k : Int) := by omega
      obtain ⟨M9, n9, hM9, -, -⟩ := hfit.it
      have hlM := hM9.tree.len
      have hlE := hM9.tree.len_eq
      have HGET := hide fun (w' : World) (L' : List Asn) (S' : Sat g w' (treeA t s9.tree :: L')) (h : oldA g ∈ L') => get_tree S' (GL.at hG S' (by simp [h])) sp (by omega)
      have HKID := hide fun (w' : World) (L' : List Asn) (S' : Sat g w' (treeA t s9.tree :: L')) (h : oldA g ∈ L') => kids_tree S' (GL.at hG S' (by simp [h])) hM9.tree.pathsT (by omega) sp (by omega)
      have HX : Hid (∀ (w' : World) (L' : List Asn), Sat g w' L' → jC b tb (.slice (some ad) ps.length c) eb told wrong ∈ L' → jR (.slice (some ad) ps.length c) ps ∈ L' → cellsA rb 55 #[.int .i64 re, r1, r2, r3, r4, .string (S nd.data), .int .i64 nd.version, .int .i64 nd.below, .int .i64 nd.owner, .int .i64 nd.made, .int .i64 nd.set, .int .i64 nd.serial, .slice A2 kl.length c2, ev, .int .i64 (k : Int), ld] ∈ L' → cellsA sb 47 #[ptr t, ptr ts, ptr bk, .int .i64 s9.at_] ∈ L' → w'.cell? ⟨b, 1, none⟩ = some (.slice (some ad) ps.length c) ∧ w'.cell? (ad.add k) = some (ptr sb) ∧ w'.cell? ⟨rb, 14, none⟩ = some (.int .i64 (k : Int)) ∧ w'.cell? ⟨sb, 0, none⟩ = some (ptr t)) := hide fun w' L' S' h1 h2 h3 h4 => ⟨S'.cell_of h1 1 _ rfl, (by
        obtain ⟨L3, S3⟩ := S'.mem_ h2
        obtain ⟨ad2, u2, e2, hu2, z2⟩ := Src.at_ S3.srcOf (k := k) (by omega)
        cases e2
        rw [List.getElem?_map, hp] at hu2
        cases hu2
        exact z2), S'.cell_of h3 14 _ rfl, S'.cell_of h4 0 _ rfl⟩
      generalize hG9 : Go.Proofs.YthgiamofndhehaaGreatDoor.getF s9.tree sp = G9 at *
      generalize hK9 : kidsF s9.tree sp = K9 at *
      have HG9 := hide hG9
      have HK9 := hide hK9
      clear hG9 hK9
      obtain ⟨N9, E9⟩ := G9
      simp only at HGET HKID
      have HSHUT : Hid (∀ (w' : World) (A9 : Option Addr) (c9 nb : Nat), Sat g w' (rowA 9 1 (.slice A9 K9.length c9) K9.length (Ss K9) :: treeA t s9.tree :: cellsA nb 39 (nodC N9) :: cellsA sb 47 #[ptr t, ptr ts, ptr bk, .int .i64 s9.at_] :: tblA ts s9.tab :: bookA bk s9.book :: stars ((ps.eraseIdx k).map stp) :: jC b tb (.slice (some ad) ps.length c) eb told wrong :: mapA kI tW tb m :: jR (.slice (some ad) ps.length c) ps :: evsA eb (2000 * ss.length) :: cellsA rb 55 #[.int .i64 re, r1, r2, r3, r4, .string (S nd.data), .int .i64 nd.version, .int .i64 nd.below, .int .i64 nd.owner, .int .i64 nd.made, .int .i64 nd.set, .int .i64 nd.serial, .slice A2 kl.length c2, ev, .int .i64 (k : Int), ld] :: L) → Sat g w' (judgeA b m ss told wrong :: L)) := hide fun w' A9 c9 nb S' => by
        have Q1 := (((S'.drop.bring 1).drop.bring 1).stateShut (s := s9)).jBack hp
        exact (((((Q1.bring 3).bring 3).bring 3).judgeShut hps).bring 1).drop
      have HEQ := hide fun (w' : World) (L' : List Asn) (A9 : Option Addr) (c9 : Nat) (S' : Sat g w' (rowA 9 1 (.slice A9 K9.length c9) K9.length (Ss K9) :: L')) (h : rowA 9 1 (.slice A2 kl.length c2) kl.length (Ss kl) ∈ L') => (show _ from by
        obtain ⟨L3, S3⟩ := S'.drop.mem_ h
        exact equal_ss w' A9 A2 c9 c2 K9 kl S'.srcOf S3.srcOf S'.rowMaxJ S3.rowMaxJ)
      clear S4 S4b S4c hu z0 h6 hlM hlE hM9 hfit hrel
      obtain ⟨z0, z1, z2, z3⟩ := HX.out _ _ S5 (by simp) (by simp) (by simp) (by simp)
      go_upto_region 5 with fail
      clear z0 z1 z2 z3
      refine wp_region_held_drew (S := (fun w' => w'.cell? ⟨b, 1, none⟩ = some (.slice (some ad) ps.length c) ∧ w'.cell? (ad.add k) = some (ptr sb) ∧ w'.cell? ⟨rb, 14, none⟩ = some (.int .i64 (k : Int)) ∧ w'.cell? ⟨sb, 0, none⟩ = some (ptr t))) (by kernel_rfl) ?_ (fun hHeld => ?_)
      · exact HX.out _ _ S5.drew (by simp) (by simp) (by simp) (by simp)
      refine wpAnyH_take (i := 0) (oi := _) (v := ?_) rfl (by kernel_rfl) (by kernel_rfl) (by kernel_rfl) (fun _ _ _ h => h) (Or.inl ⟨by rfl, ?_⟩) hHeld ?_
      rotate_left
      · intro w' hSw
        (try dsimp only at hSw)
        go_simp
        try with_reducible rfl
      try simp only [Act.put, List.setIfInBounds_toArray, List.set_cons_zero, List.set_cons_succ, List.getElem_toArray, List.getElem_cons_zero, List.getElem_cons_succ]
      refine wpAnyH_take (i := 1) (oi := _) (v := ?_) rfl (by kernel_rfl) (by kernel_rfl) (by kernel_rfl) (fun _ _ _ h => h) (Or.inl ⟨by rfl, ?_⟩) hHeld ?_
      rotate_left
      · intro w' hSw
        (try dsimp only at hSw)
        go_simp
        try with_reducible rfl
      try simp only [Act.put, List.setIfInBounds_toArray, List.set_cons_zero, List.set_cons_succ, List.getElem_toArray, List.getElem_cons_zero, List.getElem_cons_succ]
      refine wpAnyH_take (i := 2) (oi := _) (v := ?_) rfl (by kernel_rfl) (by kernel_rfl) (by kernel_rfl) (fun _ _ _ h => h) (Or.inl ⟨by rfl, ?_⟩) hHeld ?_
      rotate_left
      · intro w' hSw
        (try dsimp only at hSw)
        go_simp
        try with_reducible rfl
      try simp only [Act.put, List.setIfInBounds_toArray, List.set_cons_zero, List.set_cons_succ, List.getElem_toArray, List.getElem_cons_zero, List.getElem_cons_succ]
      refine wpAnyH_take (i := 3) (oi := _) (v := ?_) rfl (by kernel_rfl) (by kernel_rfl) (by kernel_rfl) (fun _ _ _ h => h) (Or.inl ⟨by rfl, ?_⟩) hHeld ?_
      rotate_left
      · intro w' hSw
        (try dsimp only at hSw)
        go_simp
        try with_reducible rfl
      try simp only [Act.put, List.setIfInBounds_toArray, List.set_cons_zero, List.set_cons_succ, List.getElem_toArray, List.getElem_cons_zero, List.getElem_cons_succ]
      refine wpAnyH_take (i := 4) (oi := _) (v := ?_) rfl (by kernel_rfl) (by kernel_rfl) (by kernel_rfl) (fun _ _ _ h => h) (Or.inl ⟨by rfl, ?_⟩) hHeld ?_
      rotate_left
      · intro w' hSw
        (try dsimp only at hSw)
        go_simp
        try with_reducible rfl
      try simp only [Act.put, List.setIfInBounds_toArray, List.set_cons_zero, List.set_cons_succ, List.getElem_toArray, List.getElem_cons_zero, List.getElem_cons_succ]
      refine wpAnyH_take (i := 5) (oi := _) (v := ?_) rfl (by kernel_rfl) (by kernel_rfl) (by kernel_rfl) (fun _ _ _ h => h) (Or.inl ⟨by rfl, ?_⟩) hHeld ?_
      rotate_left
      · intro w' hSw
        (try dsimp only at hSw)
        go_simp
        try with_reducible rfl
      try simp only [Act.put, List.setIfInBounds_toArray, List.set_cons_zero, List.set_cons_succ, List.getElem_toArray, List.getElem_cons_zero, List.getElem_cons_succ]
      refine wpAnyH_take (i := 6) (oi := _) (v := ?_) rfl (by kernel_rfl) (by kernel_rfl) (by kernel_rfl) (fun _ _ _ h => h) (Or.inl ⟨by rfl, ?_⟩) hHeld ?_
      rotate_left
      · intro w' hSw
        (try dsimp only at hSw)
        go_simp
        try with_reducible rfl
      try simp only [Act.put, List.setIfInBounds_toArray, List.set_cons_zero, List.set_cons_succ, List.getElem_toArray, List.getElem_cons_zero, List.getElem_cons_succ]
      refine wpAnyH_take (i := 7) (oi := _) (v := ?_) rfl (by kernel_rfl) (by kernel_rfl) (by kernel_rfl) (fun _ _ _ h => h) (Or.inl ⟨by rfl, ?_⟩) hHeld ?_
      rotate_left
      · intro w' hSw
        (try dsimp only at hSw)
        go_simp
        try with_reducible rfl
      try simp only [Act.put, List.setIfInBounds_toArray, List.set_cons_zero, List.set_cons_succ, List.getElem_toArray, List.getElem_cons_zero, List.getElem_cons_succ]
      refine wpAnyH_take (i := 8) (oi := _) (v := ?_) rfl (by kernel_rfl) (by kernel_rfl) (by kernel_rfl) (fun _ _ _ h => h) (Or.inl ⟨by rfl, ?_⟩) hHeld ?_
      rotate_left
      · intro w' hSw
        (try dsimp only at hSw)
        go_simp
        try with_reducible rfl
      try simp only [Act.put, List.setIfInBounds_toArray, List.set_cons_zero, List.set_cons_succ, List.getElem_toArray, List.getElem_cons_zero, List.getElem_cons_succ]
      refine wpAnyH_take (i := 9) (oi := _) (v := ?_) rfl (by kernel_rfl) (by kernel_rfl) (by kernel_rfl) (fun _ _ _ h => h) (Or.inl ⟨by rfl, ?_⟩) hHeld ?_
      rotate_left
      · intro w' hSw
        (try dsimp only at hSw)
        go_simp
        try with_reducible rfl
      try simp only [Act.put, List.setIfInBounds_toArray, List.set_cons_zero, List.set_cons_succ, List.getElem_toArray, List.getElem_cons_zero, List.getElem_cons_succ]
      refine wpAnyH_take (i := 10) (oi := _) (v := ?_) rfl (by kernel_rfl) (by kernel_rfl) (by kernel_rfl) (fun _ _ _ h => h) (Or.inl ⟨by rfl, ?_⟩) hHeld ?_
      rotate_left
      · intro w' hSw
        (try dsimp only at hSw)
        go_simp
        try with_reducible rfl
      try simp only [Act.put, List.setIfInBounds_toArray, List.set_cons_zero, List.set_cons_succ, List.getElem_toArray, List.getElem_cons_zero, List.getElem_cons_succ]
      refine wpAnyH_take (i := 11) (oi := _) (v := ?_) rfl (by kernel_rfl) (by kernel_rfl) (by kernel_rfl) (fun _ _ _ h => h) (Or.inl ⟨by rfl, ?_⟩) hHeld ?_
      rotate_left
      · intro w' hSw
        (try dsimp only at hSw)
        go_simp
        try with_reducible rfl
      try simp only [Act.put, List.setIfInBounds_toArray, List.set_cons_zero, List.set_cons_succ, List.getElem_toArray, List.getElem_cons_zero, List.getElem_cons_succ]
      refine wpAnyH_ready (rs := [12, 16]) (by kernel_rfl) (by simp) ?_
      refine AllReadyH.cons rfl (fun K hK => ?_) ?_
      · go_simp
        go_at_call 16
        refine (HGET.out _ _ (by (repeat (first | refine Sat.drew ?_ | refine Sat.drewN ?_ _)); exact S5) (by simp [hm])).mono ?_
        rintro e w6 ⟨rfl, S6⟩
        refine hK.out _ _ ?_ (fun hHeld => ?_)
        · exact HX.out _ _ S6 (by simp) (by simp) (by simp) (by simp)
        clear hK K
        try simp only [Act.put, List.setIfInBounds_toArray, List.set_cons_zero, List.set_cons_succ, List.getElem_toArray, List.getElem_cons_zero, List.getElem_cons_succ]
        refine wpAnyH_take (i := 13) (oi := _) (v := ?_) rfl (by kernel_rfl) (by kernel_rfl) (by kernel_rfl) (fun _ _ _ h => h) (Or.inl ⟨by rfl, ?_⟩) hHeld ?_
        rotate_left
        · intro w' hSw
          (try dsimp only at hSw)
          go_simp
          try with_reducible rfl
        try simp only [Act.put, List.setIfInBounds_toArray, List.set_cons_zero, List.set_cons_succ, List.getElem_toArray, List.getElem_cons_zero, List.getElem_cons_succ]
        refine wpAnyH_take (i := 14) (oi := _) (v := ?_) rfl (by kernel_rfl) (by kernel_rfl) (by kernel_rfl) (fun _ _ _ h => h) (Or.inl ⟨by rfl, ?_⟩) hHeld ?_
        rotate_left
        · intro w' hSw
          (try dsimp only at hSw)
          go_simp
          try with_reducible rfl
        try simp only [Act.put, List.setIfInBounds_toArray, List.set_cons_zero, List.set_cons_succ, List.getElem_toArray, List.getElem_cons_zero, List.getElem_cons_succ]
        refine wpAnyH_take (i := 15) (oi := _) (v := ?_) rfl (by kernel_rfl) (by kernel_rfl) (by kernel_rfl) (fun _ _ _ h => h) (Or.inl ⟨by rfl, ?_⟩) hHeld ?_
        rotate_left
        · intro w' hSw
          (try dsimp only at hSw)
          go_simp
          try with_reducible rfl
        try simp only [Act.put, List.setIfInBounds_toArray, List.set_cons_zero, List.set_cons_succ, List.getElem_toArray, List.getElem_cons_zero, List.getElem_cons_succ]
        refine wpAnyH_ready (rs := [16]) (by kernel_rfl) (by simp) ?_
        refine AllReadyH.cons rfl (fun K hK => ?_) ?_
        · go_simp
          refine hK.out _ _ ?_ (fun hHeld => ?_)
          · exact HX.out _ _ (S6.box zC 39 rfl) (by simp) (by simp) (by simp) (by simp)
          clear hK K
          try simp only [Act.put, List.setIfInBounds_toArray, List.set_cons_zero, List.set_cons_succ, List.getElem_toArray, List.getElem_cons_zero, List.getElem_cons_succ]
          refine wpAnyH_ready (rs := [17]) (by kernel_rfl) (by simp) ?_
          refine AllReadyH.cons rfl (fun K hK => ?_) ?_
          · refine step_sstore rfl _ (.tmp 9) (.tmp 49) rfl (g := g) (S := (S6.box zC 39 rfl)) _ rfl rfl (by kernel_rfl) rfl (by simp [Value.oneCell']) ?_
            intro S8
            refine hK.out _ _ ?_ (fun hHeld => ?_)
            · exact HX.out _ _ S8 (by simp) (by simp) (by simp) (by simp)
            clear hK K
            try simp only [Act.put, List.setIfInBounds_toArray, List.set_cons_zero, List.set_cons_succ, List.getElem_toArray, List.getElem_cons_zero, List.getElem_cons_succ]
            refine wpAnyH_take (i := 18) (oi := _) (v := ?_) rfl (by kernel_rfl) (by kernel_rfl) (by kernel_rfl) (fun _ _ _ h => h) (Or.inl ⟨by rfl, ?_⟩) hHeld ?_
            rotate_left
            · intro w' hSw
              (try dsimp only at hSw)
              go_simp
              try with_reducible rfl
            try simp only [Act.put, List.setIfInBounds_toArray, List.set_cons_zero, List.set_cons_succ, List.getElem_toArray, List.getElem_cons_zero, List.getElem_cons_succ]
            refine wpAnyH_done (by kernel_rfl) ?_ _
            first | generalize w6.heap.size = nb at * | generalize w4.heap.size = nb at *
            obtain ⟨z0, z1, z2, z3⟩ := HX.out _ _ S8 (by simp) (by simp) (by simp) (by simp)
            go_upto_region 6 with fail
            refine wp_region_held_drew (S := (fun w' => w'.cell? ⟨b, 1, none⟩ = some (.slice (some ad) ps.length c) ∧ w'.cell? (ad.add k) = some (ptr sb) ∧ w'.cell? ⟨rb, 14, none⟩ = some (.int .i64 (k : Int)) ∧ w'.cell? ⟨sb, 0, none⟩ = some (ptr t))) (by kernel_rfl) ?_ (fun hHeld => ?_)
            · exact HX.out _ _ S8.drew (by simp) (by simp) (by simp) (by simp)
            refine wpAnyH_take (i := 0) (oi := _) (v := ?_) rfl (by kernel_rfl) (by kernel_rfl) (by kernel_rfl) (fun _ _ _ h => h) (Or.inl ⟨by rfl, ?_⟩) hHeld ?_
            rotate_left
            · intro w' hSw
              (try dsimp only at hSw)
              go_simp
              try with_reducible rfl
            try simp only [Act.put, List.setIfInBounds_toArray, List.set_cons_zero, List.set_cons_succ, List.getElem_toArray, List.getElem_cons_zero, List.getElem_cons_succ]
            refine wpAnyH_take (i := 1) (oi := _) (v := ?_) rfl (by kernel_rfl) (by kernel_rfl) (by kernel_rfl) (fun _ _ _ h => h) (Or.inl ⟨by rfl, ?_⟩) hHeld ?_
            rotate_left
            · intro w' hSw
              (try dsimp only at hSw)
              go_simp
              try with_reducible rfl
            try simp only [Act.put, List.setIfInBounds_toArray, List.set_cons_zero, List.set_cons_succ, List.getElem_toArray, List.getElem_cons_zero, List.getElem_cons_succ]
            refine wpAnyH_take (i := 2) (oi := _) (v := ?_) rfl (by kernel_rfl) (by kernel_rfl) (by kernel_rfl) (fun _ _ _ h => h) (Or.inl ⟨by rfl, ?_⟩) hHeld ?_
            rotate_left
            · intro w' hSw
              (try dsimp only at hSw)
              go_simp
              try with_reducible rfl
            try simp only [Act.put, List.setIfInBounds_toArray, List.set_cons_zero, List.set_cons_succ, List.getElem_toArray, List.getElem_cons_zero, List.getElem_cons_succ]
            refine wpAnyH_take (i := 3) (oi := _) (v := ?_) rfl (by kernel_rfl) (by kernel_rfl) (by kernel_rfl) (fun _ _ _ h => h) (Or.inl ⟨by rfl, ?_⟩) hHeld ?_
            rotate_left
            · intro w' hSw
              (try dsimp only at hSw)
              go_simp
              try with_reducible rfl
            try simp only [Act.put, List.setIfInBounds_toArray, List.set_cons_zero, List.set_cons_succ, List.getElem_toArray, List.getElem_cons_zero, List.getElem_cons_succ]
            refine wpAnyH_take (i := 4) (oi := _) (v := ?_) rfl (by kernel_rfl) (by kernel_rfl) (by kernel_rfl) (fun _ _ _ h => h) (Or.inl ⟨by rfl, ?_⟩) hHeld ?_
            rotate_left
            · intro w' hSw
              (try dsimp only at hSw)
              go_simp
              try with_reducible rfl
            try simp only [Act.put, List.setIfInBounds_toArray, List.set_cons_zero, List.set_cons_succ, List.getElem_toArray, List.getElem_cons_zero, List.getElem_cons_succ]
            refine wpAnyH_take (i := 5) (oi := _) (v := ?_) rfl (by kernel_rfl) (by kernel_rfl) (by kernel_rfl) (fun _ _ _ h => h) (Or.inl ⟨by rfl, ?_⟩) hHeld ?_
            rotate_left
            · intro w' hSw
              (try dsimp only at hSw)
              go_simp
              try with_reducible rfl
            try simp only [Act.put, List.setIfInBounds_toArray, List.set_cons_zero, List.set_cons_succ, List.getElem_toArray, List.getElem_cons_zero, List.getElem_cons_succ]
            refine wpAnyH_take (i := 6) (oi := _) (v := ?_) rfl (by kernel_rfl) (by kernel_rfl) (by kernel_rfl) (fun _ _ _ h => h) (Or.inl ⟨by rfl, ?_⟩) hHeld ?_
            rotate_left
            · intro w' hSw
              (try dsimp only at hSw)
              go_simp
              try with_reducible rfl
            try simp only [Act.put, List.setIfInBounds_toArray, List.set_cons_zero, List.set_cons_succ, List.getElem_toArray, List.getElem_cons_zero, List.getElem_cons_succ]
            refine wpAnyH_take (i := 7) (oi := _) (v := ?_) rfl (by kernel_rfl) (by kernel_rfl) (by kernel_rfl) (fun _ _ _ h => h) (Or.inl ⟨by rfl, ?_⟩) hHeld ?_
            rotate_left
            · intro w' hSw
              (try dsimp only at hSw)
              go_simp
              try with_reducible rfl
            try simp only [Act.put, List.setIfInBounds_toArray, List.set_cons_zero, List.set_cons_succ, List.getElem_toArray, List.getElem_cons_zero, List.getElem_cons_succ]
            refine wpAnyH_take (i := 8) (oi := _) (v := ?_) rfl (by kernel_rfl) (by kernel_rfl) (by kernel_rfl) (fun _ _ _ h => h) (Or.inl ⟨by rfl, ?_⟩) hHeld ?_
            rotate_left
            · intro w' hSw
              (try dsimp only at hSw)
              go_simp
              try with_reducible rfl
            try simp only [Act.put, List.setIfInBounds_toArray, List.set_cons_zero, List.set_cons_succ, List.getElem_toArray, List.getElem_cons_zero, List.getElem_cons_succ]
            refine wpAnyH_take (i := 9) (oi := _) (v := ?_) rfl (by kernel_rfl) (by kernel_rfl) (by kernel_rfl) (fun _ _ _ h => h) (Or.inl ⟨by rfl, ?_⟩) hHeld ?_
            rotate_left
            · intro w' hSw
              (try dsimp only at hSw)
              go_simp
              try with_reducible rfl
            try simp only [Act.put, List.setIfInBounds_toArray, List.set_cons_zero, List.set_cons_succ, List.getElem_toArray, List.getElem_cons_zero, List.getElem_cons_succ]
            refine wpAnyH_take (i := 10) (oi := _) (v := ?_) rfl (by kernel_rfl) (by kernel_rfl) (by kernel_rfl) (fun _ _ _ h => h) (Or.inl ⟨by rfl, ?_⟩) hHeld ?_
            rotate_left
            · intro w' hSw
              (try dsimp only at hSw)
              go_simp
              try with_reducible rfl
            try simp only [Act.put, List.setIfInBounds_toArray, List.set_cons_zero, List.set_cons_succ, List.getElem_toArray, List.getElem_cons_zero, List.getElem_cons_succ]
            refine wpAnyH_take (i := 11) (oi := _) (v := ?_) rfl (by kernel_rfl) (by kernel_rfl) (by kernel_rfl) (fun _ _ _ h => h) (Or.inl ⟨by rfl, ?_⟩) hHeld ?_
            rotate_left
            · intro w' hSw
              (try dsimp only at hSw)
              go_simp
              try with_reducible rfl
            try simp only [Act.put, List.setIfInBounds_toArray, List.set_cons_zero, List.set_cons_succ, List.getElem_toArray, List.getElem_cons_zero, List.getElem_cons_succ]
            refine wpAnyH_ready (rs := [12]) (by kernel_rfl) (by simp) ?_
            refine AllReadyH.cons rfl (fun K hK => ?_) ?_
            · go_simp
              go_at_call 17
              refine (HKID.out _ _ (by (repeat (first | refine Sat.drew ?_ | refine Sat.drewN ?_ _)); exact (S8.bring 1)) (by simp [hm])).mono ?_
              rintro e w9 ⟨v9, rfl, S9⟩
              obtain ⟨A9, c9, rfl, -⟩ := S9.row.form
              refine hK.out _ _ ?_ (fun hHeld => ?_)
              · exact HX.out _ _ S9 (by simp) (by simp) (by simp) (by simp)
              clear hK K
              try simp only [Act.put, List.setIfInBounds_toArray, List.set_cons_zero, List.set_cons_succ, List.getElem_toArray, List.getElem_cons_zero, List.getElem_cons_succ]
              refine wpAnyH_take (i := 13) (oi := _) (v := ?_) rfl (by kernel_rfl) (by kernel_rfl) (by kernel_rfl) (fun _ _ _ h => h) (Or.inl ⟨by rfl, ?_⟩) hHeld ?_
              rotate_left
              · intro w' hSw
                (try dsimp only at hSw)
                go_simp
                try with_reducible rfl
              try simp only [Act.put, List.setIfInBounds_toArray, List.set_cons_zero, List.set_cons_succ, List.getElem_toArray, List.getElem_cons_zero, List.getElem_cons_succ]
              refine wpAnyH_take (i := 14) (oi := _) (v := ?_) rfl (by kernel_rfl) (by kernel_rfl) (by kernel_rfl) (fun _ _ _ h => h) (Or.inl ⟨by rfl, ?_⟩) hHeld ?_
              rotate_left
              · intro w' hSw
                (try dsimp only at hSw)
                go_simp
                try with_reducible rfl
              try simp only [Act.put, List.setIfInBounds_toArray, List.set_cons_zero, List.set_cons_succ, List.getElem_toArray, List.getElem_cons_zero, List.getElem_cons_succ]
              refine wpAnyH_take (i := 15) (oi := _) (v := ?_) rfl (by kernel_rfl) (by kernel_rfl) (by kernel_rfl) (fun _ _ _ h => h) (Or.inl ⟨by rfl, ?_⟩) hHeld ?_
              rotate_left
              · intro w' hSw
                (try dsimp only at hSw)
                go_simp
                try with_reducible rfl
              try simp only [Act.put, List.setIfInBounds_toArray, List.set_cons_zero, List.set_cons_succ, List.getElem_toArray, List.getElem_cons_zero, List.getElem_cons_succ]
              refine wpAnyH_take (i := 16) (oi := _) (v := ?_) rfl (by kernel_rfl) (by kernel_rfl) (by kernel_rfl) (fun _ _ _ h => h) (Or.inl ⟨by rfl, ?_⟩) hHeld ?_
              rotate_left
              · intro w' hSw
                (try dsimp only at hSw)
                go_simp
                try with_reducible rfl
              try simp only [Act.put, List.setIfInBounds_toArray, List.set_cons_zero, List.set_cons_succ, List.getElem_toArray, List.getElem_cons_zero, List.getElem_cons_succ]
              refine wpAnyH_take (i := 17) (oi := _) (v := ?_) rfl (by kernel_rfl) (by kernel_rfl) (by kernel_rfl) (fun _ _ _ h => h) (Or.inl ⟨by rfl, ?_⟩) hHeld ?_
              rotate_left
              · intro w' hSw
                (try dsimp only at hSw)
                go_simp
                try with_reducible rfl
              try simp only [Act.put, List.setIfInBounds_toArray, List.set_cons_zero, List.set_cons_succ, List.getElem_toArray, List.getElem_cons_zero, List.getElem_cons_succ]
              refine wpAnyH_done (by kernel_rfl) ?_ _
              clear S5 S6 S8
              obtain ⟨z0, z1, z2, z3⟩ := HX.out _ _ S9 (by simp) (by simp) (by simp) (by simp)
              have n0 := (S9.bring 2).cell 0 _ rfl
              have n1 := (S9.bring 2).cell 1 _ rfl
              have n2 := (S9.bring 2).cell 2 _ rfl
              have n3 := (S9.bring 2).cell 3 _ rfl
              have n4 := (S9.bring 2).cell 4 _ rfl
              have n5 := (S9.bring 2).cell 5 _ rfl
              have n6 := (S9.bring 2).cell 6 _ rfl
              have y0 := (S9.bring 11).cell 0 _ rfl
              have y5 := (S9.bring 11).cell 5 _ rfl
              have y6 := (S9.bring 11).cell 6 _ rfl
              have y7 := (S9.bring 11).cell 7 _ rfl
              have y8 := (S9.bring 11).cell 8 _ rfl
              have y9 := (S9.bring 11).cell 9 _ rfl
              have y10 := (S9.bring 11).cell 10 _ rfl
              have y11 := (S9.bring 11).cell 11 _ rfl
              have y12 := (S9.bring 11).cell 12 _ rfl
              have hneq := fun w' => neq_nodJ w' N9 nd
              by_cases hD1 : N9 = nd
              · by_cases hD2 : E9 = re
                · subst hD2
                  have hd1 : decide (N9 = nd) = true := by simpa using hD1
                  rw [hd1] at hneq
                  have heq := HEQ.out w9 _ A9 c9 S9 (by simp [hKV])
                  generalize hD3 : decide (K9 = kl) = D3 at *
                  have HD1 := hide hD1
                  clear hD1 hd1
                  go_wp2_with fail
                  refine heq.mono ?_
                  rintro e w10 ⟨rfl, hk10⟩
                  have S10 := HSHUT.out w10 A9 c9 nb (S9.keep hk10)
                  clear S9 heq hneq z0 z1 z2 z3
                  go_wp2_with fail
                  refine (j_bad S10 (!D3)).mono ?_
                  rintro e w11 ⟨rfl, S11⟩
                  clear S10
                  go_wp2_with fail
                  go_ret
                  refine ⟨D3, by rw [HG9.out, HK9.out]; simp [HD1.out, hD3], by simp, ?_⟩
                  cases D3
                  · simpa using S11
                  · simpa using S11
                · have hE : (E9 != re) = true := by simpa using hD2
                  have hd1 : decide (N9 = nd) = true := by simpa using hD1
                  rw [hd1] at hneq
                  have HD2 := hide hD2
                  have S10 := HSHUT.out w9 A9 c9 nb S9
                  clear S9 z0 z1 z2 z3 hD1 hD2 hd1
                  go_wp2_with fail
                  refine (j_bad S10 true).mono ?_
                  rintro e w11 ⟨rfl, S11⟩
                  clear S10
                  go_wp2_with fail
                  go_ret
                  exact ⟨false, by rw [HG9.out, HK9.out]; simp [HD2.out], rfl, by simpa using S11⟩
              · have hd1 : decide (N9 = nd) = false := by simpa using hD1
                rw [hd1] at hneq
                have HD1 := hide hD1
                have S10 := HSHUT.out w9 A9 c9 nb S9
                clear S9 z0 z1 z2 z3 hD1 hd1
                go_wp2_with fail
                refine (j_bad S10 true).mono ?_
                rintro e w11 ⟨rfl, S11⟩
                clear S10
                go_wp2_with fail
                go_ret
                exact ⟨false, by rw [HG9.out, HK9.out]; simp [HD1.out], rfl, by simpa using S11⟩
            exact AllReadyH.nil
          exact AllReadyH.nil
        exact AllReadyH.nil
      refine AllReadyH.cons rfl (fun K hK => ?_) ?_
      · go_simp
        refine hK.out _ _ ?_ (fun hHeld => ?_)
        · exact HX.out _ _ (S5.box zC 39 rfl).drew (by simp) (by simp) (by simp) (by simp)
        clear hK K
        try simp only [Act.put, List.setIfInBounds_toArray, List.set_cons_zero, List.set_cons_succ, List.getElem_toArray, List.getElem_cons_zero, List.getElem_cons_succ]
        refine wpAnyH_ready (rs := [12]) (by kernel_rfl) (by simp) ?_
        refine AllReadyH.cons rfl (fun K hK => ?_) ?_
        · go_simp
          go_at_call 16
          refine (HGET.out _ _ (by (repeat (first | refine Sat.drew ?_ | refine Sat.drewN ?_ _)); exact ((S5.box zC 39 rfl).bring 1)) (by simp [hm])).mono ?_
          rintro e w6b ⟨rfl, S6⟩
          refine hK.out _ _ ?_ (fun hHeld => ?_)
          · exact HX.out _ _ S6 (by simp) (by simp) (by simp) (by simp)
          clear hK K
          try simp only [Act.put, List.setIfInBounds_toArray, List.set_cons_zero, List.set_cons_succ, List.getElem_toArray, List.getElem_cons_zero, List.getElem_cons_succ]
          refine wpAnyH_take (i := 13) (oi := _) (v := ?_) rfl (by kernel_rfl) (by kernel_rfl) (by kernel_rfl) (fun _ _ _ h => h) (Or.inl ⟨by rfl, ?_⟩) hHeld ?_
          rotate_left
          · intro w' hSw
            (try dsimp only at hSw)
            go_simp
            try with_reducible rfl
          try simp only [Act.put, List.setIfInBounds_toArray, List.set_cons_zero, List.set_cons_succ, List.getElem_toArray, List.getElem_cons_zero, List.getElem_cons_succ]
          refine wpAnyH_take (i := 14) (oi := _) (v := ?_) rfl (by kernel_rfl) (by kernel_rfl) (by kernel_rfl) (fun _ _ _ h => h) (Or.inl ⟨by rfl, ?_⟩) hHeld ?_
          rotate_left
          · intro w' hSw
            (try dsimp only at hSw)
            go_simp
            try with_reducible rfl
          try simp only [Act.put, List.setIfInBounds_toArray, List.set_cons_zero, List.set_cons_succ, List.getElem_toArray, List.getElem_cons_zero, List.getElem_cons_succ]
          refine wpAnyH_take (i := 15) (oi := _) (v := ?_) rfl (by kernel_rfl) (by kernel_rfl) (by kernel_rfl) (fun _ _ _ h => h) (Or.inl ⟨by rfl, ?_⟩) hHeld ?_
          rotate_left
          · intro w' hSw
            (try dsimp only at hSw)
            go_simp
            try with_reducible rfl
          try simp only [Act.put, List.setIfInBounds_toArray, List.set_cons_zero, List.set_cons_succ, List.getElem_toArray, List.getElem_cons_zero, List.getElem_cons_succ]
          refine wpAnyH_ready (rs := [17]) (by kernel_rfl) (by simp) ?_
          refine AllReadyH.cons rfl (fun K hK => ?_) ?_
          · refine step_sstore rfl _ (.tmp 9) (.tmp 49) rfl (g := g) (S := (S6.bring 1)) _ rfl rfl (by kernel_rfl) rfl (by simp [Value.oneCell']) ?_
            intro S8
            refine hK.out _ _ ?_ (fun hHeld => ?_)
            · exact HX.out _ _ S8 (by simp) (by simp) (by simp) (by simp)
            clear hK K
            try simp only [Act.put, List.setIfInBounds_toArray, List.set_cons_zero, List.set_cons_succ, List.getElem_toArray, List.getElem_cons_zero, List.getElem_cons_succ]
            refine wpAnyH_take (i := 18) (oi := _) (v := ?_) rfl (by kernel_rfl) (by kernel_rfl) (by kernel_rfl) (fun _ _ _ h => h) (Or.inl ⟨by rfl, ?_⟩) hHeld ?_
            rotate_left
            · intro w' hSw
              (try dsimp only at hSw)
              go_simp
              try with_reducible rfl
            try simp only [Act.put, List.setIfInBounds_toArray, List.set_cons_zero, List.set_cons_succ, List.getElem_toArray, List.getElem_cons_zero, List.getElem_cons_succ]
            refine wpAnyH_done (by kernel_rfl) ?_ _
            first | generalize w6.heap.size = nb at * | generalize w4.heap.size = nb at *
            obtain ⟨z0, z1, z2, z3⟩ := HX.out _ _ S8 (by simp) (by simp) (by simp) (by simp)
            go_upto_region 6 with fail
            refine wp_region_held_drew (S := (fun w' => w'.cell? ⟨b, 1, none⟩ = some (.slice (some ad) ps.length c) ∧ w'.cell? (ad.add k) = some (ptr sb) ∧ w'.cell? ⟨rb, 14, none⟩ = some (.int .i64 (k : Int)) ∧ w'.cell? ⟨sb, 0, none⟩ = some (ptr t))) (by kernel_rfl) ?_ (fun hHeld => ?_)
            · exact HX.out _ _ S8.drew (by simp) (by simp) (by simp) (by simp)
            refine wpAnyH_take (i := 0) (oi := _) (v := ?_) rfl (by kernel_rfl) (by kernel_rfl) (by kernel_rfl) (fun _ _ _ h => h) (Or.inl ⟨by rfl, ?_⟩) hHeld ?_
            rotate_left
            · intro w' hSw
              (try dsimp only at hSw)
              go_simp
              try with_reducible rfl
            try simp only [Act.put, List.setIfInBounds_toArray, List.set_cons_zero, List.set_cons_succ, List.getElem_toArray, List.getElem_cons_zero, List.getElem_cons_succ]
            refine wpAnyH_take (i := 1) (oi := _) (v := ?_) rfl (by kernel_rfl) (by kernel_rfl) (by kernel_rfl) (fun _ _ _ h => h) (Or.inl ⟨by rfl, ?_⟩) hHeld ?_
            rotate_left
            · intro w' hSw
              (try dsimp only at hSw)
              go_simp
              try with_reducible rfl
            try simp only [Act.put, List.setIfInBounds_toArray, List.set_cons_zero, List.set_cons_succ, List.getElem_toArray, List.getElem_cons_zero, List.getElem_cons_succ]
            refine wpAnyH_take (i := 2) (oi := _) (v := ?_) rfl (by kernel_rfl) (by kernel_rfl) (by kernel_rfl) (fun _ _ _ h => h) (Or.inl ⟨by rfl, ?_⟩) hHeld ?_
            rotate_left
            · intro w' hSw
              (try dsimp only at hSw)
              go_simp
              try with_reducible rfl
            try simp only [Act.put, List.setIfInBounds_toArray, List.set_cons_zero, List.set_cons_succ, List.getElem_toArray, List.getElem_cons_zero, List.getElem_cons_succ]
            refine wpAnyH_take (i := 3) (oi := _) (v := ?_) rfl (by kernel_rfl) (by kernel_rfl) (by kernel_rfl) (fun _ _ _ h => h) (Or.inl ⟨by rfl, ?_⟩) hHeld ?_
            rotate_left
            · intro w' hSw
              (try dsimp only at hSw)
              go_simp
              try with_reducible rfl
            try simp only [Act.put, List.setIfInBounds_toArray, List.set_cons_zero, List.set_cons_succ, List.getElem_toArray, List.getElem_cons_zero, List.getElem_cons_succ]
            refine wpAnyH_take (i := 4) (oi := _) (v := ?_) rfl (by kernel_rfl) (by kernel_rfl) (by kernel_rfl) (fun _ _ _ h => h) (Or.inl ⟨by rfl, ?_⟩) hHeld ?_
            rotate_left
            · intro w' hSw
              (try dsimp only at hSw)
              go_simp
              try with_reducible rfl
            try simp only [Act.put, List.setIfInBounds_toArray, List.set_cons_zero, List.set_cons_succ, List.getElem_toArray, List.getElem_cons_zero, List.getElem_cons_succ]
            refine wpAnyH_take (i := 5) (oi := _) (v := ?_) rfl (by kernel_rfl) (by kernel_rfl) (by kernel_rfl) (fun _ _ _ h => h) (Or.inl ⟨by rfl, ?_⟩) hHeld ?_
            rotate_left
            · intro w' hSw
              (try dsimp only at hSw)
              go_simp
              try with_reducible rfl
            try simp only [Act.put, List.setIfInBounds_toArray, List.set_cons_zero, List.set_cons_succ, List.getElem_toArray, List.getElem_cons_zero, List.getElem_cons_succ]
            refine wpAnyH_take (i := 6) (oi := _) (v := ?_) rfl (by kernel_rfl) (by kernel_rfl) (by kernel_rfl) (fun _ _ _ h => h) (Or.inl ⟨by rfl, ?_⟩) hHeld ?_
            rotate_left
            · intro w' hSw
              (try dsimp only at hSw)
              go_simp
              try with_reducible rfl
            try simp only [Act.put, List.setIfInBounds_toArray, List.set_cons_zero, List.set_cons_succ, List.getElem_toArray, List.getElem_cons_zero, List.getElem_cons_succ]
            refine wpAnyH_take (i := 7) (oi := _) (v := ?_) rfl (by kernel_rfl) (by kernel_rfl) (by kernel_rfl) (fun _ _ _ h => h) (Or.inl ⟨by rfl, ?_⟩) hHeld ?_
            rotate_left
            · intro w' hSw
              (try dsimp only at hSw)
              go_simp
              try with_reducible rfl
            try simp only [Act.put, List.setIfInBounds_toArray, List.set_cons_zero, List.set_cons_succ, List.getElem_toArray, List.getElem_cons_zero, List.getElem_cons_succ]
            refine wpAnyH_take (i := 8) (oi := _) (v := ?_) rfl (by kernel_rfl) (by kernel_rfl) (by kernel_rfl) (fun _ _ _ h => h) (Or.inl ⟨by rfl, ?_⟩) hHeld ?_
            rotate_left
            · intro w' hSw
              (try dsimp only at hSw)
              go_simp
              try with_reducible rfl
            try simp only [Act.put, List.setIfInBounds_toArray, List.set_cons_zero, List.set_cons_succ, List.getElem_toArray, List.getElem_cons_zero, List.getElem_cons_succ]
            refine wpAnyH_take (i := 9) (oi := _) (v := ?_) rfl (by kernel_rfl) (by kernel_rfl) (by kernel_rfl) (fun _ _ _ h => h) (Or.inl ⟨by rfl, ?_⟩) hHeld ?_
            rotate_left
            · intro w' hSw
              (try dsimp only at hSw)
              go_simp
              try with_reducible rfl
            try simp only [Act.put, List.setIfInBounds_toArray, List.set_cons_zero, List.set_cons_succ, List.getElem_toArray, List.getElem_cons_zero, List.getElem_cons_succ]
            refine wpAnyH_take (i := 10) (oi := _) (v := ?_) rfl (by kernel_rfl) (by kernel_rfl) (by kernel_rfl) (fun _ _ _ h => h) (Or.inl ⟨by rfl, ?_⟩) hHeld ?_
            rotate_left
            · intro w' hSw
              (try dsimp only at hSw)
              go_simp
              try with_reducible rfl
            try simp only [Act.put, List.setIfInBounds_toArray, List.set_cons_zero, List.set_cons_succ, List.getElem_toArray, List.getElem_cons_zero, List.getElem_cons_succ]
            refine wpAnyH_take (i := 11) (oi := _) (v := ?_) rfl (by kernel_rfl) (by kernel_rfl) (by kernel_rfl) (fun _ _ _ h => h) (Or.inl ⟨by rfl, ?_⟩) hHeld ?_
            rotate_left
            · intro w' hSw
              (try dsimp only at hSw)
              go_simp
              try with_reducible rfl
            try simp only [Act.put, List.setIfInBounds_toArray, List.set_cons_zero, List.set_cons_succ, List.getElem_toArray, List.getElem_cons_zero, List.getElem_cons_succ]
            refine wpAnyH_ready (rs := [12]) (by kernel_rfl) (by simp) ?_
            refine AllReadyH.cons rfl (fun K hK => ?_) ?_
            · go_simp
              go_at_call 17
              refine (HKID.out _ _ (by (repeat (first | refine Sat.drew ?_ | refine Sat.drewN ?_ _)); exact (S8.bring 1)) (by simp [hm])).mono ?_
              rintro e w9 ⟨v9, rfl, S9⟩
              obtain ⟨A9, c9, rfl, -⟩ := S9.row.form
              refine hK.out _ _ ?_ (fun hHeld => ?_)
              · exact HX.out _ _ S9 (by simp) (by simp) (by simp) (by simp)
              clear hK K
              try simp only [Act.put, List.setIfInBounds_toArray, List.set_cons_zero, List.set_cons_succ, List.getElem_toArray, List.getElem_cons_zero, List.getElem_cons_succ]
              refine wpAnyH_take (i := 13) (oi := _) (v := ?_) rfl (by kernel_rfl) (by kernel_rfl) (by kernel_rfl) (fun _ _ _ h => h) (Or.inl ⟨by rfl, ?_⟩) hHeld ?_
              rotate_left
              · intro w' hSw
                (try dsimp only at hSw)
                go_simp
                try with_reducible rfl
              try simp only [Act.put, List.setIfInBounds_toArray, List.set_cons_zero, List.set_cons_succ, List.getElem_toArray, List.getElem_cons_zero, List.getElem_cons_succ]
              refine wpAnyH_take (i := 14) (oi := _) (v := ?_) rfl (by kernel_rfl) (by kernel_rfl) (by kernel_rfl) (fun _ _ _ h => h) (Or.inl ⟨by rfl, ?_⟩) hHeld ?_
              rotate_left
              · intro w' hSw
                (try dsimp only at hSw)
                go_simp
                try with_reducible rfl
              try simp only [Act.put, List.setIfInBounds_toArray, List.set_cons_zero, List.set_cons_succ, List.getElem_toArray, List.getElem_cons_zero, List.getElem_cons_succ]
              refine wpAnyH_take (i := 15) (oi := _) (v := ?_) rfl (by kernel_rfl) (by kernel_rfl) (by kernel_rfl) (fun _ _ _ h => h) (Or.inl ⟨by rfl, ?_⟩) hHeld ?_
              rotate_left
              · intro w' hSw
                (try dsimp only at hSw)
                go_simp
                try with_reducible rfl
              try simp only [Act.put, List.setIfInBounds_toArray, List.set_cons_zero, List.set_cons_succ, List.getElem_toArray, List.getElem_cons_zero, List.getElem_cons_succ]
              refine wpAnyH_take (i := 16) (oi := _) (v := ?_) rfl (by kernel_rfl) (by kernel_rfl) (by kernel_rfl) (fun _ _ _ h => h) (Or.inl ⟨by rfl, ?_⟩) hHeld ?_
              rotate_left
              · intro w' hSw
                (try dsimp only at hSw)
                go_simp
                try with_reducible rfl
              try simp only [Act.put, List.setIfInBounds_toArray, List.set_cons_zero, List.set_cons_succ, List.getElem_toArray, List.getElem_cons_zero, List.getElem_cons_succ]
              refine wpAnyH_take (i := 17) (oi := _) (v := ?_) rfl (by kernel_rfl) (by kernel_rfl) (by kernel_rfl) (fun _ _ _ h => h) (Or.inl ⟨by rfl, ?_⟩) hHeld ?_
              rotate_left
              · intro w' hSw
                (try dsimp only at hSw)
                go_simp
                try with_reducible rfl
              try simp only [Act.put, List.setIfInBounds_toArray, List.set_cons_zero, List.set_cons_succ, List.getElem_toArray, List.getElem_cons_zero, List.getElem_cons_succ]
              refine wpAnyH_done (by kernel_rfl) ?_ _
              clear S5 S6 S8
              obtain ⟨z0, z1, z2, z3⟩ := HX.out _ _ S9 (by simp) (by simp) (by simp) (by simp)
              have n0 := (S9.bring 2).cell 0 _ rfl
              have n1 := (S9.bring 2).cell 1 _ rfl
              have n2 := (S9.bring 2).cell 2 _ rfl
              have n3 := (S9.bring 2).cell 3 _ rfl
              have n4 := (S9.bring 2).cell 4 _ rfl
              have n5 := (S9.bring 2).cell 5 _ rfl
              have n6 := (S9.bring 2).cell 6 _ rfl
              have y0 := (S9.bring 11).cell 0 _ rfl
              have y5 := (S9.bring 11).cell 5 _ rfl
              have y6 := (S9.bring 11).cell 6 _ rfl
              have y7 := (S9.bring 11).cell 7 _ rfl
              have y8 := (S9.bring 11).cell 8 _ rfl
              have y9 := (S9.bring 11).cell 9 _ rfl
              have y10 := (S9.bring 11).cell 10 _ rfl
              have y11 := (S9.bring 11).cell 11 _ rfl
              have y12 := (S9.bring 11).cell 12 _ rfl
              have hneq := fun w' => neq_nodJ w' N9 nd
              by_cases hD1 : N9 = nd
              · by_cases hD2 : E9 = re
                · subst hD2
                  have hd1 : decide (N9 = nd) = true := by simpa using hD1
                  rw [hd1] at hneq
                  have heq := HEQ.out w9 _ A9 c9 S9 (by simp [hKV])
                  generalize hD3 : decide (K9 = kl) = D3 at *
                  have HD1 := hide hD1
                  clear hD1 hd1
                  go_wp2_with fail
                  refine heq.mono ?_
                  rintro e w10 ⟨rfl, hk10⟩
                  have S10 := HSHUT.out w10 A9 c9 nb (S9.keep hk10)
                  clear S9 heq hneq z0 z1 z2 z3
                  go_wp2_with fail
                  refine (j_bad S10 (!D3)).mono ?_
                  rintro e w11 ⟨rfl, S11⟩
                  clear S10
                  go_wp2_with fail
                  go_ret
                  refine ⟨D3, by rw [HG9.out, HK9.out]; simp [HD1.out, hD3], by simp, ?_⟩
                  cases D3
                  · simpa using S11
                  · simpa using S11
                · have hE : (E9 != re) = true := by simpa using hD2
                  have hd1 : decide (N9 = nd) = true := by simpa using hD1
                  rw [hd1] at hneq
                  have HD2 := hide hD2
                  have S10 := HSHUT.out w9 A9 c9 nb S9
                  clear S9 z0 z1 z2 z3 hD1 hD2 hd1
                  go_wp2_with fail
                  refine (j_bad S10 true).mono ?_
                  rintro e w11 ⟨rfl, S11⟩
                  clear S10
                  go_wp2_with fail
                  go_ret
                  exact ⟨false, by rw [HG9.out, HK9.out]; simp [HD2.out], rfl, by simpa using S11⟩
              · have hd1 : decide (N9 = nd) = false := by simpa using hD1
                rw [hd1] at hneq
                have HD1 := hide hD1
                have S10 := HSHUT.out w9 A9 c9 nb S9
                clear S9 z0 z1 z2 z3 hD1 hd1
                go_wp2_with fail
                refine (j_bad S10 true).mono ?_
                rintro e w11 ⟨rfl, S11⟩
                clear S10
                go_wp2_with fail
                go_ret
                exact ⟨false, by rw [HG9.out, HK9.out]; simp [HD1.out], rfl, by simpa using S11⟩
            exact AllReadyH.nil
          exact AllReadyH.nil
        exact AllReadyH.nil
      exact AllReadyH.nil
    exact AllReadyH.nil
  exact AllReadyH.nil

end Go.Proofs.YthgiamofndhehaaGreatDoor
