/- An answer held against what is known, walked. No condition. -/
import Derived.Test.YtanlobdidjednaaGreatDoorJuK
set_option linter.unusedVariables false
set_option linter.unusedSimpArgs false
namespace Go.Proofs.YtanlobdidjednaaGreatDoor
open Go.RowKit

/-- is an answer right, by what is known -/
def answOk (s9 : StT) (t : List UInt8) (c : CmdT) (r2 : ResT) : Bool := decide ((readF t).2 = 0) && decide ((readF t).1 = c) && (if c.session ∈ keys s9.tab then (keptSt s9 c.session c.req).2.1 && decide ((keptSt s9 c.session c.req).2.2 = 0) && decide ((keptSt s9 c.session c.req).1 = r2) else true)
theorem Sat.rowMaxK {g w : World} {L : List Asn} {e : TypeId} {size n : Nat} {v : Value} {xs : List Value} (S0 : Sat g w (rowA e size v n xs :: L)) : n ≤ 9223372036854775807 := by
  obtain ⟨A, cap, e, h1, h2, h3, h4⟩ := S0.row.form
  unfold maxLen at *
  omega
set_option maxRecDepth 100000 in
set_option maxHeartbeats 16000000 in
theorem answer_near {g w : World} {L : List Asn} {b : Nat} {m : JTx} {ss : List StT} {told : Int} (S0 : Sat g w (judgeA b m ss told 0 :: L)) (hJ : JOk m ss) {k : Nat} {s9 : StT} (hs9 : ss[k]? = some s9) {t : List UInt8} (ht : mget m (k : Int) = some t)
    {kd ses rq nt e2 a2 at_ ah : Int} {ops : List OpT} {pa : List UInt8} {ki oc : Bool} {A1 A2 : Option Addr} {cap1 cap2 : Nat} {outs : List OutT} {n0 n1 n2 n3 n4 n5 n6 kv ev ld : Value}
    (hC : rowA 71 6 (.slice A1 ops.length cap1) ops.length (ops.flatMap opC) ∈ L) (hR : rowA 109 2 (.slice A2 outs.length cap2) outs.length (outs.flatMap outC) ∈ L) (h1 : kd ≠ 1) (h2 : kd ≠ 2) (h4 : ah < (k : Int)) (h5 : (k : Int) ≤ at_) (hq : (seenF s9.tab ses rq).1.length ≤ 1000000) :
    Calls Tryz.prog 11 #[ptr b, .agg #[.int .i64 kd, .int .i64 ses, .int .i64 rq, .int .i64 nt, .slice A1 ops.length cap1, .string (S pa), .bool ki, .bool oc], .agg #[.int .i64 0, .int .i64 e2, .int .i64 a2, .slice A2 outs.length cap2, .int .i64 (k : Int), n0, n1, n2, n3, n4, n5, n6, kv, ev, .int .i64 at_, ld], .int .i64 ah] w fun e w' => e = .returned (.bool (answOk s9 t ⟨kd, ses, rq, nt, ops, pa, ki, oc⟩ ⟨e2, a2, outs, (k : Int)⟩)) ∧ Sat g w' (judgeA b m ss (max told (k : Int)) (if answOk s9 t ⟨kd, ses, rq, nt, ops, pa, ki, oc⟩ ⟨e2, a2, outs, (k : Int)⟩ = true then 0 else 6) :: L) := by
  have HGD : Hid (answOk s9 t ⟨kd, ses, rq, nt, ops, pa, ki, oc⟩ ⟨e2, a2, outs, (k : Int)⟩ = (decide ((readF t).2 = 0) && decide ((readF t).1 = ⟨kd, ses, rq, nt, ops, pa, ki, oc⟩) && (if ses ∈ keys s9.tab then (keptSt s9 ses rq).2.1 && decide ((keptSt s9 ses rq).2.2 = 0) && decide ((keptSt s9 ses rq).1 = ⟨e2, a2, outs, (k : Int)⟩) else true))) := hide rfl
  generalize answOk s9 t ⟨kd, ses, rq, nt, ops, pa, ki, oc⟩ ⟨e2, a2, outs, (k : Int)⟩ = GD at *
  have hk := (List.getElem?_eq_some_iff.1 hs9).1
  have hl : ss.length ≤ 1000000 := by have := hJ.len; have := hJ.ml; omega
  have htl := hJ.tl _ (mget_mem ht)
  have S1 := S0.box #[.int .i64 kd, .int .i64 ses, .int .i64 rq, .int .i64 nt, .slice A1 ops.length cap1, .string (S pa), .bool ki, .bool oc] 35 rfl
  have S2 := S1.box #[.int .i64 0, .int .i64 e2, .int .i64 a2, .slice A2 outs.length cap2, .int .i64 (k : Int), n0, n1, n2, n3, n4, n5, n6, kv, ev, .int .i64 at_, ld] 49 (b := w.heap.size + 1) (by simp)
  have y0 := S2.cell 0 _ rfl
  have y4 := S2.cell 4 _ rfl
  have y14 := S2.cell 14 _ rfl
  have x0 := (S2.bring 1).cell 0 _ rfl
  have k1 : (kd == 1) = false := by simpa using h1
  have k2 : (kd == 2) = false := by simpa using h2
  have h4' : ¬ (k : Int) ≤ ah := by omega
  have h5' : ¬ at_ < (k : Int) := by omega
  have HT := hide ht
  clear S0 S1 h1 h2 h4 h5 ht
  go_enter Tryz.func11, Tryz.ntmps11
  go_wp2_with fail
  generalize hab : w.heap.size = cb at *
  refine (j_bad (S2.bring 2) false).mono ?_
  rintro e w3 ⟨rfl, S3⟩
  have y0 := (S3.bring 1).cell 0 _ rfl
  have y4 := (S3.bring 1).cell 4 _ rfl
  have y14 := (S3.bring 1).cell 14 _ rfl
  clear x0 S2
  go_wp2_with fail
  refine (j_known S3 hl).mono ?_
  rintro e w4 ⟨rfl, S4⟩
  obtain ⟨tb, eb, A, c, ps, hps, hpl, S5⟩ := S4.judgeOpen
  have x3 := S5.cell 3 _ rfl
  have xf := S5.cells_fz 3
  have hnl : ¬ (ss.length : Int) - 1 < (k : Int) := by omega
  clear S3 S4 y0 y4 y14
  go_upto_region 7 with fail
  have S6 := S5.setc 3 (.int .i64 (max told (k : Int)))
  generalize w4.setCell ⟨b, 3, none⟩ (.int .i64 (max told (k : Int))) = w6 at *
  clear S5 x3 xf
  have x0 := S6.cell 0 _ rfl
  have hlk : (Instr.lookup 59 (.map (some tb)) (.int .i64 (k : Int)) false).run Tryz.prog w6 = .ok (.string (S t)) w6 := (S6.bring 1).mapOf.look_some kT Tryz.underlying59 HT.out false
  have hread := read_row w6 t (by omega)
  have HRF := hide (rfl : readF t = readF t)
  generalize hRF : readF t = RF at *
  have HRD := hide hRF
  clear hRF HRF
  obtain ⟨d, de⟩ := RF
  simp only at hread
  go_wp2_with fail
  refine hread.mono ?_
  rintro e w7 ⟨A3, c3, rfl, hrow, hk7⟩
  have S7 := S6.newRow hk7 hrow
  clear S6 hrow hk7 x0 hlk hread
  have S8 := S7.box #[.int .i64 d.kind, .int .i64 d.session, .int .i64 d.req, .int .i64 d.noted, .slice A3 d.ops.length c3, .string (S d.path), .bool d.kids, .bool d.once] 35 rfl
  go_upto_region 8 with fail
  generalize w7.alloc (.cells #[.int .i64 d.kind, .int .i64 d.session, .int .i64 d.req, .int .i64 d.noted, .slice A3 d.ops.length c3, .string (S d.path), .bool d.kids, .bool d.once] 35) = w8 at *
  generalize w7.heap.size = db at *
  clear S7
  obtain ⟨sb, hp⟩ : ∃ sb, ps[k]? = some (sb, s9) := by
    rw [← hps, List.getElem?_map] at hs9
    cases h : ps[k]? with
    | none => rw [h] at hs9; cases hs9
    | some p => rw [h] at hs9; injection hs9 with hs9; exact ⟨p.1, by rw [← hs9]⟩
  have S9 : Sat g w8 _ := (S8.bring 5).jAt hp
  obtain ⟨ad, u, rfl, hu, z0⟩ := Src.at_ (S9.bring 6).srcOf (k := k) (by omega)
  have HKEPT := hide fun (w' : World) (L' : List Asn) (S' : Sat g w' (stateA sb s9 :: L')) => kept_state S' ses rq hq
  have HHAS := hide fun (w' : World) (L' : List Asn) (S' : Sat g w' (stateA sb s9 :: L')) => s_hasst S' ses
  generalize hKS : keptSt s9 ses rq = KS at *
  generalize hHB : decide (ses ∈ keys s9.tab) = HB at *
  have HKS := hide hKS
  have HHB := hide hHB
  clear hKS hHB
  obtain ⟨r, th, f⟩ := KS
  simp only at HKEPT
  have HIF : Hid (∀ x : Bool, (if ses ∈ keys s9.tab then x else true) = if HB = true then x else true) := hide fun x => by
    have := HHB.out
    by_cases h : ses ∈ keys s9.tab
    · rw [if_pos h, if_pos (by rw [← this]; simp [h])]
    · rw [if_neg h, if_neg (by rw [← this]; simp [h])]
  have HX : Hid (∀ (w' : World) (L' : List Asn), Sat g w' L' → jC b tb (.slice (some ad) ps.length c) eb (max told (k : Int)) 0 ∈ L' → jR (.slice (some ad) ps.length c) ps ∈ L' → cellsA cb 35 #[.int .i64 kd, .int .i64 ses, .int .i64 rq, .int .i64 nt, .slice A1 ops.length cap1, .string (S pa), .bool ki, .bool oc] ∈ L' → w'.cell? ⟨b, 1, none⟩ = some (.slice (some ad) ps.length c) ∧ w'.cell? (ad.add k) = some (ptr sb) ∧ w'.cell? ⟨cb, 1, none⟩ = some (.int .i64 ses) ∧ w'.cell? ⟨cb, 2, none⟩ = some (.int .i64 rq)) := hide fun w' L' S' h1 h2 h3 => ⟨S'.cell_of h1 1 _ rfl, (by
    obtain ⟨L3, S3⟩ := S'.mem_ h2
    obtain ⟨ad2, u2, e2, hu2, z2⟩ := Src.at_ S3.srcOf (k := k) (by omega)
    cases e2
    rw [List.getElem?_map, hp] at hu2
    cases hu2
    exact z2), S'.cell_of h3 1 _ rfl, S'.cell_of h3 2 _ rfl⟩
  have HSHUT : Hid (∀ (w' : World) (A4 : Option Addr) (c4 kb : Nat), Sat g w' (stateA sb s9 :: cellsA kb 41 #[.int .i64 r.e, .int .i64 r.at_, .slice A4 r.outs.length c4, .int .i64 r.when] :: rowA 109 2 (.slice A4 r.outs.length c4) r.outs.length (r.outs.flatMap outC) :: stars ((ps.eraseIdx k).map stp) :: cellsA db 35 #[.int .i64 d.kind, .int .i64 d.session, .int .i64 d.req, .int .i64 d.noted, .slice A3 d.ops.length c3, .string (S d.path), .bool d.kids, .bool d.once] :: rowA 71 6 (.slice A3 d.ops.length c3) d.ops.length (d.ops.flatMap opC) :: jC b tb (.slice (some ad) ps.length c) eb (max told (k : Int)) 0 :: mapA kI tW tb m :: jR (.slice (some ad) ps.length c) ps :: evsA eb (2000 * ss.length) :: cellsA (cb + 1) 49 #[.int .i64 0, .int .i64 e2, .int .i64 a2, .slice A2 outs.length cap2, .int .i64 (k : Int), n0, n1, n2, n3, n4, n5, n6, kv, ev, .int .i64 at_, ld] :: cellsA cb 35 #[.int .i64 kd, .int .i64 ses, .int .i64 rq, .int .i64 nt, .slice A1 ops.length cap1, .string (S pa), .bool ki, .bool oc] :: L) →
      Sat g w' (judgeA b m ss (max told (k : Int)) 0 :: cellsA kb 41 #[.int .i64 r.e, .int .i64 r.at_, .slice A4 r.outs.length c4, .int .i64 r.when] :: rowA 109 2 (.slice A4 r.outs.length c4) r.outs.length (r.outs.flatMap outC) :: cellsA db 35 #[.int .i64 d.kind, .int .i64 d.session, .int .i64 d.req, .int .i64 d.noted, .slice A3 d.ops.length c3, .string (S d.path), .bool d.kids, .bool d.once] :: rowA 71 6 (.slice A3 d.ops.length c3) d.ops.length (d.ops.flatMap opC) :: cellsA (cb + 1) 49 #[.int .i64 0, .int .i64 e2, .int .i64 a2, .slice A2 outs.length cap2, .int .i64 (k : Int), n0, n1, n2, n3, n4, n5, n6, kv, ev, .int .i64 at_, ld] :: cellsA cb 35 #[.int .i64 kd, .int .i64 ses, .int .i64 rq, .int .i64 nt, .slice A1 ops.length cap1, .string (S pa), .bool ki, .bool oc] :: L)) := hide fun w' A4 c4 kb S' => by
    have Q1 := ((S'.bring 3).p1).jBack hp
    exact (((((Q1.bring 8).bring 1).bring 8).bring 8).bring 8).judgeShut hps
  have HSC : Hid (∀ (w' : World) (A4 : Option Addr) (c4 kb : Nat), Sat g w' (judgeA b m ss (max told (k : Int)) 0 :: cellsA kb 41 #[.int .i64 r.e, .int .i64 r.at_, .slice A4 r.outs.length c4, .int .i64 r.when] :: rowA 109 2 (.slice A4 r.outs.length c4) r.outs.length (r.outs.flatMap outC) :: cellsA db 35 #[.int .i64 d.kind, .int .i64 d.session, .int .i64 d.req, .int .i64 d.noted, .slice A3 d.ops.length c3, .string (S d.path), .bool d.kids, .bool d.once] :: rowA 71 6 (.slice A3 d.ops.length c3) d.ops.length (d.ops.flatMap opC) :: cellsA (cb + 1) 49 #[.int .i64 0, .int .i64 e2, .int .i64 a2, .slice A2 outs.length cap2, .int .i64 (k : Int), n0, n1, n2, n3, n4, n5, n6, kv, ev, .int .i64 at_, ld] :: cellsA cb 35 #[.int .i64 kd, .int .i64 ses, .int .i64 rq, .int .i64 nt, .slice A1 ops.length cap1, .string (S pa), .bool ki, .bool oc] :: L) →
      Calls Tryz.prog 32 #[.agg #[.int .i64 d.kind, .int .i64 d.session, .int .i64 d.req, .int .i64 d.noted, .slice A3 d.ops.length c3, .string (S d.path), .bool d.kids, .bool d.once], .agg #[.int .i64 kd, .int .i64 ses, .int .i64 rq, .int .i64 nt, .slice A1 ops.length cap1, .string (S pa), .bool ki, .bool oc]] w' fun e w2 => e = .returned (.bool (decide (d = ⟨kd, ses, rq, nt, ops, pa, ki, oc⟩))) ∧ Keeps (fun _ => False) w' w2) := hide fun w' A4 c4 kb S' => by
    obtain ⟨L3, S3⟩ := S'.mem_ (show rowA 71 6 (.slice A1 ops.length cap1) ops.length (ops.flatMap opC) ∈ _ by simp [hC])
    exact same_cmd w' d ⟨kd, ses, rq, nt, ops, pa, ki, oc⟩ A3 A1 c3 cap1 (S'.bring 4).srcOf S3.srcOf (S'.bring 4).rowMaxK S3.rowMaxK
  have HSR : Hid (∀ (w' : World) (A4 : Option Addr) (c4 kb : Nat), Sat g w' (judgeA b m ss (max told (k : Int)) 0 :: cellsA kb 41 #[.int .i64 r.e, .int .i64 r.at_, .slice A4 r.outs.length c4, .int .i64 r.when] :: rowA 109 2 (.slice A4 r.outs.length c4) r.outs.length (r.outs.flatMap outC) :: cellsA db 35 #[.int .i64 d.kind, .int .i64 d.session, .int .i64 d.req, .int .i64 d.noted, .slice A3 d.ops.length c3, .string (S d.path), .bool d.kids, .bool d.once] :: rowA 71 6 (.slice A3 d.ops.length c3) d.ops.length (d.ops.flatMap opC) :: cellsA (cb + 1) 49 #[.int .i64 0, .int .i64 e2, .int .i64 a2, .slice A2 outs.length cap2, .int .i64 (k : Int), n0, n1, n2, n3, n4, n5, n6, kv, ev, .int .i64 at_, ld] :: cellsA cb 35 #[.int .i64 kd, .int .i64 ses, .int .i64 rq, .int .i64 nt, .slice A1 ops.length cap1, .string (S pa), .bool ki, .bool oc] :: L) →
      Calls Tryz.prog 33 #[.agg #[.int .i64 r.e, .int .i64 r.at_, .slice A4 r.outs.length c4, .int .i64 r.when], .agg #[.int .i64 e2, .int .i64 a2, .slice A2 outs.length cap2, .int .i64 (k : Int)]] w' fun e w2 => e = .returned (.bool (decide (r = ⟨e2, a2, outs, (k : Int)⟩))) ∧ Keeps (fun _ => False) w' w2) := hide fun w' A4 c4 kb S' => by
    obtain ⟨L3, S3⟩ := S'.mem_ (show rowA 109 2 (.slice A2 outs.length cap2) outs.length (outs.flatMap outC) ∈ _ by simp [hR])
    exact same_res w' r ⟨e2, a2, outs, (k : Int)⟩ A4 A2 c4 cap2 (S'.bring 2).srcOf S3.srcOf (S'.bring 2).rowMaxK S3.rowMaxK
  have hkp : (k : Int) < (ps.length : Int) := by omega
  have hk0 : (0 : Int) ≤ (k : Int) := by omega
  clear S8 hu z0 hp
  refine wp_region_held_drew (S := (fun w' => w'.cell? ⟨b, 1, none⟩ = some (.slice (some ad) ps.length c) ∧ w'.cell? (ad.add k) = some (ptr sb) ∧ w'.cell? ⟨cb, 1, none⟩ = some (.int .i64 ses) ∧ w'.cell? ⟨cb, 2, none⟩ = some (.int .i64 rq))) (by kernel_rfl) ?_ (fun hHeld => ?_)
  · exact HX.out _ _ S9.drew (by simp) (by simp) (by simp)
  refine wpAnyH_take (i := 0) (oi := _) (v := ?_) rfl (by kernel_rfl) (by kernel_rfl) (by kernel_rfl) (fun _ _ _ h => h) (Or.inl ⟨by rfl, ?_⟩) hHeld ?_
  rotate_left
  · intro w' hSw
    (try dsimp only at hSw)
    go_simp
    try with_reducible rfl
  try simp only [Act.put, List.setIfInBounds_toArray, List.set_cons_zero, List.set_cons_succ, List.getElem_toArray, List.getElem_cons_zero, List.getElem_cons_succ]
  refine wpAnyH_take (i := 1) (oi := _) (v := ?_) rfl (by kernel_rfl) (by kernel_rfl) (by kernel_rfl) (fun _ _ _ h => h) (Or.inl ⟨by rfl, ?_⟩) hHeld ?_
  rotate_left
  · intro w' hSw
    (try dsimp only at hSw)
    go_simp
    try with_reducible rfl
  try simp only [Act.put, List.setIfInBounds_toArray, List.set_cons_zero, List.set_cons_succ, List.getElem_toArray, List.getElem_cons_zero, List.getElem_cons_succ]
  refine wpAnyH_take (i := 2) (oi := _) (v := ?_) rfl (by kernel_rfl) (by kernel_rfl) (by kernel_rfl) (fun _ _ _ h => h) (Or.inl ⟨by rfl, ?_⟩) hHeld ?_
  rotate_left
  · intro w' hSw
    (try dsimp only at hSw)
    go_simp
    try with_reducible rfl
  try simp only [Act.put, List.setIfInBounds_toArray, List.set_cons_zero, List.set_cons_succ, List.getElem_toArray, List.getElem_cons_zero, List.getElem_cons_succ]
  refine wpAnyH_take (i := 3) (oi := _) (v := ?_) rfl (by kernel_rfl) (by kernel_rfl) (by kernel_rfl) (fun _ _ _ h => h) (Or.inl ⟨by rfl, ?_⟩) hHeld ?_
  rotate_left
  · intro w' hSw
    (try dsimp only at hSw)
    go_simp
    try with_reducible rfl
  try simp only [Act.put, List.setIfInBounds_toArray, List.set_cons_zero, List.set_cons_succ, List.getElem_toArray, List.getElem_cons_zero, List.getElem_cons_succ]
  refine wpAnyH_take (i := 4) (oi := _) (v := ?_) rfl (by kernel_rfl) (by kernel_rfl) (by kernel_rfl) (fun _ _ _ h => h) (Or.inl ⟨by rfl, ?_⟩) hHeld ?_
  rotate_left
  · intro w' hSw
    (try dsimp only at hSw)
    go_simp
    try with_reducible rfl
  try simp only [Act.put, List.setIfInBounds_toArray, List.set_cons_zero, List.set_cons_succ, List.getElem_toArray, List.getElem_cons_zero, List.getElem_cons_succ]
  refine wpAnyH_take (i := 5) (oi := _) (v := ?_) rfl (by kernel_rfl) (by kernel_rfl) (by kernel_rfl) (fun _ _ _ h => h) (Or.inl ⟨by rfl, ?_⟩) hHeld ?_
  rotate_left
  · intro w' hSw
    (try dsimp only at hSw)
    go_simp
    try with_reducible rfl
  try simp only [Act.put, List.setIfInBounds_toArray, List.set_cons_zero, List.set_cons_succ, List.getElem_toArray, List.getElem_cons_zero, List.getElem_cons_succ]
  refine wpAnyH_take (i := 6) (oi := _) (v := ?_) rfl (by kernel_rfl) (by kernel_rfl) (by kernel_rfl) (fun _ _ _ h => h) (Or.inl ⟨by rfl, ?_⟩) hHeld ?_
  rotate_left
  · intro w' hSw
    (try dsimp only at hSw)
    go_simp
    try with_reducible rfl
  try simp only [Act.put, List.setIfInBounds_toArray, List.set_cons_zero, List.set_cons_succ, List.getElem_toArray, List.getElem_cons_zero, List.getElem_cons_succ]
  refine wpAnyH_take (i := 7) (oi := _) (v := ?_) rfl (by kernel_rfl) (by kernel_rfl) (by kernel_rfl) (fun _ _ _ h => h) (Or.inl ⟨by rfl, ?_⟩) hHeld ?_
  rotate_left
  · intro w' hSw
    (try dsimp only at hSw)
    go_simp
    try with_reducible rfl
  try simp only [Act.put, List.setIfInBounds_toArray, List.set_cons_zero, List.set_cons_succ, List.getElem_toArray, List.getElem_cons_zero, List.getElem_cons_succ]
  refine wpAnyH_take (i := 8) (oi := _) (v := ?_) rfl (by kernel_rfl) (by kernel_rfl) (by kernel_rfl) (fun _ _ _ h => h) (Or.inl ⟨by rfl, ?_⟩) hHeld ?_
  rotate_left
  · intro w' hSw
    (try dsimp only at hSw)
    go_simp
    try with_reducible rfl
  try simp only [Act.put, List.setIfInBounds_toArray, List.set_cons_zero, List.set_cons_succ, List.getElem_toArray, List.getElem_cons_zero, List.getElem_cons_succ]
  refine wpAnyH_take (i := 9) (oi := _) (v := ?_) rfl (by kernel_rfl) (by kernel_rfl) (by kernel_rfl) (fun _ _ _ h => h) (Or.inl ⟨by rfl, ?_⟩) hHeld ?_
  rotate_left
  · intro w' hSw
    (try dsimp only at hSw)
    go_simp
    try with_reducible rfl
  try simp only [Act.put, List.setIfInBounds_toArray, List.set_cons_zero, List.set_cons_succ, List.getElem_toArray, List.getElem_cons_zero, List.getElem_cons_succ]
  refine wpAnyH_take (i := 10) (oi := _) (v := ?_) rfl (by kernel_rfl) (by kernel_rfl) (by kernel_rfl) (fun _ _ _ h => h) (Or.inl ⟨by rfl, ?_⟩) hHeld ?_
  rotate_left
  · intro w' hSw
    (try dsimp only at hSw)
    go_simp
    try with_reducible rfl
  try simp only [Act.put, List.setIfInBounds_toArray, List.set_cons_zero, List.set_cons_succ, List.getElem_toArray, List.getElem_cons_zero, List.getElem_cons_succ]
  refine wpAnyH_ready (rs := [11, 16]) (by kernel_rfl) (by simp) ?_
  refine AllReadyH.cons rfl (fun K hK => ?_) ?_
  · go_simp
    go_at_call 10
    refine (HKEPT.out _ _ (by (repeat (first | refine Sat.drew ?_ | refine Sat.drewN ?_ _)); exact S9)).mono ?_
    rintro e w10 ⟨A4, c4, rfl, S10⟩
    refine hK.out _ _ ?_ (fun hHeld => ?_)
    · exact HX.out _ _ S10 (by simp) (by simp) (by simp)
    clear hK K
    try simp only [Act.put, List.setIfInBounds_toArray, List.set_cons_zero, List.set_cons_succ, List.getElem_toArray, List.getElem_cons_zero, List.getElem_cons_succ]
    refine wpAnyH_take (i := 12) (oi := _) (v := ?_) rfl (by kernel_rfl) (by kernel_rfl) (by kernel_rfl) (fun _ _ _ h => h) (Or.inl ⟨by rfl, ?_⟩) hHeld ?_
    rotate_left
    · intro w' hSw
      (try dsimp only at hSw)
      go_simp
      try with_reducible rfl
    try simp only [Act.put, List.setIfInBounds_toArray, List.set_cons_zero, List.set_cons_succ, List.getElem_toArray, List.getElem_cons_zero, List.getElem_cons_succ]
    refine wpAnyH_take (i := 13) (oi := _) (v := ?_) rfl (by kernel_rfl) (by kernel_rfl) (by kernel_rfl) (fun _ _ _ h => h) (Or.inl ⟨by rfl, ?_⟩) hHeld ?_
    rotate_left
    · intro w' hSw
      (try dsimp only at hSw)
      go_simp
      try with_reducible rfl
    try simp only [Act.put, List.setIfInBounds_toArray, List.set_cons_zero, List.set_cons_succ, List.getElem_toArray, List.getElem_cons_zero, List.getElem_cons_succ]
    refine wpAnyH_take (i := 14) (oi := _) (v := ?_) rfl (by kernel_rfl) (by kernel_rfl) (by kernel_rfl) (fun _ _ _ h => h) (Or.inl ⟨by rfl, ?_⟩) hHeld ?_
    rotate_left
    · intro w' hSw
      (try dsimp only at hSw)
      go_simp
      try with_reducible rfl
    try simp only [Act.put, List.setIfInBounds_toArray, List.set_cons_zero, List.set_cons_succ, List.getElem_toArray, List.getElem_cons_zero, List.getElem_cons_succ]
    refine wpAnyH_take (i := 15) (oi := _) (v := ?_) rfl (by kernel_rfl) (by kernel_rfl) (by kernel_rfl) (fun _ _ _ h => h) (Or.inl ⟨by rfl, ?_⟩) hHeld ?_
    rotate_left
    · intro w' hSw
      (try dsimp only at hSw)
      go_simp
      try with_reducible rfl
    try simp only [Act.put, List.setIfInBounds_toArray, List.set_cons_zero, List.set_cons_succ, List.getElem_toArray, List.getElem_cons_zero, List.getElem_cons_succ]
    refine wpAnyH_ready (rs := [16]) (by kernel_rfl) (by simp) ?_
    refine AllReadyH.cons rfl (fun K hK => ?_) ?_
    · go_simp
      refine hK.out _ _ ?_ (fun hHeld => ?_)
      · exact HX.out _ _ (S10.box #[.int .i64 0, .int .i64 0, .slice none 0 0, .int .i64 0] 41 rfl) (by simp) (by simp) (by simp)
      clear hK K
      try simp only [Act.put, List.setIfInBounds_toArray, List.set_cons_zero, List.set_cons_succ, List.getElem_toArray, List.getElem_cons_zero, List.getElem_cons_succ]
      refine wpAnyH_ready (rs := [17]) (by kernel_rfl) (by simp) ?_
      refine AllReadyH.cons rfl (fun K hK => ?_) ?_
      · refine step_sstore rfl _ (.tmp 12) (.tmp 86) rfl (g := g) (S := (S10.box #[.int .i64 0, .int .i64 0, .slice none 0 0, .int .i64 0] 41 rfl)) _ rfl rfl (by kernel_rfl) rfl (by simp [Value.oneCell']) ?_
        intro S11
        refine hK.out _ _ ?_ (fun hHeld => ?_)
        · exact HX.out _ _ S11 (by simp) (by simp) (by simp)
        clear hK K
        try simp only [Act.put, List.setIfInBounds_toArray, List.set_cons_zero, List.set_cons_succ, List.getElem_toArray, List.getElem_cons_zero, List.getElem_cons_succ]
        refine wpAnyH_take (i := 18) (oi := _) (v := ?_) rfl (by kernel_rfl) (by kernel_rfl) (by kernel_rfl) (fun _ _ _ h => h) (Or.inl ⟨by rfl, ?_⟩) hHeld ?_
        rotate_left
        · intro w' hSw
          (try dsimp only at hSw)
          go_simp
          try with_reducible rfl
        try simp only [Act.put, List.setIfInBounds_toArray, List.set_cons_zero, List.set_cons_succ, List.getElem_toArray, List.getElem_cons_zero, List.getElem_cons_succ]
        refine wpAnyH_take (i := 19) (oi := _) (v := ?_) rfl (by kernel_rfl) (by kernel_rfl) (by kernel_rfl) (fun _ _ _ h => h) (Or.inl ⟨by rfl, ?_⟩) hHeld ?_
        rotate_left
        · intro w' hSw
          (try dsimp only at hSw)
          go_simp
          try with_reducible rfl
        try simp only [Act.put, List.setIfInBounds_toArray, List.set_cons_zero, List.set_cons_succ, List.getElem_toArray, List.getElem_cons_zero, List.getElem_cons_succ]
        refine wpAnyH_done (by kernel_rfl) ?_ _
        first | generalize w10.heap.size = kb at * | generalize w8.heap.size = kb at *
        obtain ⟨z0, z1, z2, z3⟩ := HX.out _ _ S11 (by simp) (by simp) (by simp)
        go_upto_region 9 with fail
        refine wp_region_held_drew (S := (fun w' => w'.cell? ⟨b, 1, none⟩ = some (.slice (some ad) ps.length c) ∧ w'.cell? (ad.add k) = some (ptr sb) ∧ w'.cell? ⟨cb, 1, none⟩ = some (.int .i64 ses) ∧ w'.cell? ⟨cb, 2, none⟩ = some (.int .i64 rq))) (by kernel_rfl) ?_ (fun hHeld => ?_)
        · exact HX.out _ _ S11.drew (by simp) (by simp) (by simp)
        refine wpAnyH_take (i := 0) (oi := _) (v := ?_) rfl (by kernel_rfl) (by kernel_rfl) (by kernel_rfl) (fun _ _ _ h => h) (Or.inl ⟨by rfl, ?_⟩) hHeld ?_
        rotate_left
        · intro w' hSw
          (try dsimp only at hSw)
          go_simp
          try with_reducible rfl
        try simp only [Act.put, List.setIfInBounds_toArray, List.set_cons_zero, List.set_cons_succ, List.getElem_toArray, List.getElem_cons_zero, List.getElem_cons_succ]
        refine wpAnyH_take (i := 1) (oi := _) (v := ?_) rfl (by kernel_rfl) (by kernel_rfl) (by kernel_rfl) (fun _ _ _ h => h) (Or.inl ⟨by rfl, ?_⟩) hHeld ?_
        rotate_left
        · intro w' hSw
          (try dsimp only at hSw)
          go_simp
          try with_reducible rfl
        try simp only [Act.put, List.setIfInBounds_toArray, List.set_cons_zero, List.set_cons_succ, List.getElem_toArray, List.getElem_cons_zero, List.getElem_cons_succ]
        refine wpAnyH_take (i := 2) (oi := _) (v := ?_) rfl (by kernel_rfl) (by kernel_rfl) (by kernel_rfl) (fun _ _ _ h => h) (Or.inl ⟨by rfl, ?_⟩) hHeld ?_
        rotate_left
        · intro w' hSw
          (try dsimp only at hSw)
          go_simp
          try with_reducible rfl
        try simp only [Act.put, List.setIfInBounds_toArray, List.set_cons_zero, List.set_cons_succ, List.getElem_toArray, List.getElem_cons_zero, List.getElem_cons_succ]
        refine wpAnyH_take (i := 3) (oi := _) (v := ?_) rfl (by kernel_rfl) (by kernel_rfl) (by kernel_rfl) (fun _ _ _ h => h) (Or.inl ⟨by rfl, ?_⟩) hHeld ?_
        rotate_left
        · intro w' hSw
          (try dsimp only at hSw)
          go_simp
          try with_reducible rfl
        try simp only [Act.put, List.setIfInBounds_toArray, List.set_cons_zero, List.set_cons_succ, List.getElem_toArray, List.getElem_cons_zero, List.getElem_cons_succ]
        refine wpAnyH_take (i := 4) (oi := _) (v := ?_) rfl (by kernel_rfl) (by kernel_rfl) (by kernel_rfl) (fun _ _ _ h => h) (Or.inl ⟨by rfl, ?_⟩) hHeld ?_
        rotate_left
        · intro w' hSw
          (try dsimp only at hSw)
          go_simp
          try with_reducible rfl
        try simp only [Act.put, List.setIfInBounds_toArray, List.set_cons_zero, List.set_cons_succ, List.getElem_toArray, List.getElem_cons_zero, List.getElem_cons_succ]
        refine wpAnyH_take (i := 5) (oi := _) (v := ?_) rfl (by kernel_rfl) (by kernel_rfl) (by kernel_rfl) (fun _ _ _ h => h) (Or.inl ⟨by rfl, ?_⟩) hHeld ?_
        rotate_left
        · intro w' hSw
          (try dsimp only at hSw)
          go_simp
          try with_reducible rfl
        try simp only [Act.put, List.setIfInBounds_toArray, List.set_cons_zero, List.set_cons_succ, List.getElem_toArray, List.getElem_cons_zero, List.getElem_cons_succ]
        refine wpAnyH_take (i := 6) (oi := _) (v := ?_) rfl (by kernel_rfl) (by kernel_rfl) (by kernel_rfl) (fun _ _ _ h => h) (Or.inl ⟨by rfl, ?_⟩) hHeld ?_
        rotate_left
        · intro w' hSw
          (try dsimp only at hSw)
          go_simp
          try with_reducible rfl
        try simp only [Act.put, List.setIfInBounds_toArray, List.set_cons_zero, List.set_cons_succ, List.getElem_toArray, List.getElem_cons_zero, List.getElem_cons_succ]
        refine wpAnyH_take (i := 7) (oi := _) (v := ?_) rfl (by kernel_rfl) (by kernel_rfl) (by kernel_rfl) (fun _ _ _ h => h) (Or.inl ⟨by rfl, ?_⟩) hHeld ?_
        rotate_left
        · intro w' hSw
          (try dsimp only at hSw)
          go_simp
          try with_reducible rfl
        try simp only [Act.put, List.setIfInBounds_toArray, List.set_cons_zero, List.set_cons_succ, List.getElem_toArray, List.getElem_cons_zero, List.getElem_cons_succ]
        refine wpAnyH_take (i := 8) (oi := _) (v := ?_) rfl (by kernel_rfl) (by kernel_rfl) (by kernel_rfl) (fun _ _ _ h => h) (Or.inl ⟨by rfl, ?_⟩) hHeld ?_
        rotate_left
        · intro w' hSw
          (try dsimp only at hSw)
          go_simp
          try with_reducible rfl
        try simp only [Act.put, List.setIfInBounds_toArray, List.set_cons_zero, List.set_cons_succ, List.getElem_toArray, List.getElem_cons_zero, List.getElem_cons_succ]
        refine wpAnyH_ready (rs := [9]) (by kernel_rfl) (by simp) ?_
        refine AllReadyH.cons rfl (fun K hK => ?_) ?_
        · go_simp
          go_at_call 31
          refine (HHAS.out _ _ (by (repeat (first | refine Sat.drew ?_ | refine Sat.drewN ?_ _)); exact (S11.bring 2))).mono ?_
          rintro e w12 ⟨rfl, S12⟩
          refine hK.out _ _ ?_ (fun hHeld => ?_)
          · exact HX.out _ _ S12 (by simp) (by simp) (by simp)
          clear hK K
          try simp only [Act.put, List.setIfInBounds_toArray, List.set_cons_zero, List.set_cons_succ, List.getElem_toArray, List.getElem_cons_zero, List.getElem_cons_succ]
          refine wpAnyH_take (i := 10) (oi := _) (v := ?_) rfl (by kernel_rfl) (by kernel_rfl) (by kernel_rfl) (fun _ _ _ h => h) (Or.inl ⟨by rfl, ?_⟩) hHeld ?_
          rotate_left
          · intro w' hSw
            (try dsimp only at hSw)
            go_simp
            try with_reducible rfl
          try simp only [Act.put, List.setIfInBounds_toArray, List.set_cons_zero, List.set_cons_succ, List.getElem_toArray, List.getElem_cons_zero, List.getElem_cons_succ]
          refine wpAnyH_done (by kernel_rfl) ?_ _
          clear z0 z1 z2 z3
          have S13 := HSHUT.out _ _ _ _ S12
          clear S9 S10 S11 S12
          have hsc := HSC.out _ _ _ _ S13
          have d0 := (S13.bring 3).cell 0 _ rfl
          have d1 := (S13.bring 3).cell 1 _ rfl
          have d2 := (S13.bring 3).cell 2 _ rfl
          have d3 := (S13.bring 3).cell 3 _ rfl
          have d4 := (S13.bring 3).cell 4 _ rfl
          have d5 := (S13.bring 3).cell 5 _ rfl
          have d6 := (S13.bring 3).cell 6 _ rfl
          have d7 := (S13.bring 3).cell 7 _ rfl
          have x0 := (S13.bring 6).cell 0 _ rfl
          have x1 := (S13.bring 6).cell 1 _ rfl
          have x2 := (S13.bring 6).cell 2 _ rfl
          have x3 := (S13.bring 6).cell 3 _ rfl
          have x4 := (S13.bring 6).cell 4 _ rfl
          have x5 := (S13.bring 6).cell 5 _ rfl
          have x6 := (S13.bring 6).cell 6 _ rfl
          have x7 := (S13.bring 6).cell 7 _ rfl
          by_cases hde : de = 0
          · subst hde
            cases HB
            · generalize hDC : decide (d = ⟨kd, ses, rq, nt, ops, pa, ki, oc⟩) = DB at *
              have HDC := hide hDC
              clear hDC
              go_wp2_with fail
              refine hsc.mono ?_
              rintro e w14 ⟨rfl, hk14⟩
              have S14 := S13.keep hk14
              clear S13 hsc d0 d1 d2 d3 d4 d5 d6 d7 x0 x1 x2 x3 x4 x5 x6 x7
              go_wp2_with fail
              cases DB
              · have hgd : GD = false := by rw [HGD.out, HIF.out]; simp
                subst hgd
                refine (j_bad S14 true).mono ?_
                rintro e w20 ⟨rfl, S20⟩
                clear S14
                go_wp2_with fail
                go_ret
                exact ⟨by simp, by simpa using (((((((S20.bring 1).drop.bring 1).drop.bring 1).drop.bring 1).drop.bring 1).drop.bring 1).drop)⟩
              · have hgd : GD = true := by rw [HGD.out, HIF.out]; simp
                subst hgd
                refine (j_bad S14 false).mono ?_
                rintro e w20 ⟨rfl, S20⟩
                clear S14
                go_wp2_with fail
                go_ret
                exact ⟨by simp, by simpa using (((((((S20.bring 1).drop.bring 1).drop.bring 1).drop.bring 1).drop.bring 1).drop.bring 1).drop)⟩
            · generalize hDC : decide (d = ⟨kd, ses, rq, nt, ops, pa, ki, oc⟩) = DB at *
              have HDC := hide hDC
              clear hDC
              go_wp2_with fail
              refine hsc.mono ?_
              rintro e w14 ⟨rfl, hk14⟩
              have S14 := S13.keep hk14
              have hsr := HSR.out _ _ _ _ S14
              clear S13 hsc d0 d1 d2 d3 d4 d5 d6 d7 x0 x1 x2 x3 x4 x5 x6 x7
              have q0 := (S14.bring 1).cell 0 _ rfl
              have q1 := (S14.bring 1).cell 1 _ rfl
              have q2 := (S14.bring 1).cell 2 _ rfl
              have q3 := (S14.bring 1).cell 3 _ rfl
              have y1 := (S14.bring 5).cell 1 _ rfl
              have y2 := (S14.bring 5).cell 2 _ rfl
              have y3 := (S14.bring 5).cell 3 _ rfl
              have y4 := (S14.bring 5).cell 4 _ rfl
              cases DB
              · clear hsr
                go_wp2_with fail
                have hgd : GD = false := by rw [HGD.out, HIF.out]; simp [HDC.out]
                subst hgd
                refine (j_bad S14 true).mono ?_
                rintro e w20 ⟨rfl, S20⟩
                clear S14 q0 q1 q2 q3 y1 y2 y3 y4
                go_wp2_with fail
                go_ret
                exact ⟨by simp, by simpa using (((((((S20.bring 1).drop.bring 1).drop.bring 1).drop.bring 1).drop.bring 1).drop.bring 1).drop)⟩
              · cases th
                · clear hsr
                  go_wp2_with fail
                  have hgd : GD = false := by rw [HGD.out, HIF.out]; simp
                  subst hgd
                  refine (j_bad S14 true).mono ?_
                  rintro e w20 ⟨rfl, S20⟩
                  clear S14 q0 q1 q2 q3 y1 y2 y3 y4
                  go_wp2_with fail
                  go_ret
                  exact ⟨by simp, by simpa using (((((((S20.bring 1).drop.bring 1).drop.bring 1).drop.bring 1).drop.bring 1).drop.bring 1).drop)⟩
                · by_cases hf : f = 0
                  · subst hf
                    generalize hDR : decide (r = ⟨e2, a2, outs, (k : Int)⟩) = DR at *
                    have HDR := hide hDR
                    clear hDR
                    go_wp2_with fail
                    refine hsr.mono ?_
                    rintro e w15 ⟨rfl, hk15⟩
                    have S15 := S14.keep hk15
                    clear S14 hsr q0 q1 q2 q3 y1 y2 y3 y4
                    go_wp2_with fail
                    cases DR
                    · have hgd : GD = false := by rw [HGD.out, HIF.out]; simp [HDR.out]
                      subst hgd
                      refine (j_bad S15 true).mono ?_
                      rintro e w20 ⟨rfl, S20⟩
                      clear S15
                      go_wp2_with fail
                      go_ret
                      exact ⟨by simp, by simpa using (((((((S20.bring 1).drop.bring 1).drop.bring 1).drop.bring 1).drop.bring 1).drop.bring 1).drop)⟩
                    · have hgd : GD = true := by rw [HGD.out, HIF.out]; simp [HDR.out]
                      subst hgd
                      refine (j_bad S15 false).mono ?_
                      rintro e w20 ⟨rfl, S20⟩
                      clear S15
                      go_wp2_with fail
                      go_ret
                      exact ⟨by simp, by simpa using (((((((S20.bring 1).drop.bring 1).drop.bring 1).drop.bring 1).drop.bring 1).drop.bring 1).drop)⟩
                  · have hf2 : (f != 0) = true := by simpa using hf
                    have HFF := hide hf
                    clear hsr hf
                    go_wp2_with fail
                    have hgd : GD = false := by rw [HGD.out, HIF.out]; simp [HFF.out]
                    subst hgd
                    refine (j_bad S14 true).mono ?_
                    rintro e w20 ⟨rfl, S20⟩
                    clear S14 q0 q1 q2 q3 y1 y2 y3 y4
                    go_wp2_with fail
                    go_ret
                    exact ⟨by simp, by simpa using (((((((S20.bring 1).drop.bring 1).drop.bring 1).drop.bring 1).drop.bring 1).drop.bring 1).drop)⟩
          · have hde2 : (de != 0) = true := by simpa using hde
            have HDE := hide hde
            clear hsc
            cases HB
            · go_wp2_with fail
              have hgd : GD = false := by rw [HGD.out, HIF.out]; simp [HDE.out]
              subst hgd
              refine (j_bad S13 true).mono ?_
              rintro e w20 ⟨rfl, S20⟩
              clear S13 d0 d1 d2 d3 d4 d5 d6 d7 x0 x1 x2 x3 x4 x5 x6 x7
              go_wp2_with fail
              go_ret
              exact ⟨by simp, by simpa using (((((((S20.bring 1).drop.bring 1).drop.bring 1).drop.bring 1).drop.bring 1).drop.bring 1).drop)⟩
            · go_wp2_with fail
              have hgd : GD = false := by rw [HGD.out, HIF.out]; simp [HDE.out]
              subst hgd
              refine (j_bad S13 true).mono ?_
              rintro e w20 ⟨rfl, S20⟩
              clear S13 d0 d1 d2 d3 d4 d5 d6 d7 x0 x1 x2 x3 x4 x5 x6 x7
              go_wp2_with fail
              go_ret
              exact ⟨by simp, by simpa using (((((((S20.bring 1).drop.bring 1).drop.bring 1).drop.bring 1).drop.bring 1).drop.bring 1).drop)⟩
        exact AllReadyH.nil
      exact AllReadyH.nil
    exact AllReadyH.nil
  refine AllReadyH.cons rfl (fun K hK => ?_) ?_
  · go_simp
    refine hK.out _ _ ?_ (fun hHeld => ?_)
    · exact HX.out _ _ (S9.box #[.int .i64 0, .int .i64 0, .slice none 0 0, .int .i64 0] 41 rfl).drew (by simp) (by simp) (by simp)
    clear hK K
    try simp only [Act.put, List.setIfInBounds_toArray, List.set_cons_zero, List.set_cons_succ, List.getElem_toArray, List.getElem_cons_zero, List.getElem_cons_succ]
    refine wpAnyH_ready (rs := [11]) (by kernel_rfl) (by simp) ?_
    refine AllReadyH.cons rfl (fun K hK => ?_) ?_
    · go_simp
      go_at_call 10
      refine (HKEPT.out _ _ (by (repeat (first | refine Sat.drew ?_ | refine Sat.drewN ?_ _)); exact ((S9.box #[.int .i64 0, .int .i64 0, .slice none 0 0, .int .i64 0] 41 rfl).bring 1))).mono ?_
      rintro e w10b ⟨A4, c4, rfl, S10⟩
      refine hK.out _ _ ?_ (fun hHeld => ?_)
      · exact HX.out _ _ S10 (by simp) (by simp) (by simp)
      clear hK K
      try simp only [Act.put, List.setIfInBounds_toArray, List.set_cons_zero, List.set_cons_succ, List.getElem_toArray, List.getElem_cons_zero, List.getElem_cons_succ]
      refine wpAnyH_take (i := 12) (oi := _) (v := ?_) rfl (by kernel_rfl) (by kernel_rfl) (by kernel_rfl) (fun _ _ _ h => h) (Or.inl ⟨by rfl, ?_⟩) hHeld ?_
      rotate_left
      · intro w' hSw
        (try dsimp only at hSw)
        go_simp
        try with_reducible rfl
      try simp only [Act.put, List.setIfInBounds_toArray, List.set_cons_zero, List.set_cons_succ, List.getElem_toArray, List.getElem_cons_zero, List.getElem_cons_succ]
      refine wpAnyH_take (i := 13) (oi := _) (v := ?_) rfl (by kernel_rfl) (by kernel_rfl) (by kernel_rfl) (fun _ _ _ h => h) (Or.inl ⟨by rfl, ?_⟩) hHeld ?_
      rotate_left
      · intro w' hSw
        (try dsimp only at hSw)
        go_simp
        try with_reducible rfl
      try simp only [Act.put, List.setIfInBounds_toArray, List.set_cons_zero, List.set_cons_succ, List.getElem_toArray, List.getElem_cons_zero, List.getElem_cons_succ]
      refine wpAnyH_take (i := 14) (oi := _) (v := ?_) rfl (by kernel_rfl) (by kernel_rfl) (by kernel_rfl) (fun _ _ _ h => h) (Or.inl ⟨by rfl, ?_⟩) hHeld ?_
      rotate_left
      · intro w' hSw
        (try dsimp only at hSw)
        go_simp
        try with_reducible rfl
      try simp only [Act.put, List.setIfInBounds_toArray, List.set_cons_zero, List.set_cons_succ, List.getElem_toArray, List.getElem_cons_zero, List.getElem_cons_succ]
      refine wpAnyH_take (i := 15) (oi := _) (v := ?_) rfl (by kernel_rfl) (by kernel_rfl) (by kernel_rfl) (fun _ _ _ h => h) (Or.inl ⟨by rfl, ?_⟩) hHeld ?_
      rotate_left
      · intro w' hSw
        (try dsimp only at hSw)
        go_simp
        try with_reducible rfl
      try simp only [Act.put, List.setIfInBounds_toArray, List.set_cons_zero, List.set_cons_succ, List.getElem_toArray, List.getElem_cons_zero, List.getElem_cons_succ]
      refine wpAnyH_ready (rs := [17]) (by kernel_rfl) (by simp) ?_
      refine AllReadyH.cons rfl (fun K hK => ?_) ?_
      · refine step_sstore rfl _ (.tmp 12) (.tmp 86) rfl (g := g) (S := (S10.bring 2)) _ rfl rfl (by kernel_rfl) rfl (by simp [Value.oneCell']) ?_
        intro S11
        refine hK.out _ _ ?_ (fun hHeld => ?_)
        · exact HX.out _ _ S11 (by simp) (by simp) (by simp)
        clear hK K
        try simp only [Act.put, List.setIfInBounds_toArray, List.set_cons_zero, List.set_cons_succ, List.getElem_toArray, List.getElem_cons_zero, List.getElem_cons_succ]
        refine wpAnyH_take (i := 18) (oi := _) (v := ?_) rfl (by kernel_rfl) (by kernel_rfl) (by kernel_rfl) (fun _ _ _ h => h) (Or.inl ⟨by rfl, ?_⟩) hHeld ?_
        rotate_left
        · intro w' hSw
          (try dsimp only at hSw)
          go_simp
          try with_reducible rfl
        try simp only [Act.put, List.setIfInBounds_toArray, List.set_cons_zero, List.set_cons_succ, List.getElem_toArray, List.getElem_cons_zero, List.getElem_cons_succ]
        refine wpAnyH_take (i := 19) (oi := _) (v := ?_) rfl (by kernel_rfl) (by kernel_rfl) (by kernel_rfl) (fun _ _ _ h => h) (Or.inl ⟨by rfl, ?_⟩) hHeld ?_
        rotate_left
        · intro w' hSw
          (try dsimp only at hSw)
          go_simp
          try with_reducible rfl
        try simp only [Act.put, List.setIfInBounds_toArray, List.set_cons_zero, List.set_cons_succ, List.getElem_toArray, List.getElem_cons_zero, List.getElem_cons_succ]
        refine wpAnyH_done (by kernel_rfl) ?_ _
        first | generalize w10.heap.size = kb at * | generalize w8.heap.size = kb at *
        obtain ⟨z0, z1, z2, z3⟩ := HX.out _ _ S11 (by simp) (by simp) (by simp)
        go_upto_region 9 with fail
        refine wp_region_held_drew (S := (fun w' => w'.cell? ⟨b, 1, none⟩ = some (.slice (some ad) ps.length c) ∧ w'.cell? (ad.add k) = some (ptr sb) ∧ w'.cell? ⟨cb, 1, none⟩ = some (.int .i64 ses) ∧ w'.cell? ⟨cb, 2, none⟩ = some (.int .i64 rq))) (by kernel_rfl) ?_ (fun hHeld => ?_)
        · exact HX.out _ _ S11.drew (by simp) (by simp) (by simp)
        refine wpAnyH_take (i := 0) (oi := _) (v := ?_) rfl (by kernel_rfl) (by kernel_rfl) (by kernel_rfl) (fun _ _ _ h => h) (Or.inl ⟨by rfl, ?_⟩) hHeld ?_
        rotate_left
        · intro w' hSw
          (try dsimp only at hSw)
          go_simp
          try with_reducible rfl
        try simp only [Act.put, List.setIfInBounds_toArray, List.set_cons_zero, List.set_cons_succ, List.getElem_toArray, List.getElem_cons_zero, List.getElem_cons_succ]
        refine wpAnyH_take (i := 1) (oi := _) (v := ?_) rfl (by kernel_rfl) (by kernel_rfl) (by kernel_rfl) (fun _ _ _ h => h) (Or.inl ⟨by rfl, ?_⟩) hHeld ?_
        rotate_left
        · intro w' hSw
          (try dsimp only at hSw)
          go_simp
          try with_reducible rfl
        try simp only [Act.put, List.setIfInBounds_toArray, List.set_cons_zero, List.set_cons_succ, List.getElem_toArray, List.getElem_cons_zero, List.getElem_cons_succ]
        refine wpAnyH_take (i := 2) (oi := _) (v := ?_) rfl (by kernel_rfl) (by kernel_rfl) (by kernel_rfl) (fun _ _ _ h => h) (Or.inl ⟨by rfl, ?_⟩) hHeld ?_
        rotate_left
        · intro w' hSw
          (try dsimp only at hSw)
          go_simp
          try with_reducible rfl
        try simp only [Act.put, List.setIfInBounds_toArray, List.set_cons_zero, List.set_cons_succ, List.getElem_toArray, List.getElem_cons_zero, List.getElem_cons_succ]
        refine wpAnyH_take (i := 3) (oi := _) (v := ?_) rfl (by kernel_rfl) (by kernel_rfl) (by kernel_rfl) (fun _ _ _ h => h) (Or.inl ⟨by rfl, ?_⟩) hHeld ?_
        rotate_left
        · intro w' hSw
          (try dsimp only at hSw)
          go_simp
          try with_reducible rfl
        try simp only [Act.put, List.setIfInBounds_toArray, List.set_cons_zero, List.set_cons_succ, List.getElem_toArray, List.getElem_cons_zero, List.getElem_cons_succ]
        refine wpAnyH_take (i := 4) (oi := _) (v := ?_) rfl (by kernel_rfl) (by kernel_rfl) (by kernel_rfl) (fun _ _ _ h => h) (Or.inl ⟨by rfl, ?_⟩) hHeld ?_
        rotate_left
        · intro w' hSw
          (try dsimp only at hSw)
          go_simp
          try with_reducible rfl
        try simp only [Act.put, List.setIfInBounds_toArray, List.set_cons_zero, List.set_cons_succ, List.getElem_toArray, List.getElem_cons_zero, List.getElem_cons_succ]
        refine wpAnyH_take (i := 5) (oi := _) (v := ?_) rfl (by kernel_rfl) (by kernel_rfl) (by kernel_rfl) (fun _ _ _ h => h) (Or.inl ⟨by rfl, ?_⟩) hHeld ?_
        rotate_left
        · intro w' hSw
          (try dsimp only at hSw)
          go_simp
          try with_reducible rfl
        try simp only [Act.put, List.setIfInBounds_toArray, List.set_cons_zero, List.set_cons_succ, List.getElem_toArray, List.getElem_cons_zero, List.getElem_cons_succ]
        refine wpAnyH_take (i := 6) (oi := _) (v := ?_) rfl (by kernel_rfl) (by kernel_rfl) (by kernel_rfl) (fun _ _ _ h => h) (Or.inl ⟨by rfl, ?_⟩) hHeld ?_
        rotate_left
        · intro w' hSw
          (try dsimp only at hSw)
          go_simp
          try with_reducible rfl
        try simp only [Act.put, List.setIfInBounds_toArray, List.set_cons_zero, List.set_cons_succ, List.getElem_toArray, List.getElem_cons_zero, List.getElem_cons_succ]
        refine wpAnyH_take (i := 7) (oi := _) (v := ?_) rfl (by kernel_rfl) (by kernel_rfl) (by kernel_rfl) (fun _ _ _ h => h) (Or.inl ⟨by rfl, ?_⟩) hHeld ?_
        rotate_left
        · intro w' hSw
          (try dsimp only at hSw)
          go_simp
          try with_reducible rfl
        try simp only [Act.put, List.setIfInBounds_toArray, List.set_cons_zero, List.set_cons_succ, List.getElem_toArray, List.getElem_cons_zero, List.getElem_cons_succ]
        refine wpAnyH_take (i := 8) (oi := _) (v := ?_) rfl (by kernel_rfl) (by kernel_rfl) (by kernel_rfl) (fun _ _ _ h => h) (Or.inl ⟨by rfl, ?_⟩) hHeld ?_
        rotate_left
        · intro w' hSw
          (try dsimp only at hSw)
          go_simp
          try with_reducible rfl
        try simp only [Act.put, List.setIfInBounds_toArray, List.set_cons_zero, List.set_cons_succ, List.getElem_toArray, List.getElem_cons_zero, List.getElem_cons_succ]
        refine wpAnyH_ready (rs := [9]) (by kernel_rfl) (by simp) ?_
        refine AllReadyH.cons rfl (fun K hK => ?_) ?_
        · go_simp
          go_at_call 31
          refine (HHAS.out _ _ (by (repeat (first | refine Sat.drew ?_ | refine Sat.drewN ?_ _)); exact (S11.bring 2))).mono ?_
          rintro e w12 ⟨rfl, S12⟩
          refine hK.out _ _ ?_ (fun hHeld => ?_)
          · exact HX.out _ _ S12 (by simp) (by simp) (by simp)
          clear hK K
          try simp only [Act.put, List.setIfInBounds_toArray, List.set_cons_zero, List.set_cons_succ, List.getElem_toArray, List.getElem_cons_zero, List.getElem_cons_succ]
          refine wpAnyH_take (i := 10) (oi := _) (v := ?_) rfl (by kernel_rfl) (by kernel_rfl) (by kernel_rfl) (fun _ _ _ h => h) (Or.inl ⟨by rfl, ?_⟩) hHeld ?_
          rotate_left
          · intro w' hSw
            (try dsimp only at hSw)
            go_simp
            try with_reducible rfl
          try simp only [Act.put, List.setIfInBounds_toArray, List.set_cons_zero, List.set_cons_succ, List.getElem_toArray, List.getElem_cons_zero, List.getElem_cons_succ]
          refine wpAnyH_done (by kernel_rfl) ?_ _
          clear z0 z1 z2 z3
          have S13 := HSHUT.out _ _ _ _ S12
          clear S9 S10 S11 S12
          have hsc := HSC.out _ _ _ _ S13
          have d0 := (S13.bring 3).cell 0 _ rfl
          have d1 := (S13.bring 3).cell 1 _ rfl
          have d2 := (S13.bring 3).cell 2 _ rfl
          have d3 := (S13.bring 3).cell 3 _ rfl
          have d4 := (S13.bring 3).cell 4 _ rfl
          have d5 := (S13.bring 3).cell 5 _ rfl
          have d6 := (S13.bring 3).cell 6 _ rfl
          have d7 := (S13.bring 3).cell 7 _ rfl
          have x0 := (S13.bring 6).cell 0 _ rfl
          have x1 := (S13.bring 6).cell 1 _ rfl
          have x2 := (S13.bring 6).cell 2 _ rfl
          have x3 := (S13.bring 6).cell 3 _ rfl
          have x4 := (S13.bring 6).cell 4 _ rfl
          have x5 := (S13.bring 6).cell 5 _ rfl
          have x6 := (S13.bring 6).cell 6 _ rfl
          have x7 := (S13.bring 6).cell 7 _ rfl
          by_cases hde : de = 0
          · subst hde
            cases HB
            · generalize hDC : decide (d = ⟨kd, ses, rq, nt, ops, pa, ki, oc⟩) = DB at *
              have HDC := hide hDC
              clear hDC
              go_wp2_with fail
              refine hsc.mono ?_
              rintro e w14 ⟨rfl, hk14⟩
              have S14 := S13.keep hk14
              clear S13 hsc d0 d1 d2 d3 d4 d5 d6 d7 x0 x1 x2 x3 x4 x5 x6 x7
              go_wp2_with fail
              cases DB
              · have hgd : GD = false := by rw [HGD.out, HIF.out]; simp
                subst hgd
                refine (j_bad S14 true).mono ?_
                rintro e w20 ⟨rfl, S20⟩
                clear S14
                go_wp2_with fail
                go_ret
                exact ⟨by simp, by simpa using (((((((S20.bring 1).drop.bring 1).drop.bring 1).drop.bring 1).drop.bring 1).drop.bring 1).drop)⟩
              · have hgd : GD = true := by rw [HGD.out, HIF.out]; simp
                subst hgd
                refine (j_bad S14 false).mono ?_
                rintro e w20 ⟨rfl, S20⟩
                clear S14
                go_wp2_with fail
                go_ret
                exact ⟨by simp, by simpa using (((((((S20.bring 1).drop.bring 1).drop.bring 1).drop.bring 1).drop.bring 1).drop.bring 1).drop)⟩
            · generalize hDC : decide (d = ⟨kd, ses, rq, nt, ops, pa, ki, oc⟩) = DB at *
              have HDC := hide hDC
              clear hDC
              go_wp2_with fail
              refine hsc.mono ?_
              rintro e w14 ⟨rfl, hk14⟩
              have S14 := S13.keep hk14
              have hsr := HSR.out _ _ _ _ S14
              clear S13 hsc d0 d1 d2 d3 d4 d5 d6 d7 x0 x1 x2 x3 x4 x5 x6 x7
              have q0 := (S14.bring 1).cell 0 _ rfl
              have q1 := (S14.bring 1).cell 1 _ rfl
              have q2 := (S14.bring 1).cell 2 _ rfl
              have q3 := (S14.bring 1).cell 3 _ rfl
              have y1 := (S14.bring 5).cell 1 _ rfl
              have y2 := (S14.bring 5).cell 2 _ rfl
              have y3 := (S14.bring 5).cell 3 _ rfl
              have y4 := (S14.bring 5).cell 4 _ rfl
              cases DB
              · clear hsr
                go_wp2_with fail
                have hgd : GD = false := by rw [HGD.out, HIF.out]; simp [HDC.out]
                subst hgd
                refine (j_bad S14 true).mono ?_
                rintro e w20 ⟨rfl, S20⟩
                clear S14 q0 q1 q2 q3 y1 y2 y3 y4
                go_wp2_with fail
                go_ret
                exact ⟨by simp, by simpa using (((((((S20.bring 1).drop.bring 1).drop.bring 1).drop.bring 1).drop.bring 1).drop.bring 1).drop)⟩
              · cases th
                · clear hsr
                  go_wp2_with fail
                  have hgd : GD = false := by rw [HGD.out, HIF.out]; simp
                  subst hgd
                  refine (j_bad S14 true).mono ?_
                  rintro e w20 ⟨rfl, S20⟩
                  clear S14 q0 q1 q2 q3 y1 y2 y3 y4
                  go_wp2_with fail
                  go_ret
                  exact ⟨by simp, by simpa using (((((((S20.bring 1).drop.bring 1).drop.bring 1).drop.bring 1).drop.bring 1).drop.bring 1).drop)⟩
                · by_cases hf : f = 0
                  · subst hf
                    generalize hDR : decide (r = ⟨e2, a2, outs, (k : Int)⟩) = DR at *
                    have HDR := hide hDR
                    clear hDR
                    go_wp2_with fail
                    refine hsr.mono ?_
                    rintro e w15 ⟨rfl, hk15⟩
                    have S15 := S14.keep hk15
                    clear S14 hsr q0 q1 q2 q3 y1 y2 y3 y4
                    go_wp2_with fail
                    cases DR
                    · have hgd : GD = false := by rw [HGD.out, HIF.out]; simp [HDR.out]
                      subst hgd
                      refine (j_bad S15 true).mono ?_
                      rintro e w20 ⟨rfl, S20⟩
                      clear S15
                      go_wp2_with fail
                      go_ret
                      exact ⟨by simp, by simpa using (((((((S20.bring 1).drop.bring 1).drop.bring 1).drop.bring 1).drop.bring 1).drop.bring 1).drop)⟩
                    · have hgd : GD = true := by rw [HGD.out, HIF.out]; simp [HDR.out]
                      subst hgd
                      refine (j_bad S15 false).mono ?_
                      rintro e w20 ⟨rfl, S20⟩
                      clear S15
                      go_wp2_with fail
                      go_ret
                      exact ⟨by simp, by simpa using (((((((S20.bring 1).drop.bring 1).drop.bring 1).drop.bring 1).drop.bring 1).drop.bring 1).drop)⟩
                  · have hf2 : (f != 0) = true := by simpa using hf
                    have HFF := hide hf
                    clear hsr hf
                    go_wp2_with fail
                    have hgd : GD = false := by rw [HGD.out, HIF.out]; simp [HFF.out]
                    subst hgd
                    refine (j_bad S14 true).mono ?_
                    rintro e w20 ⟨rfl, S20⟩
                    clear S14 q0 q1 q2 q3 y1 y2 y3 y4
                    go_wp2_with fail
                    go_ret
                    exact ⟨by simp, by simpa using (((((((S20.bring 1).drop.bring 1).drop.bring 1).drop.bring 1).drop.bring 1).drop.bring 1).drop)⟩
          · have hde2 : (de != 0) = true := by simpa using hde
            have HDE := hide hde
            clear hsc
            cases HB
            · go_wp2_with fail
              have hgd : GD = false := by rw [HGD.out, HIF.out]; simp [HDE.out]
              subst hgd
              refine (j_bad S13 true).mono ?_
              rintro e w20 ⟨rfl, S20⟩
              clear S13 d0 d1 d2 d3 d4 d5 d6 d7 x0 x1 x2 x3 x4 x5 x6 x7
              go_wp2_with fail
              go_ret
              exact ⟨by simp, by simpa using (((((((S20.bring 1).drop.bring 1).drop.bring 1).drop.bring 1).drop.bring 1).drop.bring 1).drop)⟩
            · go_wp2_with fail
              have hgd : GD = false := by rw [HGD.out, HIF.out]; simp [HDE.out]
              subst hgd
              refine (j_bad S13 true).mono ?_
              rintro e w20 ⟨rfl, S20⟩
              clear S13 d0 d1 d2 d3 d4 d5 d6 d7 x0 x1 x2 x3 x4 x5 x6 x7
              go_wp2_with fail
              go_ret
              exact ⟨by simp, by simpa using (((((((S20.bring 1).drop.bring 1).drop.bring 1).drop.bring 1).drop.bring 1).drop.bring 1).drop)⟩
        exact AllReadyH.nil
      exact AllReadyH.nil
    exact AllReadyH.nil
  exact AllReadyH.nil

end Go.Proofs.YtanlobdidjednaaGreatDoor
