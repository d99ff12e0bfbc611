/- A command, walked. No condition. -/
import Derived.Test.YthgiamofndhehaaGreatDoorStDo
import Derived.Test.YthgiamofndhehaaGreatDoorStEnd
import Derived.Deep.RegionHeld3
set_option linter.unusedVariables false
set_option linter.unusedSimpArgs false
namespace Go.Proofs.YthgiamofndhehaaGreatDoor
open Go.RowKit

theorem seen_len {m : Tab} (h : ∀ p ∈ m, p.2.2.length ≤ 400) (id rq : Int) : (seenF m id rq).1.length ≤ 400 := by
  unfold seenF
  cases hm : mget m id with
  | none => simp
  | some v =>
    have := h _ (mget_mem hm)
    simp only at this ⊢
    repeat' split
    all_goals first | exact this | simp
theorem resB_len (r : ResT) : (resB r).length ≤ 24 + 65543 * r.outs.length := by
  have := outsB_le r.outs
  unfold resB
  rw [List.length_append, nums_length]
  simp only [List.length_cons, List.length_nil]
  omega

set_option maxRecDepth 100000 in
set_option maxHeartbeats 16000000 in
theorem cmd_state {g w : World} {L : List Asn} {b : Nat} {s : StT} {M : TreeT} {n : Nat} {cm : CmdT} {A0 : Option Addr} {c0 : Nat} (S0 : Sat g w (stateA b s :: rowA 103 6 (.slice A0 cm.ops.length c0) cm.ops.length (cm.ops.flatMap opC) :: L)) (hG : GL g) (hm : oldA g ∈ L)
    (hi : InvS s M n) (hn0 : n ≤ 90 ∨ (n ≤ 900 ∧ TabE g)) (hc : cmdR cm = true) (when_ : Int) (hw : 0 ≤ when_ ∧ when_ ≤ 1000) :
    Calls Tryz.prog 58 #[ptr b, cmdV cm A0 c0, .int .i64 when_] w fun e w' => ∃ A c, e = .returned (resV (cmdF s cm when_).1 A c) ∧ Sat g w' (rowA 129 2 (.slice A (cmdF s cm when_).1.outs.length c) (cmdF s cm when_).1.outs.length ((cmdF s cm when_).1.outs.flatMap outC) :: stateA b (cmdF s cm when_).2 :: rowA 103 6 (.slice A0 cm.ops.length c0) cm.ops.length (cm.ops.flatMap opC) :: L) := by
  have HR : Hid (∀ r s2, cmdF s cm when_ = (r, s2) → ∀ w' A c, Sat g w' (rowA 129 2 (.slice A r.outs.length c) r.outs.length (r.outs.flatMap outC) :: stateA b s2 :: rowA 103 6 (.slice A0 cm.ops.length c0) cm.ops.length (cm.ops.flatMap opC) :: L) → ∃ A' c', Ending.returned (resV r A c) = .returned (resV (cmdF s cm when_).1 A' c') ∧ Sat g w' (rowA 129 2 (.slice A' (cmdF s cm when_).1.outs.length c') (cmdF s cm when_).1.outs.length ((cmdF s cm when_).1.outs.flatMap outC) :: stateA b (cmdF s cm when_).2 :: rowA 103 6 (.slice A0 cm.ops.length c0) cm.ops.length (cm.ops.flatMap opC) :: L)) := hide fun r s2 e w' A c S' => by rw [e]; exact ⟨A, c, rfl, S'⟩
  have HG0 := hide hG
  have hn : n ≤ 900 := by rcases hn0 with h | h <;> omega
  have HN0 := hide hn0
  clear hn0
  have HI := hide hi
  have HC := hide hc
  obtain ⟨k0, k5, hss, hrq, h4, hok, hpa⟩ := cmdR_at hc
  obtain ⟨kd, ss, rq, nt, ops, pa, ki, oc⟩ := cm
  simp only at S0 k0 k5 hss hrq h4 hok hpa HC HR
  have S2 := (S0.box #[.int .i64 kd, .int .i64 ss, .int .i64 rq, .int .i64 nt, .slice A0 ops.length c0, .string (S pa), .bool ki, .bool oc] 61 rfl).box #[.int .i64 0, .int .i64 0, .slice none 0 0, .int .i64 0] 52 (b := w.heap.size + 1) (by simp)
  go_enter Tryz.func58, Tryz.ntmps58
  go_upto_region 1 with fail
  generalize (w.alloc (.cells #[.int .i64 kd, .int .i64 ss, .int .i64 rq, .int .i64 nt, .slice A0 ops.length c0, .string (S pa), .bool ki, .bool oc] 61)).alloc (.cells #[.int .i64 0, .int .i64 0, .slice none 0 0, .int .i64 0] 52) = w1 at *
  generalize w.heap.size + 1 = zb at *
  generalize w.heap.size = cb at *
  by_cases h0 : kd = 0
  · subst h0
    have HE : Hid (cmdF s ⟨0, ss, rq, nt, ops, pa, ki, oc⟩ when_ = (⟨0, 0, [], when_⟩, s)) := hide (by unfold cmdF; rw [if_pos rfl])
    have x0 := S2.p1.cell 0 _ rfl
    go_wp2_with ((show Go.wpList _ _ _ (Oper.mk none (Op.store _ _ _) _ _ _ _ :: _) _ _); refine wpList_sstore rfl _ (.tmp 6) (.tmp 18) rfl S2 _ rfl rfl (by kernel_rfl) rfl (by simp [Value.oneCell']) ?_; intro S3)
    refine bodyPost_ret (results_cell_row Tryz.results58 _ _ zb _ _ _ _ rfl S3.cells_get Tryz.underlying52 rfl (by kernel_rfl)) rfl ?_
    exact HR.out _ _ HE.out _ none 0 ((S3.drop.drop).nilRow _ _)
  by_cases h1 : kd = 1
  · subst h1
    obtain ⟨t, ts, bk, S3'⟩ := ((S2.bring 2)).stateOpen
    have S3 : Sat g w1 (cellsA zb 52 #[.int .i64 0, .int .i64 0, .slice none 0 0, .int .i64 0] :: cellsA cb 61 #[.int .i64 1, .int .i64 ss, .int .i64 rq, .int .i64 nt, .slice A0 ops.length c0, .string (S pa), .bool ki, .bool oc] :: cellsA b 47 #[ptr t, ptr ts, ptr bk, .int .i64 s.at_] :: treeA t s.tree :: tblA ts s.tab :: bookA bk s.book :: rowA 103 6 (.slice A0 ops.length c0) ops.length (ops.flatMap opC) :: L) := ((S3'.bring 5).bring 5)
    have HOP : Hid (∀ (w' : World) (L' : List Asn), Sat g w' (tblA ts s.tab :: L') → Calls Tryz.prog 89 #[ptr ts, .int .i64 ss] w' fun e w2 => e = .returned (.int .i64 (openF s.tab ss).1) ∧ Sat g w2 (tblA ts (openF s.tab ss).2 :: L')) := hide fun w' L' S' => tbl_open S' ss
    have HE : Hid (cmdF s ⟨1, ss, rq, nt, ops, pa, ki, oc⟩ when_ = (⟨(openF s.tab ss).1, 0, [], when_⟩, ⟨s.tree, (openF s.tab ss).2, s.book, s.at_⟩)) := hide (by unfold cmdF; rw [if_neg h0, if_pos rfl])
    generalize openF s.tab ss = AD at *
    obtain ⟨a1, a2⟩ := AD
    simp only at HOP HE
    have HX : Hid (∀ (w' : World) (L' : List Asn), Sat g w' L' → cellsA b 47 #[ptr t, ptr ts, ptr bk, .int .i64 s.at_] ∈ L' → cellsA cb 61 #[.int .i64 1, .int .i64 ss, .int .i64 rq, .int .i64 nt, .slice A0 ops.length c0, .string (S pa), .bool ki, .bool oc] ∈ L' → w'.cell? ⟨b, 1, none⟩ = some (ptr ts) ∧ w'.cell? ⟨cb, 1, none⟩ = some (.int .i64 ss)) := hide fun w' L' S' h0 h1 => ⟨S'.cell_of h0 1 _ rfl, S'.cell_of h1 1 _ rfl⟩
    have x0 := S3.p1.cell 0 _ rfl
    clear S2 S3'
    go_upto_region 5 with fail
    refine wp_region_held_drew (S := (fun w' => w'.cell? ⟨b, 1, none⟩ = some (ptr ts) ∧ w'.cell? ⟨cb, 1, none⟩ = some (.int .i64 ss))) (by kernel_rfl) ?_ (fun hHeld => ?_)
    · exact HX.out _ _ S3.drew (by simp) (by simp)
    refine wpAnyH_take (i := 0) (oi := _) (v := ?_) rfl (by kernel_rfl) (by kernel_rfl) (by kernel_rfl) (fun _ _ _ h => h) (Or.inl ⟨by rfl, ?_⟩) hHeld ?_
    rotate_left
    · intro w' hSw
      (try dsimp only at hSw)
      go_simp
      try with_reducible rfl
    try simp only [Act.put, List.setIfInBounds_toArray, List.set_cons_zero, List.set_cons_succ, List.getElem_toArray, List.getElem_cons_zero, List.getElem_cons_succ]
    refine wpAnyH_take (i := 1) (oi := _) (v := ?_) rfl (by kernel_rfl) (by kernel_rfl) (by kernel_rfl) (fun _ _ _ h => h) (Or.inl ⟨by rfl, ?_⟩) hHeld ?_
    rotate_left
    · intro w' hSw
      (try dsimp only at hSw)
      go_simp
      try with_reducible rfl
    try simp only [Act.put, List.setIfInBounds_toArray, List.set_cons_zero, List.set_cons_succ, List.getElem_toArray, List.getElem_cons_zero, List.getElem_cons_succ]
    refine wpAnyH_take (i := 2) (oi := _) (v := ?_) rfl (by kernel_rfl) (by kernel_rfl) (by kernel_rfl) (fun _ _ _ h => h) (Or.inl ⟨by rfl, ?_⟩) hHeld ?_
    rotate_left
    · intro w' hSw
      (try dsimp only at hSw)
      go_simp
      try with_reducible rfl
    try simp only [Act.put, List.setIfInBounds_toArray, List.set_cons_zero, List.set_cons_succ, List.getElem_toArray, List.getElem_cons_zero, List.getElem_cons_succ]
    refine wpAnyH_take (i := 3) (oi := _) (v := ?_) rfl (by kernel_rfl) (by kernel_rfl) (by kernel_rfl) (fun _ _ _ h => h) (Or.inl ⟨by rfl, ?_⟩) hHeld ?_
    rotate_left
    · intro w' hSw
      (try dsimp only at hSw)
      go_simp
      try with_reducible rfl
    try simp only [Act.put, List.setIfInBounds_toArray, List.set_cons_zero, List.set_cons_succ, List.getElem_toArray, List.getElem_cons_zero, List.getElem_cons_succ]
    refine wpAnyH_take (i := 4) (oi := _) (v := ?_) rfl (by kernel_rfl) (by kernel_rfl) (by kernel_rfl) (fun _ _ _ h => h) (Or.inl ⟨by rfl, ?_⟩) hHeld ?_
    rotate_left
    · intro w' hSw
      (try dsimp only at hSw)
      go_simp
      try with_reducible rfl
    try simp only [Act.put, List.setIfInBounds_toArray, List.set_cons_zero, List.set_cons_succ, List.getElem_toArray, List.getElem_cons_zero, List.getElem_cons_succ]
    refine wpAnyH_take (i := 5) (oi := _) (v := ?_) rfl (by kernel_rfl) (by kernel_rfl) (by kernel_rfl) (fun _ _ _ h => h) (Or.inl ⟨by rfl, ?_⟩) hHeld ?_
    rotate_left
    · intro w' hSw
      (try dsimp only at hSw)
      go_simp
      try with_reducible rfl
    try simp only [Act.put, List.setIfInBounds_toArray, List.set_cons_zero, List.set_cons_succ, List.getElem_toArray, List.getElem_cons_zero, List.getElem_cons_succ]
    refine wpAnyH_take (i := 7) (oi := _) (v := ?_) rfl (by kernel_rfl) (by kernel_rfl) (by kernel_rfl) (fun _ _ _ h => h) (Or.inl ⟨by rfl, ?_⟩) hHeld ?_
    rotate_left
    · intro w' hSw
      (try dsimp only at hSw)
      go_simp
      try with_reducible rfl
    try simp only [Act.put, List.setIfInBounds_toArray, List.set_cons_zero, List.set_cons_succ, List.getElem_toArray, List.getElem_cons_zero, List.getElem_cons_succ]
    refine wpAnyH_ready (rs := [6]) (by kernel_rfl) (by simp) ?_
    refine AllReadyH.cons rfl (fun K hK => ?_) ?_
    · go_simp
      go_at_call 89
      refine (HOP.out _ _ (Sat.bring (Sat.drew S3) 4)).mono ?_
      rintro e w2 ⟨rfl, S4⟩
      refine hK.out _ _ ?_ (fun hHeld => ?_)
      · exact HX.out _ _ S4 (by simp) (by simp)
      clear hK K
      try simp only [Act.put, List.setIfInBounds_toArray, List.set_cons_zero, List.set_cons_succ, List.getElem_toArray, List.getElem_cons_zero, List.getElem_cons_succ]
      refine wpAnyH_take (i := 8) (oi := _) (v := ?_) rfl (by kernel_rfl) (by kernel_rfl) (by kernel_rfl) (fun _ _ _ h => h) (Or.inl ⟨by rfl, ?_⟩) hHeld ?_
      rotate_left
      · intro w' hSw
        (try dsimp only at hSw)
        go_simp
        try with_reducible rfl
      try simp only [Act.put, List.setIfInBounds_toArray, List.set_cons_zero, List.set_cons_succ, List.getElem_toArray, List.getElem_cons_zero, List.getElem_cons_succ]
      refine wpAnyH_ready (rs := [9]) (by kernel_rfl) (by simp) ?_
      refine AllReadyH.cons rfl (fun K hK => ?_) ?_
      · refine step_sstore rfl _ (.tmp 6) (.tmp 29) rfl (g := g) (S := (Sat.bring S4 1)) _ rfl rfl (by kernel_rfl) rfl (by simp [Value.oneCell']) ?_
        intro S5
        refine hK.out _ _ ?_ (fun hHeld => ?_)
        · exact HX.out _ _ S5 (by simp) (by simp)
        clear hK K
        try simp only [Act.put, List.setIfInBounds_toArray, List.set_cons_zero, List.set_cons_succ, List.getElem_toArray, List.getElem_cons_zero, List.getElem_cons_succ]
        refine wpAnyH_done (by kernel_rfl) ?_ _
        go_wp2_with fail
        refine bodyPost_ret (results_cell_row Tryz.results58 _ _ zb _ _ _ _ rfl S5.cells_get Tryz.underlying52 rfl (by kernel_rfl)) rfl ?_
        exact HR.out ⟨a1, 0, [], when_⟩ ⟨s.tree, a2, s.book, s.at_⟩ HE.out _ none 0 ((Sat.stateShut (s := ⟨s.tree, a2, s.book, s.at_⟩) ((((S5.drop.bring 1).drop.bring 2).bring 2))).nilRow _ _)
      exact AllReadyH.nil
    exact AllReadyH.nil
  have e0 : (kd == 0) = false := by simpa using h0
  have e1 : (kd == 1) = false := by simpa using h1
  obtain ⟨t, ts, bk, S3'⟩ := ((S2.bring 2)).stateOpen
  have S3 : Sat g w1 (cellsA zb 52 #[.int .i64 0, .int .i64 0, .slice none 0 0, .int .i64 0] :: cellsA cb 61 #[.int .i64 kd, .int .i64 ss, .int .i64 rq, .int .i64 nt, .slice A0 ops.length c0, .string (S pa), .bool ki, .bool oc] :: cellsA b 47 #[ptr t, ptr ts, ptr bk, .int .i64 s.at_] :: treeA t s.tree :: tblA ts s.tab :: bookA bk s.book :: rowA 103 6 (.slice A0 ops.length c0) ops.length (ops.flatMap opC) :: L) := ((S3'.bring 5).bring 5)
  have HSEEN : Hid (∀ (w' : World) (L' : List Asn), Sat g w' (tblA ts s.tab :: L') → Calls Tryz.prog 52 #[ptr ts, .int .i64 ss, .int .i64 rq] w' fun e w2 => e = .returned (seenV (seenF s.tab ss rq)) ∧ Sat g w2 (tblA ts s.tab :: L')) := hide fun w' L' S' => tbl_seen S' ss rq
  have hsl := seen_len HI.out.kept ss rq
  have HE0 : Hid (cmdF s ⟨kd, ss, rq, nt, ops, pa, ki, oc⟩ when_ = if (seenF s.tab ss rq).2.2 ≠ 0 then (⟨(seenF s.tab ss rq).2.2, 0, [], when_⟩, s) else if (seenF s.tab ss rq).2.1 = true then ((ansF (seenF s.tab ss rq).1).1, s) else if kd = 2 then (⟨0, 0, [], when_⟩, endF ⟨s.tree, s.tab, notedF s.book ss nt, s.at_⟩ ss when_) else ((doF ⟨s.tree, s.tab, notedF s.book ss nt, s.at_⟩ ⟨kd, ss, rq, nt, ops, pa, ki, oc⟩ when_).1,
      ⟨(doF ⟨s.tree, s.tab, notedF s.book ss nt, s.at_⟩ ⟨kd, ss, rq, nt, ops, pa, ki, oc⟩ when_).2.tree, (keepF (doF ⟨s.tree, s.tab, notedF s.book ss nt, s.at_⟩ ⟨kd, ss, rq, nt, ops, pa, ki, oc⟩ when_).2.tab ss rq (resB (doF ⟨s.tree, s.tab, notedF s.book ss nt, s.at_⟩ ⟨kd, ss, rq, nt, ops, pa, ki, oc⟩ when_).1)).2, (doF ⟨s.tree, s.tab, notedF s.book ss nt, s.at_⟩ ⟨kd, ss, rq, nt, ops, pa, ki, oc⟩ when_).2.book, (doF ⟨s.tree, s.tab, notedF s.book ss nt, s.at_⟩ ⟨kd, ss, rq, nt, ops, pa, ki, oc⟩ when_).2.at_⟩)) := hide (by unfold cmdF; exact (if_neg h0).trans (if_neg h1))
  generalize seenF s.tab ss rq = Q at *
  obtain ⟨q1, q2, q3⟩ := Q
  simp only at HSEEN HE0 hsl
  have HX : Hid (∀ (w' : World) (L' : List Asn), Sat g w' L' → cellsA b 47 #[ptr t, ptr ts, ptr bk, .int .i64 s.at_] ∈ L' → cellsA cb 61 #[.int .i64 kd, .int .i64 ss, .int .i64 rq, .int .i64 nt, .slice A0 ops.length c0, .string (S pa), .bool ki, .bool oc] ∈ L' → w'.cell? ⟨b, 1, none⟩ = some (ptr ts) ∧ w'.cell? ⟨cb, 1, none⟩ = some (.int .i64 ss) ∧ w'.cell? ⟨cb, 2, none⟩ = some (.int .i64 rq)) := hide fun w' L' S' h0 h1 => ⟨S'.cell_of h0 1 _ rfl, S'.cell_of h1 1 _ rfl, S'.cell_of h1 2 _ rfl⟩
  obtain ⟨y0, y1, y2⟩ := HX.out _ _ S3 (by simp) (by simp)
  have x0 := S3.p1.cell 0 _ rfl
  clear S2 S3'
  go_upto_region 6 with fail
  go_region_held3 (fun v' => v'.cell? ⟨b, 1, none⟩ = some (ptr ts) ∧ v'.cell? ⟨cb, 1, none⟩ = some (.int .i64 ss) ∧ v'.cell? ⟨cb, 2, none⟩ = some (.int .i64 rq)) (first
    | (go_keep; done)
    | exact HX.out _ _ (Sat.keep S4 (by (repeat (first | exact Keeps.refl _ _ | refine Keeps.alloc ?_ _ | refine Keeps.drew ?_ | refine Keeps.drewN ?_ _)))) (by simp) (by simp)
    | exact HX.out _ _ (Sat.keep S3 (by (repeat (first | exact Keeps.refl _ _ | refine Keeps.alloc ?_ _ | refine Keeps.drew ?_ | refine Keeps.drewN ?_ _)))) (by simp) (by simp)) (first
    | (go_at_call 52; refine (HSEEN.out _ _ (by (repeat (first | refine Sat.drew ?_ | refine Sat.drewN ?_ _)); exact S3.bring 4)).mono ?_; rintro e w4 ⟨rfl, S4⟩; obtain ⟨y0, y1, y2⟩ := HX.out _ _ S4 (by simp) (by simp)))
  all_goals
    clear S3 HX y0 y1 y2 x0 HSEEN
    by_cases hq3 : q3 = 0
    · subst hq3
      cases q2
      · have HE : Hid (cmdF s ⟨kd, ss, rq, nt, ops, pa, ki, oc⟩ when_ = if kd = 2 then (⟨0, 0, [], when_⟩, endF ⟨s.tree, s.tab, notedF s.book ss nt, s.at_⟩ ss when_) else ((doF ⟨s.tree, s.tab, notedF s.book ss nt, s.at_⟩ ⟨kd, ss, rq, nt, ops, pa, ki, oc⟩ when_).1,
          ⟨(doF ⟨s.tree, s.tab, notedF s.book ss nt, s.at_⟩ ⟨kd, ss, rq, nt, ops, pa, ki, oc⟩ when_).2.tree, (keepF (doF ⟨s.tree, s.tab, notedF s.book ss nt, s.at_⟩ ⟨kd, ss, rq, nt, ops, pa, ki, oc⟩ when_).2.tab ss rq (resB (doF ⟨s.tree, s.tab, notedF s.book ss nt, s.at_⟩ ⟨kd, ss, rq, nt, ops, pa, ki, oc⟩ when_).1)).2, (doF ⟨s.tree, s.tab, notedF s.book ss nt, s.at_⟩ ⟨kd, ss, rq, nt, ops, pa, ki, oc⟩ when_).2.book, (doF ⟨s.tree, s.tab, notedF s.book ss nt, s.at_⟩ ⟨kd, ss, rq, nt, ops, pa, ki, oc⟩ when_).2.at_⟩)) := hide (by have := HE0.out; rwa [if_neg (by simp), if_neg (by simp)] at this)
        have HKN : Hid (∀ (w' : World) (L' : List Asn), Sat g w' (bookA bk s.book :: L') → Calls Tryz.prog 90 #[ptr bk, .int .i64 ss, .int .i64 nt] w' fun e w2 => e = .returned (.tuple #[]) ∧ Sat g w2 (bookA bk (notedF s.book ss nt) :: L')) := hide fun w' L' S' => noted_book S' (by have := HI.out.book.es; omega) ss nt
        have HN : Hid (InvS ⟨s.tree, s.tab, notedF s.book ss nt, s.at_⟩ M n) := hide ⟨HI.out.tree, noted_inv HI.out.book _ _, HI.out.ok, HI.out.nd, HI.out.len, HI.out.kept, HI.out.at0, HI.out.at1⟩
        clear HE0
        have HX : Hid (∀ (w' : World) (L' : List Asn), Sat g w' L' → cellsA b 47 #[ptr t, ptr ts, ptr bk, .int .i64 s.at_] ∈ L' → cellsA cb 61 #[.int .i64 kd, .int .i64 ss, .int .i64 rq, .int .i64 nt, .slice A0 ops.length c0, .string (S pa), .bool ki, .bool oc] ∈ L' → w'.cell? ⟨b, 2, none⟩ = some (ptr bk) ∧ w'.cell? ⟨cb, 1, none⟩ = some (.int .i64 ss) ∧ w'.cell? ⟨cb, 3, none⟩ = some (.int .i64 nt)) := hide fun w' L' S' h0 h1 => ⟨S'.cell_of h0 2 _ rfl, S'.cell_of h1 1 _ rfl, S'.cell_of h1 3 _ rfl⟩
        obtain ⟨y0, y1, y2⟩ := HX.out _ _ S4 (by simp) (by simp)
        go_upto_region 12 with fail
        go_region_held3 (fun v' => v'.cell? ⟨b, 2, none⟩ = some (ptr bk) ∧ v'.cell? ⟨cb, 1, none⟩ = some (.int .i64 ss) ∧ v'.cell? ⟨cb, 3, none⟩ = some (.int .i64 nt)) (first
          | (go_keep; done)
          | exact HX.out _ _ (Sat.keep S5 (by (repeat (first | exact Keeps.refl _ _ | refine Keeps.alloc ?_ _ | refine Keeps.drew ?_ | refine Keeps.drewN ?_ _)))) (by simp) (by simp)
          | exact HX.out _ _ (Sat.keep S4 (by (repeat (first | exact Keeps.refl _ _ | refine Keeps.alloc ?_ _ | refine Keeps.drew ?_ | refine Keeps.drewN ?_ _)))) (by simp) (by simp)) (first
          | (go_at_call 90; refine (HKN.out _ _ (by (repeat (first | refine Sat.drew ?_ | refine Sat.drewN ?_ _)); exact S4.bring 5)).mono ?_; rintro e w5 ⟨rfl, S5⟩; obtain ⟨y0, y1, y2⟩ := HX.out _ _ S5 (by simp) (by simp)))
        all_goals
          clear S4 HX y0 y1 y2 HKN
          have S6 : Sat g w5 (stateA b ⟨s.tree, s.tab, notedF s.book ss nt, s.at_⟩ :: rowA 103 6 (.slice A0 ops.length c0) ops.length (ops.flatMap opC) :: cellsA zb 52 #[.int .i64 0, .int .i64 0, .slice none 0 0, .int .i64 0] :: cellsA cb 61 #[.int .i64 kd, .int .i64 ss, .int .i64 rq, .int .i64 nt, .slice A0 ops.length c0, .string (S pa), .bool ki, .bool oc] :: L) := ((Sat.stateShut (s := ⟨s.tree, s.tab, notedF s.book ss nt, s.at_⟩) ((((((S5.bring 6).bring 1).bring 2).bring 6).bring 6))))
          clear S5
          by_cases h2 : kd = 2
          · subst h2
            have HE2 : Hid (cmdF s ⟨2, ss, rq, nt, ops, pa, ki, oc⟩ when_ = (⟨0, 0, [], when_⟩, endF ⟨s.tree, s.tab, notedF s.book ss nt, s.at_⟩ ss when_)) := hide (by have := HE.out; rwa [if_pos rfl] at this)
            have hend := end_state S6 HG0.out (by simp [hm]) HN.out (by have := HN.out.tree.len; omega) ss when_
            generalize endF ⟨s.tree, s.tab, notedF s.book ss nt, s.at_⟩ ss when_ = EF at *
            clear HE
            have x0 := Sat.cell_of S6 (t := 61) (cs := #[.int .i64 2, .int .i64 ss, .int .i64 rq, .int .i64 nt, .slice A0 ops.length c0, .string (S pa), .bool ki, .bool oc]) (b := cb) (by simp) 0 _ rfl
            have x1 := Sat.cell_of S6 (t := 61) (cs := #[.int .i64 2, .int .i64 ss, .int .i64 rq, .int .i64 nt, .slice A0 ops.length c0, .string (S pa), .bool ki, .bool oc]) (b := cb) (by simp) 1 _ rfl
            go_wp2_with fail
            refine hend.mono ?_
            rintro e w7 ⟨rfl, S7⟩
            clear S6 x0 x1 hend
            go_wp2_with ((show Go.wpList _ _ _ (Oper.mk none (Op.store _ _ _) _ _ _ _ :: _) _ _); refine wpList_sstore rfl _ (.tmp 6) (.tmp 75) rfl (S7.bring 2) _ rfl rfl (by kernel_rfl) rfl (by simp [Value.oneCell']) ?_; intro S8)
            refine bodyPost_ret (results_cell_row Tryz.results58 _ _ zb _ _ _ _ rfl S8.cells_get Tryz.underlying52 rfl (by kernel_rfl)) rfl ?_
            exact HR.out _ _ HE2.out _ none 0 (((S8.drop.bring 2).drop).nilRow _ _)
          · have e2 : (kd == 2) = false := by simpa using h2
            have HE2 : Hid (cmdF s ⟨kd, ss, rq, nt, ops, pa, ki, oc⟩ when_ = ((doF ⟨s.tree, s.tab, notedF s.book ss nt, s.at_⟩ ⟨kd, ss, rq, nt, ops, pa, ki, oc⟩ when_).1,
              ⟨(doF ⟨s.tree, s.tab, notedF s.book ss nt, s.at_⟩ ⟨kd, ss, rq, nt, ops, pa, ki, oc⟩ when_).2.tree, (keepF (doF ⟨s.tree, s.tab, notedF s.book ss nt, s.at_⟩ ⟨kd, ss, rq, nt, ops, pa, ki, oc⟩ when_).2.tab ss rq (resB (doF ⟨s.tree, s.tab, notedF s.book ss nt, s.at_⟩ ⟨kd, ss, rq, nt, ops, pa, ki, oc⟩ when_).1)).2, (doF ⟨s.tree, s.tab, notedF s.book ss nt, s.at_⟩ ⟨kd, ss, rq, nt, ops, pa, ki, oc⟩ when_).2.book, (doF ⟨s.tree, s.tab, notedF s.book ss nt, s.at_⟩ ⟨kd, ss, rq, nt, ops, pa, ki, oc⟩ when_).2.at_⟩)) := hide (by have := HE.out; rwa [if_neg h2] at this)
            have hdo := do_state (cm := ⟨kd, ss, rq, nt, ops, pa, ki, oc⟩) S6 HG0.out (by simp [hm]) HN.out HN0.out HC.out when_ hw
            have hol := (doF_inv HN.out (c := ⟨kd, ss, rq, nt, ops, pa, ki, oc⟩) HC.out hw (by omega)).2
            generalize doF ⟨s.tree, s.tab, notedF s.book ss nt, s.at_⟩ ⟨kd, ss, rq, nt, ops, pa, ki, oc⟩ when_ = D at *
            obtain ⟨⟨r1, r2, r3, r4⟩, s2⟩ := D
            simp only at hdo HE2 hol
            have HDO := hide hdo
            clear HE hdo
            have x0 := Sat.cell_of S6 (t := 61) (cs := #[.int .i64 kd, .int .i64 ss, .int .i64 rq, .int .i64 nt, .slice A0 ops.length c0, .string (S pa), .bool ki, .bool oc]) (b := cb) (by simp) 0 _ rfl
            have x1 := Sat.cell_of S6 (t := 61) (cs := #[.int .i64 kd, .int .i64 ss, .int .i64 rq, .int .i64 nt, .slice A0 ops.length c0, .string (S pa), .bool ki, .bool oc]) (b := cb) (by simp) 1 _ rfl
            have x2 := Sat.cell_of S6 (t := 61) (cs := #[.int .i64 kd, .int .i64 ss, .int .i64 rq, .int .i64 nt, .slice A0 ops.length c0, .string (S pa), .bool ki, .bool oc]) (b := cb) (by simp) 2 _ rfl
            have x3 := Sat.cell_of S6 (t := 61) (cs := #[.int .i64 kd, .int .i64 ss, .int .i64 rq, .int .i64 nt, .slice A0 ops.length c0, .string (S pa), .bool ki, .bool oc]) (b := cb) (by simp) 3 _ rfl
            have x4 := Sat.cell_of S6 (t := 61) (cs := #[.int .i64 kd, .int .i64 ss, .int .i64 rq, .int .i64 nt, .slice A0 ops.length c0, .string (S pa), .bool ki, .bool oc]) (b := cb) (by simp) 4 _ rfl
            have x5 := Sat.cell_of S6 (t := 61) (cs := #[.int .i64 kd, .int .i64 ss, .int .i64 rq, .int .i64 nt, .slice A0 ops.length c0, .string (S pa), .bool ki, .bool oc]) (b := cb) (by simp) 5 _ rfl
            have x6 := Sat.cell_of S6 (t := 61) (cs := #[.int .i64 kd, .int .i64 ss, .int .i64 rq, .int .i64 nt, .slice A0 ops.length c0, .string (S pa), .bool ki, .bool oc]) (b := cb) (by simp) 6 _ rfl
            have x7 := Sat.cell_of S6 (t := 61) (cs := #[.int .i64 kd, .int .i64 ss, .int .i64 rq, .int .i64 nt, .slice A0 ops.length c0, .string (S pa), .bool ki, .bool oc]) (b := cb) (by simp) 7 _ rfl
            go_wp2_with fail
            refine HDO.out.mono ?_
            rintro e w7 ⟨A, c, rfl, S7⟩
            clear S6 x0 x1 x2 x3 x4 x5 x6 x7 HDO
            have S8 := S7.box #[.int .i64 r1, .int .i64 r2, .slice A r3.length c, .int .i64 r4] 52 rfl
            go_upto_region 17 with fail
            generalize w7.alloc (.cells #[.int .i64 r1, .int .i64 r2, .slice A r3.length c, .int .i64 r4] 52) = w8 at *
            generalize w7.heap.size = rb at *
            obtain ⟨t2, ts2, bk2, S9⟩ := (S8.bring 2).stateOpen
            clear S7 S8
            have hrl := resB_len ⟨r1, r2, r3, r4⟩
            simp only at hrl
            have HBY : Hid (∀ (w' : World) (L' : List Asn), Sat g w' L' → rowA 129 2 (.slice A r3.length c) r3.length (r3.flatMap outC) ∈ L' → Calls Tryz.prog 94 #[resV ⟨r1, r2, r3, r4⟩ A c] w' fun e w2 => e = .returned (.string (S (resB ⟨r1, r2, r3, r4⟩))) ∧ Sat g w2 L') := hide fun w' L' S' h => by
              obtain ⟨L2, SX⟩ := S'.mem_ h
              refine (bytes_res w' ⟨r1, r2, r3, r4⟩ A c SX.srcT (by simp only; omega)).mono ?_
              rintro e w2 ⟨rfl, hk⟩
              exact ⟨rfl, S'.keep hk⟩
            have HKP : Hid (∀ (w' : World) (L' : List Asn), Sat g w' (tblA ts2 s2.tab :: L') → Calls Tryz.prog 93 #[ptr ts2, .int .i64 ss, .int .i64 rq, .string (S (resB ⟨r1, r2, r3, r4⟩))] w' fun e w2 => e = .returned (.int .i64 (keepF s2.tab ss rq (resB ⟨r1, r2, r3, r4⟩)).1) ∧ Sat g w2 (tblA ts2 (keepF s2.tab ss rq (resB ⟨r1, r2, r3, r4⟩)).2 :: L')) := hide fun w' L' S' => tbl_keep S' ss rq _ (by omega)
            generalize resB ⟨r1, r2, r3, r4⟩ = RB at *
            generalize keepF s2.tab ss rq RB = KF at *
            obtain ⟨kf1, kf2⟩ := KF
            simp only at HKP HE2
            have HX : Hid (∀ (w' : World) (L' : List Asn), Sat g w' L' → cellsA b 47 #[ptr t2, ptr ts2, ptr bk2, .int .i64 s2.at_] ∈ L' → cellsA cb 61 #[.int .i64 kd, .int .i64 ss, .int .i64 rq, .int .i64 nt, .slice A0 ops.length c0, .string (S pa), .bool ki, .bool oc] ∈ L' → cellsA rb 52 #[.int .i64 r1, .int .i64 r2, .slice A r3.length c, .int .i64 r4] ∈ L' → w'.cell? ⟨b, 1, none⟩ = some (ptr ts2) ∧ w'.cell? ⟨cb, 1, none⟩ = some (.int .i64 ss) ∧ w'.cell? ⟨cb, 2, none⟩ = some (.int .i64 rq) ∧ w'.cell? ⟨rb, 0, none⟩ = some (.int .i64 r1) ∧ w'.cell? ⟨rb, 1, none⟩ = some (.int .i64 r2) ∧ w'.cell? ⟨rb, 2, none⟩ = some (.slice A r3.length c) ∧ w'.cell? ⟨rb, 3, none⟩ = some (.int .i64 r4)) := hide fun w' L' S' h0 h1 h2 => ⟨S'.cell_of h0 1 _ rfl, S'.cell_of h1 1 _ rfl, S'.cell_of h1 2 _ rfl, S'.cell_of h2 0 _ rfl, S'.cell_of h2 1 _ rfl, S'.cell_of h2 2 _ rfl, S'.cell_of h2 3 _ rfl⟩
            obtain ⟨y0, y1, y2, y3, y4, y5, y6⟩ := HX.out _ _ S9 (by simp) (by simp) (by simp)
            go_region_held3 (fun v' => v'.cell? ⟨b, 1, none⟩ = some (ptr ts2) ∧ v'.cell? ⟨cb, 1, none⟩ = some (.int .i64 ss) ∧ v'.cell? ⟨cb, 2, none⟩ = some (.int .i64 rq) ∧ v'.cell? ⟨rb, 0, none⟩ = some (.int .i64 r1) ∧ v'.cell? ⟨rb, 1, none⟩ = some (.int .i64 r2) ∧ v'.cell? ⟨rb, 2, none⟩ = some (.slice A r3.length c) ∧ v'.cell? ⟨rb, 3, none⟩ = some (.int .i64 r4)) (first
              | (go_keep; done)
              | exact HX.out _ _ (Sat.keep S11 (by (repeat (first | exact Keeps.refl _ _ | refine Keeps.alloc ?_ _ | refine Keeps.drew ?_ | refine Keeps.drewN ?_ _)))) (by simp) (by simp) (by simp)
              | exact HX.out _ _ (Sat.keep S10 (by (repeat (first | exact Keeps.refl _ _ | refine Keeps.alloc ?_ _ | refine Keeps.drew ?_ | refine Keeps.drewN ?_ _)))) (by simp) (by simp) (by simp)
              | exact HX.out _ _ (Sat.keep S9 (by (repeat (first | exact Keeps.refl _ _ | refine Keeps.alloc ?_ _ | refine Keeps.drew ?_ | refine Keeps.drewN ?_ _)))) (by simp) (by simp) (by simp)) (first
              | (go_at_call 94; refine (HBY.out _ _ (Sat.drew S9) (by simp)).mono ?_; rintro e w10 ⟨rfl, S10⟩; obtain ⟨y0, y1, y2, y3, y4, y5, y6⟩ := HX.out _ _ S10 (by simp) (by simp) (by simp))
              | (go_at_call 93; refine (HKP.out _ _ (by (repeat (first | refine Sat.drew ?_ | refine Sat.drewN ?_ _)); exact S10.bring 2)).mono ?_; rintro e w11 ⟨rfl, S11⟩; obtain ⟨y0, y1, y2, y3, y4, y5, y6⟩ := HX.out _ _ S11 (by simp) (by simp) (by simp)))
            all_goals
              clear S9 S10 HX HBY HKP
              go_wp2_with ((show Go.wpList _ _ _ (Oper.mk none (Op.store _ _ _) _ _ _ _ :: _) _ _); refine wpList_sstore rfl _ (.tmp 6) (.tmp 91) rfl (S11.bring 7) _ rfl rfl (by kernel_rfl) rfl (by simp [Value.oneCell']) ?_; intro S12)
              refine bodyPost_ret (results_cell_row Tryz.results58 _ _ zb _ _ _ _ rfl S12.cells_get Tryz.underlying52 rfl (by kernel_rfl)) rfl ?_
              exact HR.out ⟨r1, r2, r3, r4⟩ ⟨s2.tree, kf2, s2.book, s2.at_⟩ HE2.out _ A c (Sat.bring (Sat.stateShut (s := ⟨s2.tree, kf2, s2.book, s2.at_⟩) (((((S12.drop.bring 4).drop.bring 6).drop.bring 2).bring 2))) 1)
      · have HE : Hid (cmdF s ⟨kd, ss, rq, nt, ops, pa, ki, oc⟩ when_ = ((ansF q1).1, s)) := hide (by have := HE0.out; rwa [if_neg (by simp), if_pos rfl] at this)
        have HANS : Hid (∀ (w' : World) (L' : List Asn), Sat g w' L' → Calls Tryz.prog 53 #[.string (S q1)] w' fun e w2 => ∃ A cap, e = .returned (.tuple #[resV (ansF q1).1 A cap, .int .i64 (ansF q1).2]) ∧ Sat g w2 (rowA 129 2 (.slice A (ansF q1).1.outs.length cap) (ansF q1).1.outs.length ((ansF q1).1.outs.flatMap outC) :: L')) := hide fun w' L' S' => by
          refine (answer_row w' q1 (by omega)).mono ?_
          rintro e w2 ⟨A, cap, rfl, S''⟩
          exact ⟨A, cap, rfl, S'.fresh S'' rowA_own⟩
        generalize ansF q1 = AN at *
        obtain ⟨⟨r1, r2, r3, r4⟩, ae⟩ := AN
        simp only at HANS HE
        clear HE0
        go_wp2_with fail
        refine (HANS.out _ _ S4).mono ?_
        rintro e w5 ⟨A, c, rfl, S5⟩
        clear S4 HANS
        have S6 := S5.box #[.int .i64 r1, .int .i64 r2, .slice A r3.length c, .int .i64 r4] 52 rfl
        go_upto_region 11 with fail
        generalize w5.alloc (.cells #[.int .i64 r1, .int .i64 r2, .slice A r3.length c, .int .i64 r4] 52) = w6 at *
        generalize w5.heap.size = rb at *
        have y0 := S6.cell 0 _ rfl
        have y1 := S6.cell 1 _ rfl
        have y2 := S6.cell 2 _ rfl
        have y3 := S6.cell 3 _ rfl
        clear S5
        go_wp2_with ((show Go.wpList _ _ _ (Oper.mk none (Op.store _ _ _) _ _ _ _ :: _) _ _); refine wpList_sstore rfl _ (.tmp 6) (.tmp 56) rfl (S6.bring 3) _ rfl rfl (by kernel_rfl) rfl (by simp [Value.oneCell']) ?_; intro S7)
        refine bodyPost_ret (results_cell_row Tryz.results58 _ _ zb _ _ _ _ rfl S7.cells_get Tryz.underlying52 rfl (by kernel_rfl)) rfl ?_
        exact HR.out ⟨r1, r2, r3, r4⟩ s HE.out _ A c (Sat.bring (Sat.stateShut ((((((S7.drop.drop.bring 2).drop.bring 4).bring 2).bring 4).bring 4))) 1)
    · have e3 : (q3 != 0) = true := by simpa using hq3
      have HE : Hid (cmdF s ⟨kd, ss, rq, nt, ops, pa, ki, oc⟩ when_ = (⟨q3, 0, [], when_⟩, s)) := hide (by have := HE0.out; rwa [if_pos hq3] at this)
      clear HE0
      go_wp2_with ((show Go.wpList _ _ _ (Oper.mk none (Op.store _ _ _) _ _ _ _ :: _) _ _); refine wpList_sstore rfl _ (.tmp 6) (.tmp 48) rfl (S4.bring 1) _ rfl rfl (by kernel_rfl) rfl (by simp [Value.oneCell']) ?_; intro S5)
      refine bodyPost_ret (results_cell_row Tryz.results58 _ _ zb _ _ _ _ rfl S5.cells_get Tryz.underlying52 rfl (by kernel_rfl)) rfl ?_
      exact HR.out ⟨q3, 0, [], when_⟩ s HE.out _ none 0 ((Sat.stateShut ((((S5.drop.bring 1).drop.bring 2).bring 2))).nilRow _ _)

end Go.Proofs.YthgiamofndhehaaGreatDoor
