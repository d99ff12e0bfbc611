/- The statement ClientCalls: the call. No condition. -/
import Derived.Test.YtegafdkhbgojcaaGreatDoorClD
import Derived.Test.YtegafdkhbgojcaaGreatDoorEH18
import Derived.Test.YtegafdkhbgojcaaGreatDoorFewD
import Derived.Test.YtegafdkhbgojcaaGreatDoorDecOp
set_option linter.unusedVariables false
set_option linter.unusedSimpArgs false
namespace Go.Proofs.YtegafdkhbgojcaaGreatDoor
open Go.RowKit

/-- a command, and where its operations lie -/
abbrev CQ := CmdT × Option Addr × Nat
def cqL (q : CQ) : List Value := cmdL q.1 q.2.1 q.2.2
def CqOk (w : World) (q : CQ) : Prop := OpSrc w q.2.1 q.1.ops ∧ CmdOk q.1
theorem flat_cq (l : List CQ) : (l.flatMap fun q : CmdT × Option Addr × Nat => cmdL q.1 q.2.1 q.2.2) = l.flatMap cqL := rfl
theorem cqs_at {w : World} {A : Option Addr} {qs : List CQ} (h : Src w 8 A qs.length (qs.flatMap cqL)) {k : Nat} (hk : k < qs.length) :
    ∃ ad q, A = some ad ∧ qs[k]? = some q ∧ w.cell? (ad.add (k * 8)) = some (.int .i64 q.1.kind) ∧ w.cell? ⟨(ad.add (k * 8)).block, (ad.add (k * 8)).off + 1, none⟩ = some (.int .i64 q.1.session) ∧ w.cell? ⟨(ad.add (k * 8)).block, (ad.add (k * 8)).off + 2, none⟩ = some (.int .i64 q.1.req) ∧
      w.cell? ⟨(ad.add (k * 8)).block, (ad.add (k * 8)).off + 3, none⟩ = some (.int .i64 q.1.noted) ∧ w.cell? ⟨(ad.add (k * 8)).block, (ad.add (k * 8)).off + 4, none⟩ = some (.slice q.2.1 q.1.ops.length q.2.2) ∧ w.cell? ⟨(ad.add (k * 8)).block, (ad.add (k * 8)).off + 5, none⟩ = some (.string (S q.1.path)) ∧
      w.cell? ⟨(ad.add (k * 8)).block, (ad.add (k * 8)).off + 6, none⟩ = some (.bool q.1.kids) ∧ w.cell? ⟨(ad.add (k * 8)).block, (ad.add (k * 8)).off + 7, none⟩ = some (.bool q.1.once) := by
  obtain ⟨ad, e, hc⟩ := h.2 (by omega)
  have ha := List.getElem?_eq_getElem hk
  have hf := flat_at cqL 8 (fun _ => rfl) qs k _ ha
  refine ⟨ad, qs[k], e, ha, hc _ _ (hf 0 _ rfl), ?_, ?_, ?_, ?_, ?_, ?_, ?_⟩
  · rw [← add_succ, add_add]; exact hc _ _ (hf 1 _ rfl)
  · rw [← add_succ, add_add]; exact hc _ _ (hf 2 _ rfl)
  · rw [← add_succ, add_add]; exact hc _ _ (hf 3 _ rfl)
  · rw [← add_succ, add_add]; exact hc _ _ (hf 4 _ rfl)
  · rw [← add_succ, add_add]; exact hc _ _ (hf 5 _ rfl)
  · rw [← add_succ, add_add]; exact hc _ _ (hf 6 _ rfl)
  · rw [← add_succ, add_add]; exact hc _ _ (hf 7 _ rfl)


set_option maxRecDepth 100000 in
set_option maxHeartbeats 8000000 in
theorem calls_walk (w : World) (id : Int) (A : Option Addr) (qs : List CQ) (cap : Nat) (h : Src w 8 A qs.length (qs.flatMap cqL)) (hok : ∀ q ∈ qs, CqOk w q) (hl : qs.length ≤ 9223372036854775807) :
    Calls Tryz.prog 6 #[.int .i64 id, .slice A qs.length cap] w fun e w' => e = .returned (.bool true) ∧ Keeps (fun k => w.heap.size ≤ k) w w' := by
  have HO := hide hok
  clear hok
  go_enter Tryz.func6, Tryz.ntmps6
  go_wp2_with fail
  refine (Ek.h18_calls _).mono ?_
  rintro e w1 ⟨rfl, hk1⟩
  have S1 := (Sat.start w).keep hk1
  clear hk1
  by_cases h20 : qs.length ≤ 20
  rotate_left
  · have h20' : (20 : Int) < qs.length := by omega
    go_wp2_with fail
    go_ret
    exact ⟨rfl, S1.keeps⟩
  have h20' : ¬ ((20 : Int) < qs.length) := by omega
  go_wp2_with fail
  refine (new_cl S1 id).mono ?_
  rintro e w2 ⟨cb, rfl, S2⟩
  clear S1 h20'
  go_wp2_with fail
  go_loopw [6, 7, 26] (fun v b i wr => ∃ k : Nat, k ≤ qs.length ∧ i = .int .i64 (k : Int) ∧ ∃ (req : Int) (busy : Bool) (c : CmdT) (A0 : Option Addr) (cap0 : Nat), v = .int .i64 req ∧ b = .bool busy ∧ 0 ≤ req ∧ req ≤ k ∧ Sat w wr (cellsA cb 101 (cliC id req busy c A0 cap0) :: [oldA w])) (fun _ _ i _ => qs.length - (RowKit.intOf i).toNat)
  case atStart => exact ⟨0, by omega, rfl, 0, false, _, _, _, rfl, rfl, by omega, by omega, S2⟩
  case round =>
    obtain ⟨k, hk, rfl, req, busy, c, A0, cap0, rfl, rfl, hr0, hrk, S4⟩ := hrel
    clear S2
    by_cases hlt : k < qs.length
    · obtain ⟨ad, q, rfl, hx, c0, c1, c2, c3, c4, c5, c6, c7⟩ := cqs_at (h.keep S4.p1.keep_all (fun _ _ h => h)) hlt
      obtain ⟨hq1, hq2⟩ := HO.out q (List.mem_of_getElem? hx)
      obtain ⟨⟨kd, ss, rq, nt, ops, pa, ki, oc⟩, A1, cap1⟩ := q
      simp only at c0 c1 c2 c3 c4 c5 c6 c7 hq1 hq2
      have hq2' : ∀ {a b c d : Int}, CmdOk ⟨a, b, c, d, ops, pa, ki, oc⟩ := hq2
      have S5 := S4.box #[.int .i64 kd, .int .i64 ss, .int .i64 rq, .int .i64 nt, .slice A1 ops.length cap1, .string (S pa), .bool ki, .bool oc] 63 rfl
      have x0 := S5.cell 0 _ rfl
      have x1 := S5.cell 1 _ rfl
      have x2 := S5.cell 2 _ rfl
      have x3 := S5.cell 3 _ rfl
      have x4 := S5.cell 4 _ rfl
      have x5 := S5.cell 5 _ rfl
      have x6 := S5.cell 6 _ rfl
      have x7 := S5.cell 7 _ rfl
      clear hx
      go_upto_region 11 with fail
      generalize wr.alloc (.cells #[.int .i64 kd, .int .i64 ss, .int .i64 rq, .int .i64 nt, .slice A1 ops.length cap1, .string (S pa), .bool ki, .bool oc] 63) = w5 at *
      generalize wr.heap.size = xb at *
      clear S4 c0 c1 c2 c3 c4 c5 c6 c7
      go_wp2_with fail
      refine (few_det w5 ⟨kd, ss, rq, nt, ops, pa, ki, oc⟩ A1 cap1 (hq1.keep (S5.bring 2).keep_all (fun _ _ h => h)) hq2).mono ?_
      rintro e w6 ⟨rfl, hk6⟩
      have S6 := S5.keep hk6
      clear hk6 x0 x1 x2 x3 x4 x5 x6 x7 S5
      generalize fewF ⟨kd, ss, rq, nt, ops, pa, ki, oc⟩ = fb
      cases fb
      · go_wp2_with fail
        go_ret
        exact ⟨rfl, (S6.bring 2).keeps⟩
      have x0 := S6.cell 0 _ rfl
      have x1 := S6.cell 1 _ rfl
      have x2 := S6.cell 2 _ rfl
      have x3 := S6.cell 3 _ rfl
      have x4 := S6.cell 4 _ rfl
      have x5 := S6.cell 5 _ rfl
      have x6 := S6.cell 6 _ rfl
      have x7 := S6.cell 7 _ rfl
      go_wp2_with fail
      refine (call_cl S6.p1 (by simp) ⟨hr0, by omega⟩ ⟨kd, ss, rq, nt, ops, pa, ki, oc⟩ A1 cap1 hq1 hq2).mono ?_
      rintro e w7 hP
      clear x0 x1 x2 x3 x4 x5 x6 x7 S6
      cases busy with
      | true =>
        obtain ⟨rfl, S7⟩ := hP.1 (.inl rfl)
        go_wp2_with fail
        go_roundw
        case rel => exact ⟨k + 1, by omega, by go_num, _, _, _, _, _, rfl, rfl, hr0, by omega, S7.p1.drop⟩
        case measure => simp [RowKit.intOf]; omega
      | false =>
        by_cases hb1 : kd < 1
        · obtain ⟨rfl, S7⟩ := hP.1 (.inr (.inl hb1))
          have x0 := S7.p1.cell 0 _ rfl
          go_wp2_with fail
          go_roundw
          case rel => exact ⟨k + 1, by omega, by go_num, _, _, _, _, _, rfl, rfl, hr0, by omega, S7.p1.drop⟩
          case measure => simp [RowKit.intOf]; omega
        by_cases hb2 : 5 < kd
        · obtain ⟨rfl, S7⟩ := hP.1 (.inr (.inr hb2))
          have x0 := S7.p1.cell 0 _ rfl
          go_wp2_with fail
          go_roundw
          case rel => exact ⟨k + 1, by omega, by go_num, _, _, _, _, _, rfl, rfl, hr0, by omega, S7.p1.drop⟩
          case measure => simp [RowKit.intOf]; omega
        obtain ⟨rfl, S7⟩ := hP.2 (by rintro (h | h | h); cases h; exact hb1 h; exact hb2 h)
        by_cases h1 : kd = 1
        · subst h1
          have hw : wantC id req ⟨1, ss, rq, nt, ops, pa, ki, oc⟩ = ⟨1, id, 0, 0, ops, pa, ki, oc⟩ := by unfold wantC; rfl
          rw [hw] at S7
          have hrq : reqC req ⟨1, ss, rq, nt, ops, pa, ki, oc⟩ = req := by unfold reqC; rfl
          rw [hrq] at S7
          simp only [hw]
          clear hw hrq hP
          have x0 : w7.cell? ⟨xb, 0, none⟩ = some (.int .i64 1) := S7.p1.cell 0 _ rfl
          have x1 := S7.p1.cell 1 _ rfl
          have x2 := S7.p1.cell 2 _ rfl
          have x3 := S7.p1.cell 3 _ rfl
          have x4 := S7.p1.cell 4 _ rfl
          have x5 := S7.p1.cell 5 _ rfl
          have x6 := S7.p1.cell 6 _ rfl
          have x7 := S7.p1.cell 7 _ rfl
          have S8 := S7.box #[.int .i64 1, .int .i64 ss, .int .i64 rq, .int .i64 nt, .slice A1 ops.length cap1, .string (S pa), .bool ki, .bool oc] 63 rfl
          have u0 := S8.p2.cell 0 _ rfl
          have y0 := S8.cell 0 _ rfl
          have y1 := S8.cell 1 _ rfl
          have y2 := S8.cell 2 _ rfl
          have y3 := S8.cell 3 _ rfl
          have y4 := S8.cell 4 _ rfl
          have y5 := S8.cell 5 _ rfl
          have y6 := S8.cell 6 _ rfl
          have y7 := S8.cell 7 _ rfl
          have f1 := S8.cells_fz 1
          have f2 := S8.cells_fz 2
          have f3 := S8.cells_fz 3
          go_upto_region 18 with fail
          generalize w7.alloc (.cells #[.int .i64 1, .int .i64 ss, .int .i64 rq, .int .i64 nt, .slice A1 ops.length cap1, .string (S pa), .bool ki, .bool oc] 63) = w8 at *
          generalize w7.heap.size = yb at *
          clear x0 x1 x2 x3 x4 x5 x6 x7 S7
          have hne : ¬ (yb = xb) := by have := S8.p1.own_ne; intro h; exact (Sat.own_ne (S8.p2)) h.symm
          have hne' : ¬ (xb = yb) := fun h => hne h.symm
          go_upto_region 20 with fail
          have S8b : Sat w _ (cellsA yb 63 #[.int .i64 1, .int .i64 id, .int .i64 rq, .int .i64 0, .slice A1 ops.length cap1, .string (S pa), .bool ki, .bool oc] :: _) := (S8.setc 1 (.int .i64 id)).setc 3 (.int .i64 0)
          generalize (w8.setCell ⟨yb, 1, none⟩ (.int .i64 id)).setCell ⟨yb, 3, none⟩ (.int .i64 0) = w9 at *
          clear y0 y1 y2 y3 y4 y5 y6 y7 f1 f2 f3 u0 S8
          have u0 := S8b.p2.cell 0 _ rfl
          have y0 := S8b.cell 0 _ rfl
          have y1 := S8b.cell 1 _ rfl
          have y2 := S8b.cell 2 _ rfl
          have y3 := S8b.cell 3 _ rfl
          have y4 := S8b.cell 4 _ rfl
          have y5 := S8b.cell 5 _ rfl
          have y6 := S8b.cell 6 _ rfl
          have y7 := S8b.cell 7 _ rfl
          have f2 := S8b.cells_fz 2
          go_wp2_with fail
          have S9 : Sat w _ (cellsA yb 63 #[.int .i64 1, .int .i64 id, .int .i64 0, .int .i64 0, .slice A1 ops.length cap1, .string (S pa), .bool ki, .bool oc] :: _) := (S8b.setc 2 (.int .i64 (req + 1))).setc 2 (.int .i64 0)
          refine (bytes_cmd _ ⟨1, id, 0, 0, ops, pa, ki, oc⟩ A1 cap1 (hq1.keep (S9.bring 3).keep_all (fun _ _ h => h)) hq2').mono ?_
          rintro e w10 ⟨rfl, hk10⟩
          have S10 := S9.keep hk10
          clear hk10 y0 y1 y2 y3 y4 y5 y6 y7 f2 u0 S8b S9
          generalize hz : (bytesF ⟨1, id, 0, 0, ops, pa, ki, oc⟩).2 = z at *
          generalize (bytesF ⟨1, id, 0, 0, ops, pa, ki, oc⟩).1 = bs at *
          have HZ := hide hz
          clear hz
          have u0 := (S10.bring 2).cell 0 _ rfl
          by_cases h0 : z = 0
          · subst h0
            rw [if_pos rfl] at S10
            have x0 : w10.cell? ⟨yb, 0, none⟩ = some (.int .i64 1) := S10.cell 0 _ rfl
            have x1 := S10.cell 1 _ rfl
            have x2 := S10.cell 2 _ rfl
            have x3 := S10.cell 3 _ rfl
            have x4 := S10.cell 4 _ rfl
            have x5 := S10.cell 5 _ rfl
            have x6 := S10.cell 6 _ rfl
            have x7 := S10.cell 7 _ rfl
            go_upto_region 30 with fail
            have HX : Hid (∀ (w' : World) (L' : List Asn), Sat w w' L' → cellsA yb 63 #[.int .i64 1, .int .i64 id, .int .i64 0, .int .i64 0, .slice A1 ops.length cap1, .string (S pa), .bool ki, .bool oc] ∈ L' → w'.cell? ⟨yb, 0, none⟩ = some (.int .i64 1) ∧ w'.cell? ⟨yb, 1, none⟩ = some (.int .i64 id) ∧ w'.cell? ⟨yb, 2, none⟩ = some (.int .i64 0) ∧ w'.cell? ⟨yb, 3, none⟩ = some (.int .i64 0) ∧ w'.cell? ⟨yb, 4, none⟩ = some (.slice A1 ops.length cap1) ∧ w'.cell? ⟨yb, 5, none⟩ = some (.string (Go.Proofs.YtegafdkhbgojcaaGreatDoor.S pa)) ∧ w'.cell? ⟨yb, 6, none⟩ = some (.bool ki) ∧ w'.cell? ⟨yb, 7, none⟩ = some (.bool oc)) := hide fun w' L' S' h => ⟨S'.cell_of h 0 _ rfl, S'.cell_of h 1 _ rfl, S'.cell_of h 2 _ rfl, S'.cell_of h 3 _ rfl, S'.cell_of h 4 _ rfl, S'.cell_of h 5 _ rfl, S'.cell_of h 6 _ rfl, S'.cell_of h 7 _ rfl⟩
            clear x0 x1 x2 x3 x4 x5 x6 x7
            refine wp_region_held_drew (S := (fun w' => w'.cell? ⟨yb, 0, none⟩ = some (.int .i64 1) ∧ w'.cell? ⟨yb, 1, none⟩ = some (.int .i64 id) ∧ w'.cell? ⟨yb, 2, none⟩ = some (.int .i64 0) ∧ w'.cell? ⟨yb, 3, none⟩ = some (.int .i64 0) ∧ w'.cell? ⟨yb, 4, none⟩ = some (.slice A1 ops.length cap1) ∧ w'.cell? ⟨yb, 5, none⟩ = some (.string (Go.Proofs.YtegafdkhbgojcaaGreatDoor.S pa)) ∧ w'.cell? ⟨yb, 6, none⟩ = some (.bool ki) ∧ w'.cell? ⟨yb, 7, none⟩ = some (.bool oc))) (by kernel_rfl) ?_ (fun hHeld => ?_)
            · exact HX.out _ _ S10.drew (by simp)
            refine wpAnyH_take (i := 0) (oi := _) (v := ?_) rfl (by kernel_rfl) (by kernel_rfl) (by kernel_rfl) (fun _ _ _ h => h) (Or.inl ⟨by rfl, ?_⟩) hHeld ?_
            rotate_left
            · intro w' hSw
              (try dsimp only at hSw)
              go_simp
              try with_reducible rfl
            try simp only [Act.put, List.setIfInBounds_toArray, List.set_cons_zero, List.set_cons_succ, List.getElem_toArray, List.getElem_cons_zero, List.getElem_cons_succ]
            refine wpAnyH_take (i := 2) (oi := _) (v := ?_) rfl (by kernel_rfl) (by kernel_rfl) (by kernel_rfl) (fun _ _ _ h => h) (Or.inl ⟨by rfl, ?_⟩) hHeld ?_
            rotate_left
            · intro w' hSw
              (try dsimp only at hSw)
              go_simp
              try with_reducible rfl
            try simp only [Act.put, List.setIfInBounds_toArray, List.set_cons_zero, List.set_cons_succ, List.getElem_toArray, List.getElem_cons_zero, List.getElem_cons_succ]
            refine wpAnyH_ready (rs := [1]) (by kernel_rfl) (by simp) ?_
            refine AllReadyH.cons rfl (fun K hK => ?_) ?_
            · go_simp
              refine (cmd_cl S10.p1.drew).mono ?_
              rintro e w11 ⟨rfl, S11⟩
              try simp only [cmdV]
              refine hK.out _ _ ?_ (fun hHeld => ?_)
              · exact HX.out _ _ S11 (by simp)
              clear hK K
              try simp only [Act.put, List.setIfInBounds_toArray, List.set_cons_zero, List.set_cons_succ, List.getElem_toArray, List.getElem_cons_zero, List.getElem_cons_succ]
              refine wpAnyH_ready (rs := [3]) (by kernel_rfl) (by simp) ?_
              refine AllReadyH.cons rfl (fun K hK => ?_) ?_
              · go_simp
                refine (same_cmd _ ⟨1, id, 0, 0, ops, pa, ki, oc⟩ ⟨1, id, 0, 0, ops, pa, ki, oc⟩ A1 A1 cap1 cap1 (hq1.keep (S11.bring 3).keep_all (fun _ _ h => h)) (hq1.keep (S11.bring 3).keep_all (fun _ _ h => h)) hq2'.2.1 hq2'.2.1).mono ?_
                rintro e w12 ⟨rfl, hk12⟩
                have S12 := S11.keep hk12
                simp only [decide_true]
                refine hK.out _ _ ?_ (fun hHeld => ?_)
                · exact HX.out _ _ S12 (by simp)
                clear hK K
                try simp only [Act.put, List.setIfInBounds_toArray, List.set_cons_zero, List.set_cons_succ, List.getElem_toArray, List.getElem_cons_zero, List.getElem_cons_succ]
                refine wpAnyH_take (i := 4) (oi := _) (v := ?_) rfl (by kernel_rfl) (by kernel_rfl) (by kernel_rfl) (fun _ _ _ h => h) (Or.inl ⟨by rfl, ?_⟩) hHeld ?_
                rotate_left
                · intro w' hSw
                  (try dsimp only at hSw)
                  go_simp
                  try with_reducible rfl
                try simp only [Act.put, List.setIfInBounds_toArray, List.set_cons_zero, List.set_cons_succ, List.getElem_toArray, List.getElem_cons_zero, List.getElem_cons_succ]
                refine wpAnyH_take (i := 5) (oi := _) (v := ?_) rfl (by kernel_rfl) (by kernel_rfl) (by kernel_rfl) (fun _ _ _ h => h) (Or.inl ⟨by rfl, ?_⟩) hHeld ?_
                rotate_left
                · intro w' hSw
                  (try dsimp only at hSw)
                  go_simp
                  try with_reducible rfl
                try simp only [Act.put, List.setIfInBounds_toArray, List.set_cons_zero, List.set_cons_succ, List.getElem_toArray, List.getElem_cons_zero, List.getElem_cons_succ]
                refine wpAnyH_take (i := 6) (oi := _) (v := ?_) rfl (by kernel_rfl) (by kernel_rfl) (by kernel_rfl) (fun _ _ _ h => h) (Or.inl ⟨by rfl, ?_⟩) hHeld ?_
                rotate_left
                · intro w' hSw
                  (try dsimp only at hSw)
                  go_simp
                  try with_reducible rfl
                try simp only [Act.put, List.setIfInBounds_toArray, List.set_cons_zero, List.set_cons_succ, List.getElem_toArray, List.getElem_cons_zero, List.getElem_cons_succ]
                refine wpAnyH_ready (rs := [7]) (by kernel_rfl) (by simp) ?_
                refine AllReadyH.cons rfl (fun K hK => ?_) ?_
                · go_simp
                  refine (busy_cl S12).mono ?_
                  rintro e w13 ⟨rfl, hk13⟩
                  have S13 := S12.keep hk13
                  refine hK.out _ _ ?_ (fun hHeld => ?_)
                  · exact HX.out _ _ S13 (by simp)
                  clear hK K
                  try simp only [Act.put, List.setIfInBounds_toArray, List.set_cons_zero, List.set_cons_succ, List.getElem_toArray, List.getElem_cons_zero, List.getElem_cons_succ]
                  refine wpAnyH_take (i := 8) (oi := _) (v := ?_) rfl (by kernel_rfl) (by kernel_rfl) (by kernel_rfl) (fun _ _ _ h => h) (Or.inl ⟨by rfl, ?_⟩) hHeld ?_
                  rotate_left
                  · intro w' hSw
                    (try dsimp only at hSw)
                    go_simp
                    try with_reducible rfl
                  try simp only [Act.put, List.setIfInBounds_toArray, List.set_cons_zero, List.set_cons_succ, List.getElem_toArray, List.getElem_cons_zero, List.getElem_cons_succ]
                  refine wpAnyH_take (i := 9) (oi := _) (v := ?_) rfl (by kernel_rfl) (by kernel_rfl) (by kernel_rfl) (fun _ _ _ h => h) (Or.inl ⟨by rfl, ?_⟩) hHeld ?_
                  rotate_left
                  · intro w' hSw
                    (try dsimp only at hSw)
                    go_simp
                    try with_reducible rfl
                  try simp only [Act.put, List.setIfInBounds_toArray, List.set_cons_zero, List.set_cons_succ, List.getElem_toArray, List.getElem_cons_zero, List.getElem_cons_succ]
                  refine wpAnyH_done (by kernel_rfl) ?_ _
                  have u0' := (S13.bring 2).cell 0 _ rfl
                  go_wp2_with fail
                  go_roundw
                  case rel => exact ⟨k + 1, by omega, by go_num, _, _, _, _, _, rfl, rfl, by omega, by omega, (S13.p1.drop.p1.drop)⟩
                  case measure => simp [RowKit.intOf]; omega
                exact AllReadyH.nil
              exact AllReadyH.nil
            exact AllReadyH.nil
          · rw [if_neg h0] at S10
            have h0' : (z != 0) = true := by simpa using h0
            go_wp2_with fail
            go_roundw
            case rel => exact ⟨k + 1, by omega, by go_num, _, _, _, _, _, rfl, rfl, hr0, by omega, (S10.drop.p1.drop)⟩
            case measure => simp [RowKit.intOf]; omega
        · have h1' : (kd != 1) = true := by simpa using h1
          have hw : wantC id req ⟨kd, ss, rq, nt, ops, pa, ki, oc⟩ = ⟨kd, id, (req + 1), 0, ops, pa, ki, oc⟩ := by unfold wantC; simp only [h1, if_false]
          rw [hw] at S7
          have hrq : reqC req ⟨kd, ss, rq, nt, ops, pa, ki, oc⟩ = req + 1 := by unfold reqC; simp only [h1, if_false]
          rw [hrq] at S7
          simp only [hw]
          clear hw hrq hP
          have x0 : w7.cell? ⟨xb, 0, none⟩ = some (.int .i64 kd) := S7.p1.cell 0 _ rfl
          have x1 := S7.p1.cell 1 _ rfl
          have x2 := S7.p1.cell 2 _ rfl
          have x3 := S7.p1.cell 3 _ rfl
          have x4 := S7.p1.cell 4 _ rfl
          have x5 := S7.p1.cell 5 _ rfl
          have x6 := S7.p1.cell 6 _ rfl
          have x7 := S7.p1.cell 7 _ rfl
          have S8 := S7.box #[.int .i64 kd, .int .i64 ss, .int .i64 rq, .int .i64 nt, .slice A1 ops.length cap1, .string (S pa), .bool ki, .bool oc] 63 rfl
          have u0 := S8.p2.cell 0 _ rfl
          have y0 := S8.cell 0 _ rfl
          have y1 := S8.cell 1 _ rfl
          have y2 := S8.cell 2 _ rfl
          have y3 := S8.cell 3 _ rfl
          have y4 := S8.cell 4 _ rfl
          have y5 := S8.cell 5 _ rfl
          have y6 := S8.cell 6 _ rfl
          have y7 := S8.cell 7 _ rfl
          have f1 := S8.cells_fz 1
          have f2 := S8.cells_fz 2
          have f3 := S8.cells_fz 3
          go_upto_region 18 with fail
          generalize w7.alloc (.cells #[.int .i64 kd, .int .i64 ss, .int .i64 rq, .int .i64 nt, .slice A1 ops.length cap1, .string (S pa), .bool ki, .bool oc] 63) = w8 at *
          generalize w7.heap.size = yb at *
          clear x0 x1 x2 x3 x4 x5 x6 x7 S7
          have hne : ¬ (yb = xb) := by have := S8.p1.own_ne; intro h; exact (Sat.own_ne (S8.p2)) h.symm
          have hne' : ¬ (xb = yb) := fun h => hne h.symm
          go_upto_region 20 with fail
          have S8b : Sat w _ (cellsA yb 63 #[.int .i64 kd, .int .i64 id, .int .i64 rq, .int .i64 0, .slice A1 ops.length cap1, .string (S pa), .bool ki, .bool oc] :: _) := (S8.setc 1 (.int .i64 id)).setc 3 (.int .i64 0)
          generalize (w8.setCell ⟨yb, 1, none⟩ (.int .i64 id)).setCell ⟨yb, 3, none⟩ (.int .i64 0) = w9 at *
          clear y0 y1 y2 y3 y4 y5 y6 y7 f1 f2 f3 u0 S8
          have u0 := S8b.p2.cell 0 _ rfl
          have y0 := S8b.cell 0 _ rfl
          have y1 := S8b.cell 1 _ rfl
          have y2 := S8b.cell 2 _ rfl
          have y3 := S8b.cell 3 _ rfl
          have y4 := S8b.cell 4 _ rfl
          have y5 := S8b.cell 5 _ rfl
          have y6 := S8b.cell 6 _ rfl
          have y7 := S8b.cell 7 _ rfl
          have f2 := S8b.cells_fz 2
          go_wp2_with fail
          have S9 : Sat w _ (cellsA yb 63 #[.int .i64 kd, .int .i64 id, .int .i64 (req + 1), .int .i64 0, .slice A1 ops.length cap1, .string (S pa), .bool ki, .bool oc] :: _) := (S8b.setc 2 (.int .i64 (req + 1)))
          refine (bytes_cmd _ ⟨kd, id, (req + 1), 0, ops, pa, ki, oc⟩ A1 cap1 (hq1.keep (S9.bring 3).keep_all (fun _ _ h => h)) hq2').mono ?_
          rintro e w10 ⟨rfl, hk10⟩
          have S10 := S9.keep hk10
          clear hk10 y0 y1 y2 y3 y4 y5 y6 y7 f2 u0 S8b S9
          generalize hz : (bytesF ⟨kd, id, (req + 1), 0, ops, pa, ki, oc⟩).2 = z at *
          generalize (bytesF ⟨kd, id, (req + 1), 0, ops, pa, ki, oc⟩).1 = bs at *
          have HZ := hide hz
          clear hz
          have u0 := (S10.bring 2).cell 0 _ rfl
          by_cases h0 : z = 0
          · subst h0
            rw [if_pos rfl] at S10
            have x0 : w10.cell? ⟨yb, 0, none⟩ = some (.int .i64 kd) := S10.cell 0 _ rfl
            have x1 := S10.cell 1 _ rfl
            have x2 := S10.cell 2 _ rfl
            have x3 := S10.cell 3 _ rfl
            have x4 := S10.cell 4 _ rfl
            have x5 := S10.cell 5 _ rfl
            have x6 := S10.cell 6 _ rfl
            have x7 := S10.cell 7 _ rfl
            go_upto_region 30 with fail
            have HX : Hid (∀ (w' : World) (L' : List Asn), Sat w w' L' → cellsA yb 63 #[.int .i64 kd, .int .i64 id, .int .i64 (req + 1), .int .i64 0, .slice A1 ops.length cap1, .string (S pa), .bool ki, .bool oc] ∈ L' → w'.cell? ⟨yb, 0, none⟩ = some (.int .i64 kd) ∧ w'.cell? ⟨yb, 1, none⟩ = some (.int .i64 id) ∧ w'.cell? ⟨yb, 2, none⟩ = some (.int .i64 (req + 1)) ∧ w'.cell? ⟨yb, 3, none⟩ = some (.int .i64 0) ∧ w'.cell? ⟨yb, 4, none⟩ = some (.slice A1 ops.length cap1) ∧ w'.cell? ⟨yb, 5, none⟩ = some (.string (Go.Proofs.YtegafdkhbgojcaaGreatDoor.S pa)) ∧ w'.cell? ⟨yb, 6, none⟩ = some (.bool ki) ∧ w'.cell? ⟨yb, 7, none⟩ = some (.bool oc)) := hide fun w' L' S' h => ⟨S'.cell_of h 0 _ rfl, S'.cell_of h 1 _ rfl, S'.cell_of h 2 _ rfl, S'.cell_of h 3 _ rfl, S'.cell_of h 4 _ rfl, S'.cell_of h 5 _ rfl, S'.cell_of h 6 _ rfl, S'.cell_of h 7 _ rfl⟩
            clear x0 x1 x2 x3 x4 x5 x6 x7
            refine wp_region_held_drew (S := (fun w' => w'.cell? ⟨yb, 0, none⟩ = some (.int .i64 kd) ∧ w'.cell? ⟨yb, 1, none⟩ = some (.int .i64 id) ∧ w'.cell? ⟨yb, 2, none⟩ = some (.int .i64 (req + 1)) ∧ w'.cell? ⟨yb, 3, none⟩ = some (.int .i64 0) ∧ w'.cell? ⟨yb, 4, none⟩ = some (.slice A1 ops.length cap1) ∧ w'.cell? ⟨yb, 5, none⟩ = some (.string (Go.Proofs.YtegafdkhbgojcaaGreatDoor.S pa)) ∧ w'.cell? ⟨yb, 6, none⟩ = some (.bool ki) ∧ w'.cell? ⟨yb, 7, none⟩ = some (.bool oc))) (by kernel_rfl) ?_ (fun hHeld => ?_)
            · exact HX.out _ _ S10.drew (by simp)
            refine wpAnyH_take (i := 0) (oi := _) (v := ?_) rfl (by kernel_rfl) (by kernel_rfl) (by kernel_rfl) (fun _ _ _ h => h) (Or.inl ⟨by rfl, ?_⟩) hHeld ?_
            rotate_left
            · intro w' hSw
              (try dsimp only at hSw)
              go_simp
              try with_reducible rfl
            try simp only [Act.put, List.setIfInBounds_toArray, List.set_cons_zero, List.set_cons_succ, List.getElem_toArray, List.getElem_cons_zero, List.getElem_cons_succ]
            refine wpAnyH_take (i := 2) (oi := _) (v := ?_) rfl (by kernel_rfl) (by kernel_rfl) (by kernel_rfl) (fun _ _ _ h => h) (Or.inl ⟨by rfl, ?_⟩) hHeld ?_
            rotate_left
            · intro w' hSw
              (try dsimp only at hSw)
              go_simp
              try with_reducible rfl
            try simp only [Act.put, List.setIfInBounds_toArray, List.set_cons_zero, List.set_cons_succ, List.getElem_toArray, List.getElem_cons_zero, List.getElem_cons_succ]
            refine wpAnyH_ready (rs := [1]) (by kernel_rfl) (by simp) ?_
            refine AllReadyH.cons rfl (fun K hK => ?_) ?_
            · go_simp
              refine (cmd_cl S10.p1.drew).mono ?_
              rintro e w11 ⟨rfl, S11⟩
              try simp only [cmdV]
              refine hK.out _ _ ?_ (fun hHeld => ?_)
              · exact HX.out _ _ S11 (by simp)
              clear hK K
              try simp only [Act.put, List.setIfInBounds_toArray, List.set_cons_zero, List.set_cons_succ, List.getElem_toArray, List.getElem_cons_zero, List.getElem_cons_succ]
              refine wpAnyH_ready (rs := [3]) (by kernel_rfl) (by simp) ?_
              refine AllReadyH.cons rfl (fun K hK => ?_) ?_
              · go_simp
                refine (same_cmd _ ⟨kd, id, (req + 1), 0, ops, pa, ki, oc⟩ ⟨kd, id, (req + 1), 0, ops, pa, ki, oc⟩ A1 A1 cap1 cap1 (hq1.keep (S11.bring 3).keep_all (fun _ _ h => h)) (hq1.keep (S11.bring 3).keep_all (fun _ _ h => h)) hq2'.2.1 hq2'.2.1).mono ?_
                rintro e w12 ⟨rfl, hk12⟩
                have S12 := S11.keep hk12
                simp only [decide_true]
                refine hK.out _ _ ?_ (fun hHeld => ?_)
                · exact HX.out _ _ S12 (by simp)
                clear hK K
                try simp only [Act.put, List.setIfInBounds_toArray, List.set_cons_zero, List.set_cons_succ, List.getElem_toArray, List.getElem_cons_zero, List.getElem_cons_succ]
                refine wpAnyH_take (i := 4) (oi := _) (v := ?_) rfl (by kernel_rfl) (by kernel_rfl) (by kernel_rfl) (fun _ _ _ h => h) (Or.inl ⟨by rfl, ?_⟩) hHeld ?_
                rotate_left
                · intro w' hSw
                  (try dsimp only at hSw)
                  go_simp
                  try with_reducible rfl
                try simp only [Act.put, List.setIfInBounds_toArray, List.set_cons_zero, List.set_cons_succ, List.getElem_toArray, List.getElem_cons_zero, List.getElem_cons_succ]
                refine wpAnyH_take (i := 5) (oi := _) (v := ?_) rfl (by kernel_rfl) (by kernel_rfl) (by kernel_rfl) (fun _ _ _ h => h) (Or.inl ⟨by rfl, ?_⟩) hHeld ?_
                rotate_left
                · intro w' hSw
                  (try dsimp only at hSw)
                  go_simp
                  try with_reducible rfl
                try simp only [Act.put, List.setIfInBounds_toArray, List.set_cons_zero, List.set_cons_succ, List.getElem_toArray, List.getElem_cons_zero, List.getElem_cons_succ]
                refine wpAnyH_take (i := 6) (oi := _) (v := ?_) rfl (by kernel_rfl) (by kernel_rfl) (by kernel_rfl) (fun _ _ _ h => h) (Or.inl ⟨by rfl, ?_⟩) hHeld ?_
                rotate_left
                · intro w' hSw
                  (try dsimp only at hSw)
                  go_simp
                  try with_reducible rfl
                try simp only [Act.put, List.setIfInBounds_toArray, List.set_cons_zero, List.set_cons_succ, List.getElem_toArray, List.getElem_cons_zero, List.getElem_cons_succ]
                refine wpAnyH_ready (rs := [7]) (by kernel_rfl) (by simp) ?_
                refine AllReadyH.cons rfl (fun K hK => ?_) ?_
                · go_simp
                  refine (busy_cl S12).mono ?_
                  rintro e w13 ⟨rfl, hk13⟩
                  have S13 := S12.keep hk13
                  refine hK.out _ _ ?_ (fun hHeld => ?_)
                  · exact HX.out _ _ S13 (by simp)
                  clear hK K
                  try simp only [Act.put, List.setIfInBounds_toArray, List.set_cons_zero, List.set_cons_succ, List.getElem_toArray, List.getElem_cons_zero, List.getElem_cons_succ]
                  refine wpAnyH_take (i := 8) (oi := _) (v := ?_) rfl (by kernel_rfl) (by kernel_rfl) (by kernel_rfl) (fun _ _ _ h => h) (Or.inl ⟨by rfl, ?_⟩) hHeld ?_
                  rotate_left
                  · intro w' hSw
                    (try dsimp only at hSw)
                    go_simp
                    try with_reducible rfl
                  try simp only [Act.put, List.setIfInBounds_toArray, List.set_cons_zero, List.set_cons_succ, List.getElem_toArray, List.getElem_cons_zero, List.getElem_cons_succ]
                  refine wpAnyH_take (i := 9) (oi := _) (v := ?_) rfl (by kernel_rfl) (by kernel_rfl) (by kernel_rfl) (fun _ _ _ h => h) (Or.inl ⟨by rfl, ?_⟩) hHeld ?_
                  rotate_left
                  · intro w' hSw
                    (try dsimp only at hSw)
                    go_simp
                    try with_reducible rfl
                  try simp only [Act.put, List.setIfInBounds_toArray, List.set_cons_zero, List.set_cons_succ, List.getElem_toArray, List.getElem_cons_zero, List.getElem_cons_succ]
                  refine wpAnyH_done (by kernel_rfl) ?_ _
                  have u0' := (S13.bring 2).cell 0 _ rfl
                  go_wp2_with fail
                  go_roundw
                  case rel => exact ⟨k + 1, by omega, by go_num, _, _, _, _, _, rfl, rfl, by omega, by omega, (S13.p1.drop.p1.drop)⟩
                  case measure => simp [RowKit.intOf]; omega
                exact AllReadyH.nil
              exact AllReadyH.nil
            exact AllReadyH.nil
          · rw [if_neg h0] at S10
            have h0' : (z != 0) = true := by simpa using h0
            go_wp2_with fail
            go_roundw
            case rel => exact ⟨k + 1, by omega, by go_num, _, _, _, _, _, rfl, rfl, hr0, by omega, (S10.drop.p1.drop)⟩
            case measure => simp [RowKit.intOf]; omega
    · obtain rfl : k = qs.length := by omega
      go_wp2_with fail
      refine (new_cl S4 1).mono ?_
      rintro e w5 ⟨db, rfl, S5⟩
      go_wp2_with fail
      refine (try_cl S5).mono ?_
      rintro e w6 ⟨rfl, S6⟩
      go_wp2_with ((show Go.wpList _ _ _ (Oper.mk none (Op.store _ _ _) _ _ _ _ :: _) _ _); refine wpList_sstore rfl _ (.tmp 14) (.tmp 89) rfl (S6.box (repC 0) 76 rfl) _ rfl rfl (by kernel_rfl) rfl (by simp [Value.oneCell', repC]) ?_; intro S7)
      refine (read_cl (S7.bring 2) _).mono ?_
      rintro e w8 ⟨rfl, S9⟩
      generalize w6.heap.size = tb at *
      clear S7 S6 S5 S4
      go_wp2_with ((show Go.wpList _ _ _ (Oper.mk none (Op.store _ _ _) _ _ _ _ :: _) _ _); refine wpList_sstore rfl _ (.tmp 16) (.tmp 92) rfl (S9.box (repC 0) 76 rfl) _ rfl rfl (by kernel_rfl) rfl (by simp [Value.oneCell', repC]) ?_; intro S10; have r0 := (rep_cells (S10.bring 2)).1; have q0 := (rep_cells S10).1)
      refine (seen_cl (S10.bring 1)).mono ?_
      rintro e w11 ⟨rfl, hk11⟩
      have S11 := S10.keep hk11
      go_wp2_with fail
      refine (noted_cl (S11.bring 1)).mono ?_
      rintro e w12 ⟨rfl, hk12⟩
      have S12 := S11.keep hk12
      go_wp2_with fail
      refine (events_cl (S12.bring 1)).mono ?_
      rintro e w13 ⟨⟨A9, c9, rfl⟩, hk13⟩
      have S13 := S12.keep hk13
      go_wp2_with fail
      refine (busy_cl (S13.bring 1)).mono ?_
      rintro e w14 ⟨rfl, hk14⟩
      have S14 := S13.keep hk14
      go_wp2_with fail
      go_ret
      exact ⟨by simp, (S14.bring 4).keeps⟩
end Go.Proofs.YtegafdkhbgojcaaGreatDoor
