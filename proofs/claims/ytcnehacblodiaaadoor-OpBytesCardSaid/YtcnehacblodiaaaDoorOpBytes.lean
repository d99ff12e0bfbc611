/- The law OpBytes, walked. No condition. -/
import Derived.Test.YtcnehacblodiaaaDoorOpMade
import Derived.Test.YtcnehacblodiaaaDoorHelpo
import Derived.Test.YtcnehacblodiaaaDoorCut
set_option linter.unusedVariables false
namespace Go.Proofs.YtcnehacblodiaaaDoor
open Go.RowKit

theorem rule_of (w : World) (c : CmdT) (A : Option Addr) (cap : Nat) (h : OpSrc w A c.ops) (hok : CmdOk c) {b : Bool} (hb : cmdR c = b) :
    Calls Tryd.prog 16 #[cmdV c A cap] w fun e w' => e = .returned (.bool b) ∧ Keeps (fun _ => False) w w' := by
  rw [← hb]; exact rule_cmd w c A cap h hok
theorem right_of (w : World) (c : CmdT) (A : Option Addr) (cap : Nat) (h : OpSrc w A c.ops) (hok : CmdOk c) {b : Bool} (hb : cmdR c = b) :
    Calls Tryd.prog 15 #[cmdV c A cap] w fun e w' => e = .returned (.bool b) ∧ Keeps (fun _ => False) w w' := by
  rw [← hb]; exact right_cmd w c A cap h hok
theorem cmdB_len (c : CmdT) (h : cmdR c = true) : 34 ≤ (cmdB c).length := by
  have : (txts [c.path]).length = 2 + (cut16 c.path).length := by simp [txts, txt_length]
  simp only [cmdB, List.length_append, nums_length, flags, List.length_map, List.length_cons, List.length_nil]
  omega

theorem read_none (w : World) (s : List UInt8) (hs : s.length ≤ 9223372036854775807) (hr : readF s = (noCmd, 2)) :
    Calls Tryd.prog 21 #[.string (S s)] w fun e w' => ∃ B cb, e = .returned (.tuple #[.agg #[.int .i64 0, .int .i64 0, .int .i64 0, .int .i64 0, .slice B 0 cb, .string ⟨#[]⟩, .bool false, .bool false], .int .i64 2]) ∧ Keeps (fun _ => False) w w' := by
  refine (read_eq w s hs hr).mono ?_
  rintro e w' ⟨A, cap, rfl, _, hk⟩
  exact ⟨A, cap, rfl, hk⟩

set_option maxRecDepth 100000 in
set_option maxHeartbeats 8000000 in
theorem bytes_walk (W : World) (hG : GL W) (c : CmdT) (A : Option Addr) (cap : Nat) (cut : Int) (h : OpSrc W A c.ops) (hok : CmdOk c) :
    Calls Tryd.prog 3 #[cmdV c A cap, .int .i64 cut] W fun e w' => e = .returned (.bool true) ∧ Keeps (fun k => W.heap.size ≤ k) W w' := by
  have HG := hide hG
  clear hG
  have HSRC : Hid (∀ {w : World} {L : List Asn}, Sat W w L → oldA W ∈ L → OpSrc w A c.ops) := fun S hm => h.keepB (by decide) (S.keepsOf hm) (fun k hk h => by omega)
  have HGL : Hid (∀ {w : World} {L : List Asn}, Sat W w L → oldA W ∈ L → GL w) := fun S hm => HG.out.keep (S.keepsOf hm) (fun h => by obtain ⟨m, hm⟩ := HG.out; have := World.block_lt_of_cell? W _ hm; simp at this h; omega)
  have HOK := hide hok
  obtain ⟨s, x, hb⟩ : ∃ s x, bytesF c = (s, x) := ⟨_, _, rfl⟩
  have HB := hide hb
  obtain ⟨kind, session, req, noted, ops, path, kids, once⟩ := c
  have hl : ops.length ≤ 9223372036854775807 := hok.2.1
  have hpl : path.length ≤ 9223372036854775807 := hok.1
  have hsl : s.length ≤ 488 := by
    unfold bytesF at hb
    split at hb
    · injection hb with h1 h2; subst h1; simp
    · split at hb
      · injection hb with h1 h2; subst h1; simp
      · injection hb with h1 h2; subst h1; omega
  clear hb hok h
  simp only at HSRC
  go_enter Tryd.func3, Tryd.ntmps3
  go_wp2_with fail
  refine (head_op _).mono ?_
  rintro e w0 ⟨rfl, hk0⟩
  have S0 := ((Sat.start W).box #[.int .i64 kind, .int .i64 session, .int .i64 req, .int .i64 noted, .slice A ops.length cap, .string (S path), .bool kids, .bool once] 25 rfl).keep hk0
  clear hk0
  have q0 : w0.cell? ⟨W.heap.size, 0, none⟩ = some (.int .i64 kind) := S0.cell_of (t := 25) (cs := #[.int .i64 kind, .int .i64 session, .int .i64 req, .int .i64 noted, .slice A ops.length cap, .string (S path), .bool kids, .bool once]) (by simp) 0 _ rfl
  have q1 : w0.cell? ⟨W.heap.size, 1, none⟩ = some (.int .i64 session) := S0.cell_of (t := 25) (cs := #[.int .i64 kind, .int .i64 session, .int .i64 req, .int .i64 noted, .slice A ops.length cap, .string (S path), .bool kids, .bool once]) (by simp) 1 _ rfl
  have q2 : w0.cell? ⟨W.heap.size, 2, none⟩ = some (.int .i64 req) := S0.cell_of (t := 25) (cs := #[.int .i64 kind, .int .i64 session, .int .i64 req, .int .i64 noted, .slice A ops.length cap, .string (S path), .bool kids, .bool once]) (by simp) 2 _ rfl
  have q3 : w0.cell? ⟨W.heap.size, 3, none⟩ = some (.int .i64 noted) := S0.cell_of (t := 25) (cs := #[.int .i64 kind, .int .i64 session, .int .i64 req, .int .i64 noted, .slice A ops.length cap, .string (S path), .bool kids, .bool once]) (by simp) 3 _ rfl
  have q4 : w0.cell? ⟨W.heap.size, 4, none⟩ = some (.slice A ops.length cap) := S0.cell_of (t := 25) (cs := #[.int .i64 kind, .int .i64 session, .int .i64 req, .int .i64 noted, .slice A ops.length cap, .string (S path), .bool kids, .bool once]) (by simp) 4 _ rfl
  have q5 : w0.cell? ⟨W.heap.size, 5, none⟩ = some (.string (S path)) := S0.cell_of (t := 25) (cs := #[.int .i64 kind, .int .i64 session, .int .i64 req, .int .i64 noted, .slice A ops.length cap, .string (S path), .bool kids, .bool once]) (by simp) 5 _ rfl
  have q6 : w0.cell? ⟨W.heap.size, 6, none⟩ = some (.bool kids) := S0.cell_of (t := 25) (cs := #[.int .i64 kind, .int .i64 session, .int .i64 req, .int .i64 noted, .slice A ops.length cap, .string (S path), .bool kids, .bool once]) (by simp) 6 _ rfl
  have q7 : w0.cell? ⟨W.heap.size, 7, none⟩ = some (.bool once) := S0.cell_of (t := 25) (cs := #[.int .i64 kind, .int .i64 session, .int .i64 req, .int .i64 noted, .slice A ops.length cap, .string (S path), .bool kids, .bool once]) (by simp) 7 _ rfl
  go_wp2_with fail
  refine (few_cmd _ ⟨kind, session, req, noted, ops, path, kids, once⟩ A cap (HSRC.out S0 (by simp)) HOK.out).mono ?_
  rintro e w1 ⟨he, hk⟩
  have S1 := S0.keep hk
  clear hk q0 q1 q2 q3 q4 q5 q6 q7
  rcases he with rfl | ⟨rfl, hl10, hp200⟩
  · go_wp2_with fail
    go_ret
    exact ⟨rfl, S1.p1.keeps⟩
  · simp only at hl10 hp200
    have q0 : w1.cell? ⟨W.heap.size, 0, none⟩ = some (.int .i64 kind) := S1.cell_of (t := 25) (cs := #[.int .i64 kind, .int .i64 session, .int .i64 req, .int .i64 noted, .slice A ops.length cap, .string (S path), .bool kids, .bool once]) (by simp) 0 _ rfl
    have q1 : w1.cell? ⟨W.heap.size, 1, none⟩ = some (.int .i64 session) := S1.cell_of (t := 25) (cs := #[.int .i64 kind, .int .i64 session, .int .i64 req, .int .i64 noted, .slice A ops.length cap, .string (S path), .bool kids, .bool once]) (by simp) 1 _ rfl
    have q2 : w1.cell? ⟨W.heap.size, 2, none⟩ = some (.int .i64 req) := S1.cell_of (t := 25) (cs := #[.int .i64 kind, .int .i64 session, .int .i64 req, .int .i64 noted, .slice A ops.length cap, .string (S path), .bool kids, .bool once]) (by simp) 2 _ rfl
    have q3 : w1.cell? ⟨W.heap.size, 3, none⟩ = some (.int .i64 noted) := S1.cell_of (t := 25) (cs := #[.int .i64 kind, .int .i64 session, .int .i64 req, .int .i64 noted, .slice A ops.length cap, .string (S path), .bool kids, .bool once]) (by simp) 3 _ rfl
    have q4 : w1.cell? ⟨W.heap.size, 4, none⟩ = some (.slice A ops.length cap) := S1.cell_of (t := 25) (cs := #[.int .i64 kind, .int .i64 session, .int .i64 req, .int .i64 noted, .slice A ops.length cap, .string (S path), .bool kids, .bool once]) (by simp) 4 _ rfl
    have q5 : w1.cell? ⟨W.heap.size, 5, none⟩ = some (.string (S path)) := S1.cell_of (t := 25) (cs := #[.int .i64 kind, .int .i64 session, .int .i64 req, .int .i64 noted, .slice A ops.length cap, .string (S path), .bool kids, .bool once]) (by simp) 5 _ rfl
    have q6 : w1.cell? ⟨W.heap.size, 6, none⟩ = some (.bool kids) := S1.cell_of (t := 25) (cs := #[.int .i64 kind, .int .i64 session, .int .i64 req, .int .i64 noted, .slice A ops.length cap, .string (S path), .bool kids, .bool once]) (by simp) 6 _ rfl
    have q7 : w1.cell? ⟨W.heap.size, 7, none⟩ = some (.bool once) := S1.cell_of (t := 25) (cs := #[.int .i64 kind, .int .i64 session, .int .i64 req, .int .i64 noted, .slice A ops.length cap, .string (S path), .bool kids, .bool once]) (by simp) 7 _ rfl
    go_wp2_with fail
    refine (bytes_eq _ ⟨kind, session, req, noted, ops, path, kids, once⟩ A cap (HSRC.out S1 (by simp)) HOK.out HB.out).mono ?_
    rintro e w2 ⟨rfl, hk⟩
    have S2 := S1.keep hk
    clear hk q0 q1 q2 q3 q4 q5 q6 q7
    have q0 : w2.cell? ⟨W.heap.size, 0, none⟩ = some (.int .i64 kind) := S2.cell_of (t := 25) (cs := #[.int .i64 kind, .int .i64 session, .int .i64 req, .int .i64 noted, .slice A ops.length cap, .string (S path), .bool kids, .bool once]) (by simp) 0 _ rfl
    have q1 : w2.cell? ⟨W.heap.size, 1, none⟩ = some (.int .i64 session) := S2.cell_of (t := 25) (cs := #[.int .i64 kind, .int .i64 session, .int .i64 req, .int .i64 noted, .slice A ops.length cap, .string (S path), .bool kids, .bool once]) (by simp) 1 _ rfl
    have q2 : w2.cell? ⟨W.heap.size, 2, none⟩ = some (.int .i64 req) := S2.cell_of (t := 25) (cs := #[.int .i64 kind, .int .i64 session, .int .i64 req, .int .i64 noted, .slice A ops.length cap, .string (S path), .bool kids, .bool once]) (by simp) 2 _ rfl
    have q3 : w2.cell? ⟨W.heap.size, 3, none⟩ = some (.int .i64 noted) := S2.cell_of (t := 25) (cs := #[.int .i64 kind, .int .i64 session, .int .i64 req, .int .i64 noted, .slice A ops.length cap, .string (S path), .bool kids, .bool once]) (by simp) 3 _ rfl
    have q4 : w2.cell? ⟨W.heap.size, 4, none⟩ = some (.slice A ops.length cap) := S2.cell_of (t := 25) (cs := #[.int .i64 kind, .int .i64 session, .int .i64 req, .int .i64 noted, .slice A ops.length cap, .string (S path), .bool kids, .bool once]) (by simp) 4 _ rfl
    have q5 : w2.cell? ⟨W.heap.size, 5, none⟩ = some (.string (S path)) := S2.cell_of (t := 25) (cs := #[.int .i64 kind, .int .i64 session, .int .i64 req, .int .i64 noted, .slice A ops.length cap, .string (S path), .bool kids, .bool once]) (by simp) 5 _ rfl
    have q6 : w2.cell? ⟨W.heap.size, 6, none⟩ = some (.bool kids) := S2.cell_of (t := 25) (cs := #[.int .i64 kind, .int .i64 session, .int .i64 req, .int .i64 noted, .slice A ops.length cap, .string (S path), .bool kids, .bool once]) (by simp) 6 _ rfl
    have q7 : w2.cell? ⟨W.heap.size, 7, none⟩ = some (.bool once) := S2.cell_of (t := 25) (cs := #[.int .i64 kind, .int .i64 session, .int .i64 req, .int .i64 noted, .slice A ops.length cap, .string (S path), .bool kids, .bool once]) (by simp) 7 _ rfl
    cases hR : cmdR ⟨kind, session, req, noted, ops, path, kids, once⟩
    all_goals
      have HR := hide hR
      clear hR
    · have hsx : s = [] ∧ x = 1 := by
        have := HB.out
        unfold bytesF at this
        rw [HR.out] at this
        simpa [eq_comm] using this
      obtain ⟨rfl, rfl⟩ := hsx
      go_upto_region 6 with fail
      go_region_held3 (fun w' => w'.cell? ⟨W.heap.size, 0, none⟩ = some (.int .i64 kind) ∧ w'.cell? ⟨W.heap.size, 1, none⟩ = some (.int .i64 session) ∧ w'.cell? ⟨W.heap.size, 2, none⟩ = some (.int .i64 req) ∧ w'.cell? ⟨W.heap.size, 3, none⟩ = some (.int .i64 noted) ∧ w'.cell? ⟨W.heap.size, 4, none⟩ = some (.slice A ops.length cap) ∧ w'.cell? ⟨W.heap.size, 5, none⟩ = some (.string (S path)) ∧ w'.cell? ⟨W.heap.size, 6, none⟩ = some (.bool kids) ∧ w'.cell? ⟨W.heap.size, 7, none⟩ = some (.bool once)) (go_keep) (first
        | (go_at_call 15; refine (right_of _ ⟨kind, session, req, noted, ops, path, kids, once⟩ A cap (HSRC.out (show Sat W _ [cellsA W.heap.size 25 #[.int .i64 kind, .int .i64 session, .int .i64 req, .int .i64 noted, .slice A ops.length cap, .string (S path), .bool kids, .bool once], oldA W] by (repeat (first | refine Sat.drew ?_ | refine Sat.drewN ?_ _)); exact S2) (by simp)) HOK.out HR.out).mono ?_; rintro e w4 ⟨rfl, hk4⟩; have S4 : Sat W w4 [cellsA W.heap.size 25 #[.int .i64 kind, .int .i64 session, .int .i64 req, .int .i64 noted, .slice A ops.length cap, .string (S path), .bool kids, .bool once], oldA W] := Sat.keep (by (repeat (first | refine Sat.drew ?_ | refine Sat.drewN ?_ _)); exact S2) hk4; clear hk4; have q0 : w4.cell? ⟨W.heap.size, 0, none⟩ = some (.int .i64 kind) := S4.cell_of (t := 25) (cs := #[.int .i64 kind, .int .i64 session, .int .i64 req, .int .i64 noted, .slice A ops.length cap, .string (S path), .bool kids, .bool once]) (by simp) 0 _ rfl; have q1 : w4.cell? ⟨W.heap.size, 1, none⟩ = some (.int .i64 session) := S4.cell_of (t := 25) (cs := #[.int .i64 kind, .int .i64 session, .int .i64 req, .int .i64 noted, .slice A ops.length cap, .string (S path), .bool kids, .bool once]) (by simp) 1 _ rfl; have q2 : w4.cell? ⟨W.heap.size, 2, none⟩ = some (.int .i64 req) := S4.cell_of (t := 25) (cs := #[.int .i64 kind, .int .i64 session, .int .i64 req, .int .i64 noted, .slice A ops.length cap, .string (S path), .bool kids, .bool once]) (by simp) 2 _ rfl; have q3 : w4.cell? ⟨W.heap.size, 3, none⟩ = some (.int .i64 noted) := S4.cell_of (t := 25) (cs := #[.int .i64 kind, .int .i64 session, .int .i64 req, .int .i64 noted, .slice A ops.length cap, .string (S path), .bool kids, .bool once]) (by simp) 3 _ rfl; have q4 : w4.cell? ⟨W.heap.size, 4, none⟩ = some (.slice A ops.length cap) := S4.cell_of (t := 25) (cs := #[.int .i64 kind, .int .i64 session, .int .i64 req, .int .i64 noted, .slice A ops.length cap, .string (S path), .bool kids, .bool once]) (by simp) 4 _ rfl; have q5 : w4.cell? ⟨W.heap.size, 5, none⟩ = some (.string (S path)) := S4.cell_of (t := 25) (cs := #[.int .i64 kind, .int .i64 session, .int .i64 req, .int .i64 noted, .slice A ops.length cap, .string (S path), .bool kids, .bool once]) (by simp) 5 _ rfl; have q6 : w4.cell? ⟨W.heap.size, 6, none⟩ = some (.bool kids) := S4.cell_of (t := 25) (cs := #[.int .i64 kind, .int .i64 session, .int .i64 req, .int .i64 noted, .slice A ops.length cap, .string (S path), .bool kids, .bool once]) (by simp) 6 _ rfl; have q7 : w4.cell? ⟨W.heap.size, 7, none⟩ = some (.bool once) := S4.cell_of (t := 25) (cs := #[.int .i64 kind, .int .i64 session, .int .i64 req, .int .i64 noted, .slice A ops.length cap, .string (S path), .bool kids, .bool once]) (by simp) 7 _ rfl)
        | (go_at_call 16; refine (rule_of _ ⟨kind, session, req, noted, ops, path, kids, once⟩ A cap (HSRC.out (show Sat W _ [cellsA W.heap.size 25 #[.int .i64 kind, .int .i64 session, .int .i64 req, .int .i64 noted, .slice A ops.length cap, .string (S path), .bool kids, .bool once], oldA W] by (repeat (first | refine Sat.drew ?_ | refine Sat.drewN ?_ _)); exact S4) (by simp)) HOK.out HR.out).mono ?_; rintro e w5 ⟨rfl, hk5⟩; have S5 : Sat W w5 [cellsA W.heap.size 25 #[.int .i64 kind, .int .i64 session, .int .i64 req, .int .i64 noted, .slice A ops.length cap, .string (S path), .bool kids, .bool once], oldA W] := Sat.keep (by (repeat (first | refine Sat.drew ?_ | refine Sat.drewN ?_ _)); exact S4) hk5; clear hk5; have q0 : w5.cell? ⟨W.heap.size, 0, none⟩ = some (.int .i64 kind) := S5.cell_of (t := 25) (cs := #[.int .i64 kind, .int .i64 session, .int .i64 req, .int .i64 noted, .slice A ops.length cap, .string (S path), .bool kids, .bool once]) (by simp) 0 _ rfl; have q1 : w5.cell? ⟨W.heap.size, 1, none⟩ = some (.int .i64 session) := S5.cell_of (t := 25) (cs := #[.int .i64 kind, .int .i64 session, .int .i64 req, .int .i64 noted, .slice A ops.length cap, .string (S path), .bool kids, .bool once]) (by simp) 1 _ rfl; have q2 : w5.cell? ⟨W.heap.size, 2, none⟩ = some (.int .i64 req) := S5.cell_of (t := 25) (cs := #[.int .i64 kind, .int .i64 session, .int .i64 req, .int .i64 noted, .slice A ops.length cap, .string (S path), .bool kids, .bool once]) (by simp) 2 _ rfl; have q3 : w5.cell? ⟨W.heap.size, 3, none⟩ = some (.int .i64 noted) := S5.cell_of (t := 25) (cs := #[.int .i64 kind, .int .i64 session, .int .i64 req, .int .i64 noted, .slice A ops.length cap, .string (S path), .bool kids, .bool once]) (by simp) 3 _ rfl; have q4 : w5.cell? ⟨W.heap.size, 4, none⟩ = some (.slice A ops.length cap) := S5.cell_of (t := 25) (cs := #[.int .i64 kind, .int .i64 session, .int .i64 req, .int .i64 noted, .slice A ops.length cap, .string (S path), .bool kids, .bool once]) (by simp) 4 _ rfl; have q5 : w5.cell? ⟨W.heap.size, 5, none⟩ = some (.string (S path)) := S5.cell_of (t := 25) (cs := #[.int .i64 kind, .int .i64 session, .int .i64 req, .int .i64 noted, .slice A ops.length cap, .string (S path), .bool kids, .bool once]) (by simp) 5 _ rfl; have q6 : w5.cell? ⟨W.heap.size, 6, none⟩ = some (.bool kids) := S5.cell_of (t := 25) (cs := #[.int .i64 kind, .int .i64 session, .int .i64 req, .int .i64 noted, .slice A ops.length cap, .string (S path), .bool kids, .bool once]) (by simp) 6 _ rfl; have q7 : w5.cell? ⟨W.heap.size, 7, none⟩ = some (.bool once) := S5.cell_of (t := 25) (cs := #[.int .i64 kind, .int .i64 session, .int .i64 req, .int .i64 noted, .slice A ops.length cap, .string (S path), .bool kids, .bool once]) (by simp) 7 _ rfl))
      all_goals
        go_wp2_with fail
        refine (rule_of _ ⟨kind, session, req, noted, ops, path, kids, once⟩ A cap (HSRC.out S5 (by simp)) HOK.out HR.out).mono ?_
        rintro e w7 ⟨rfl, hk⟩
        have S7 := S5.keep hk
        clear hk
        go_wp2_with fail
        go_ret
        exact ⟨rfl, S7.p1.keeps⟩
    · obtain ⟨k1, k2, k3, k4, k5, k6⟩ := cmdR_of HR.out
      simp only at k1 k2 k4 k5 k6
      have K5 := hide k5
      clear k3 k5
      go_upto_region 6 with fail
      go_region_held3 (fun w' => w'.cell? ⟨W.heap.size, 0, none⟩ = some (.int .i64 kind) ∧ w'.cell? ⟨W.heap.size, 1, none⟩ = some (.int .i64 session) ∧ w'.cell? ⟨W.heap.size, 2, none⟩ = some (.int .i64 req) ∧ w'.cell? ⟨W.heap.size, 3, none⟩ = some (.int .i64 noted) ∧ w'.cell? ⟨W.heap.size, 4, none⟩ = some (.slice A ops.length cap) ∧ w'.cell? ⟨W.heap.size, 5, none⟩ = some (.string (S path)) ∧ w'.cell? ⟨W.heap.size, 6, none⟩ = some (.bool kids) ∧ w'.cell? ⟨W.heap.size, 7, none⟩ = some (.bool once)) (go_keep) (first
        | (go_at_call 15; refine (right_of _ ⟨kind, session, req, noted, ops, path, kids, once⟩ A cap (HSRC.out (show Sat W _ [cellsA W.heap.size 25 #[.int .i64 kind, .int .i64 session, .int .i64 req, .int .i64 noted, .slice A ops.length cap, .string (S path), .bool kids, .bool once], oldA W] by (repeat (first | refine Sat.drew ?_ | refine Sat.drewN ?_ _)); exact S2) (by simp)) HOK.out HR.out).mono ?_; rintro e w4 ⟨rfl, hk4⟩; have S4 : Sat W w4 [cellsA W.heap.size 25 #[.int .i64 kind, .int .i64 session, .int .i64 req, .int .i64 noted, .slice A ops.length cap, .string (S path), .bool kids, .bool once], oldA W] := Sat.keep (by (repeat (first | refine Sat.drew ?_ | refine Sat.drewN ?_ _)); exact S2) hk4; clear hk4; have q0 : w4.cell? ⟨W.heap.size, 0, none⟩ = some (.int .i64 kind) := S4.cell_of (t := 25) (cs := #[.int .i64 kind, .int .i64 session, .int .i64 req, .int .i64 noted, .slice A ops.length cap, .string (S path), .bool kids, .bool once]) (by simp) 0 _ rfl; have q1 : w4.cell? ⟨W.heap.size, 1, none⟩ = some (.int .i64 session) := S4.cell_of (t := 25) (cs := #[.int .i64 kind, .int .i64 session, .int .i64 req, .int .i64 noted, .slice A ops.length cap, .string (S path), .bool kids, .bool once]) (by simp) 1 _ rfl; have q2 : w4.cell? ⟨W.heap.size, 2, none⟩ = some (.int .i64 req) := S4.cell_of (t := 25) (cs := #[.int .i64 kind, .int .i64 session, .int .i64 req, .int .i64 noted, .slice A ops.length cap, .string (S path), .bool kids, .bool once]) (by simp) 2 _ rfl; have q3 : w4.cell? ⟨W.heap.size, 3, none⟩ = some (.int .i64 noted) := S4.cell_of (t := 25) (cs := #[.int .i64 kind, .int .i64 session, .int .i64 req, .int .i64 noted, .slice A ops.length cap, .string (S path), .bool kids, .bool once]) (by simp) 3 _ rfl; have q4 : w4.cell? ⟨W.heap.size, 4, none⟩ = some (.slice A ops.length cap) := S4.cell_of (t := 25) (cs := #[.int .i64 kind, .int .i64 session, .int .i64 req, .int .i64 noted, .slice A ops.length cap, .string (S path), .bool kids, .bool once]) (by simp) 4 _ rfl; have q5 : w4.cell? ⟨W.heap.size, 5, none⟩ = some (.string (S path)) := S4.cell_of (t := 25) (cs := #[.int .i64 kind, .int .i64 session, .int .i64 req, .int .i64 noted, .slice A ops.length cap, .string (S path), .bool kids, .bool once]) (by simp) 5 _ rfl; have q6 : w4.cell? ⟨W.heap.size, 6, none⟩ = some (.bool kids) := S4.cell_of (t := 25) (cs := #[.int .i64 kind, .int .i64 session, .int .i64 req, .int .i64 noted, .slice A ops.length cap, .string (S path), .bool kids, .bool once]) (by simp) 6 _ rfl; have q7 : w4.cell? ⟨W.heap.size, 7, none⟩ = some (.bool once) := S4.cell_of (t := 25) (cs := #[.int .i64 kind, .int .i64 session, .int .i64 req, .int .i64 noted, .slice A ops.length cap, .string (S path), .bool kids, .bool once]) (by simp) 7 _ rfl)
        | (go_at_call 16; refine (rule_of _ ⟨kind, session, req, noted, ops, path, kids, once⟩ A cap (HSRC.out (show Sat W _ [cellsA W.heap.size 25 #[.int .i64 kind, .int .i64 session, .int .i64 req, .int .i64 noted, .slice A ops.length cap, .string (S path), .bool kids, .bool once], oldA W] by (repeat (first | refine Sat.drew ?_ | refine Sat.drewN ?_ _)); exact S4) (by simp)) HOK.out HR.out).mono ?_; rintro e w5 ⟨rfl, hk5⟩; have S5 : Sat W w5 [cellsA W.heap.size 25 #[.int .i64 kind, .int .i64 session, .int .i64 req, .int .i64 noted, .slice A ops.length cap, .string (S path), .bool kids, .bool once], oldA W] := Sat.keep (by (repeat (first | refine Sat.drew ?_ | refine Sat.drewN ?_ _)); exact S4) hk5; clear hk5; have q0 : w5.cell? ⟨W.heap.size, 0, none⟩ = some (.int .i64 kind) := S5.cell_of (t := 25) (cs := #[.int .i64 kind, .int .i64 session, .int .i64 req, .int .i64 noted, .slice A ops.length cap, .string (S path), .bool kids, .bool once]) (by simp) 0 _ rfl; have q1 : w5.cell? ⟨W.heap.size, 1, none⟩ = some (.int .i64 session) := S5.cell_of (t := 25) (cs := #[.int .i64 kind, .int .i64 session, .int .i64 req, .int .i64 noted, .slice A ops.length cap, .string (S path), .bool kids, .bool once]) (by simp) 1 _ rfl; have q2 : w5.cell? ⟨W.heap.size, 2, none⟩ = some (.int .i64 req) := S5.cell_of (t := 25) (cs := #[.int .i64 kind, .int .i64 session, .int .i64 req, .int .i64 noted, .slice A ops.length cap, .string (S path), .bool kids, .bool once]) (by simp) 2 _ rfl; have q3 : w5.cell? ⟨W.heap.size, 3, none⟩ = some (.int .i64 noted) := S5.cell_of (t := 25) (cs := #[.int .i64 kind, .int .i64 session, .int .i64 req, .int .i64 noted, .slice A ops.length cap, .string (S path), .bool kids, .bool once]) (by simp) 3 _ rfl; have q4 : w5.cell? ⟨W.heap.size, 4, none⟩ = some (.slice A ops.length cap) := S5.cell_of (t := 25) (cs := #[.int .i64 kind, .int .i64 session, .int .i64 req, .int .i64 noted, .slice A ops.length cap, .string (S path), .bool kids, .bool once]) (by simp) 4 _ rfl; have q5 : w5.cell? ⟨W.heap.size, 5, none⟩ = some (.string (S path)) := S5.cell_of (t := 25) (cs := #[.int .i64 kind, .int .i64 session, .int .i64 req, .int .i64 noted, .slice A ops.length cap, .string (S path), .bool kids, .bool once]) (by simp) 5 _ rfl; have q6 : w5.cell? ⟨W.heap.size, 6, none⟩ = some (.bool kids) := S5.cell_of (t := 25) (cs := #[.int .i64 kind, .int .i64 session, .int .i64 req, .int .i64 noted, .slice A ops.length cap, .string (S path), .bool kids, .bool once]) (by simp) 6 _ rfl; have q7 : w5.cell? ⟨W.heap.size, 7, none⟩ = some (.bool once) := S5.cell_of (t := 25) (cs := #[.int .i64 kind, .int .i64 session, .int .i64 req, .int .i64 noted, .slice A ops.length cap, .string (S path), .bool kids, .bool once]) (by simp) 7 _ rfl))
      all_goals
        go_wp2_with fail
        refine (rule_of _ ⟨kind, session, req, noted, ops, path, kids, once⟩ A cap (HSRC.out S5 (by simp)) HOK.out HR.out).mono ?_
        rintro e w7 ⟨rfl, hk⟩
        have S7 := S5.keep hk
        clear hk q0 q1 q2 q3 q4 q5 q6 q7
        have q0 : w7.cell? ⟨W.heap.size, 0, none⟩ = some (.int .i64 kind) := S7.cell_of (t := 25) (cs := #[.int .i64 kind, .int .i64 session, .int .i64 req, .int .i64 noted, .slice A ops.length cap, .string (S path), .bool kids, .bool once]) (by simp) 0 _ rfl
        have q1 : w7.cell? ⟨W.heap.size, 1, none⟩ = some (.int .i64 session) := S7.cell_of (t := 25) (cs := #[.int .i64 kind, .int .i64 session, .int .i64 req, .int .i64 noted, .slice A ops.length cap, .string (S path), .bool kids, .bool once]) (by simp) 1 _ rfl
        have q2 : w7.cell? ⟨W.heap.size, 2, none⟩ = some (.int .i64 req) := S7.cell_of (t := 25) (cs := #[.int .i64 kind, .int .i64 session, .int .i64 req, .int .i64 noted, .slice A ops.length cap, .string (S path), .bool kids, .bool once]) (by simp) 2 _ rfl
        have q3 : w7.cell? ⟨W.heap.size, 3, none⟩ = some (.int .i64 noted) := S7.cell_of (t := 25) (cs := #[.int .i64 kind, .int .i64 session, .int .i64 req, .int .i64 noted, .slice A ops.length cap, .string (S path), .bool kids, .bool once]) (by simp) 3 _ rfl
        have q4 : w7.cell? ⟨W.heap.size, 4, none⟩ = some (.slice A ops.length cap) := S7.cell_of (t := 25) (cs := #[.int .i64 kind, .int .i64 session, .int .i64 req, .int .i64 noted, .slice A ops.length cap, .string (S path), .bool kids, .bool once]) (by simp) 4 _ rfl
        have q5 : w7.cell? ⟨W.heap.size, 5, none⟩ = some (.string (S path)) := S7.cell_of (t := 25) (cs := #[.int .i64 kind, .int .i64 session, .int .i64 req, .int .i64 noted, .slice A ops.length cap, .string (S path), .bool kids, .bool once]) (by simp) 5 _ rfl
        have q6 : w7.cell? ⟨W.heap.size, 6, none⟩ = some (.bool kids) := S7.cell_of (t := 25) (cs := #[.int .i64 kind, .int .i64 session, .int .i64 req, .int .i64 noted, .slice A ops.length cap, .string (S path), .bool kids, .bool once]) (by simp) 6 _ rfl
        have q7 : w7.cell? ⟨W.heap.size, 7, none⟩ = some (.bool once) := S7.cell_of (t := 25) (cs := #[.int .i64 kind, .int .i64 session, .int .i64 req, .int .i64 noted, .slice A ops.length cap, .string (S path), .bool kids, .bool once]) (by simp) 7 _ rfl
        go_wp2_with fail
        refine (s_num [kind, session, req, noted, (ops.length : Int)] ((S7.bytesNil).box _ _ rfl) rfl (by simp) (by simp)).mono ?_
        rintro e w8 ⟨v8, rfl, S8⟩
        rw [List.nil_append] at S8
        clear q0 q1 q2 q3 q4 q5 q6 q7
        have q0 : w8.cell? ⟨W.heap.size, 0, none⟩ = some (.int .i64 kind) := S8.cell_of (t := 25) (cs := #[.int .i64 kind, .int .i64 session, .int .i64 req, .int .i64 noted, .slice A ops.length cap, .string (S path), .bool kids, .bool once]) (by simp) 0 _ rfl
        have q1 : w8.cell? ⟨W.heap.size, 1, none⟩ = some (.int .i64 session) := S8.cell_of (t := 25) (cs := #[.int .i64 kind, .int .i64 session, .int .i64 req, .int .i64 noted, .slice A ops.length cap, .string (S path), .bool kids, .bool once]) (by simp) 1 _ rfl
        have q2 : w8.cell? ⟨W.heap.size, 2, none⟩ = some (.int .i64 req) := S8.cell_of (t := 25) (cs := #[.int .i64 kind, .int .i64 session, .int .i64 req, .int .i64 noted, .slice A ops.length cap, .string (S path), .bool kids, .bool once]) (by simp) 2 _ rfl
        have q3 : w8.cell? ⟨W.heap.size, 3, none⟩ = some (.int .i64 noted) := S8.cell_of (t := 25) (cs := #[.int .i64 kind, .int .i64 session, .int .i64 req, .int .i64 noted, .slice A ops.length cap, .string (S path), .bool kids, .bool once]) (by simp) 3 _ rfl
        have q4 : w8.cell? ⟨W.heap.size, 4, none⟩ = some (.slice A ops.length cap) := S8.cell_of (t := 25) (cs := #[.int .i64 kind, .int .i64 session, .int .i64 req, .int .i64 noted, .slice A ops.length cap, .string (S path), .bool kids, .bool once]) (by simp) 4 _ rfl
        have q5 : w8.cell? ⟨W.heap.size, 5, none⟩ = some (.string (S path)) := S8.cell_of (t := 25) (cs := #[.int .i64 kind, .int .i64 session, .int .i64 req, .int .i64 noted, .slice A ops.length cap, .string (S path), .bool kids, .bool once]) (by simp) 5 _ rfl
        have q6 : w8.cell? ⟨W.heap.size, 6, none⟩ = some (.bool kids) := S8.cell_of (t := 25) (cs := #[.int .i64 kind, .int .i64 session, .int .i64 req, .int .i64 noted, .slice A ops.length cap, .string (S path), .bool kids, .bool once]) (by simp) 6 _ rfl
        have q7 : w8.cell? ⟨W.heap.size, 7, none⟩ = some (.bool once) := S8.cell_of (t := 25) (cs := #[.int .i64 kind, .int .i64 session, .int .i64 req, .int .i64 noted, .slice A ops.length cap, .string (S path), .bool kids, .bool once]) (by simp) 7 _ rfl
        have HE : Hid (cmdB ⟨kind, session, req, noted, ops, path, kids, once⟩ = nums [kind, session, req, noted, (ops.length : Int)] ++ ops.flatMap opB ++ txts [path] ++ flags [kids, once]) := rfl
        generalize hN : nums [kind, session, req, noted, (ops.length : Int)] = N at *
        have hNl : N.length = 30 := by rw [← hN]; rfl
        have HN := hide hN
        clear hN
        go_wp2_with fail
        clear q0 q1 q2 q3 q4 q5 q6 q7
        go_loopw [7, 8, 55] (fun b t i wr => ∃ k : Nat, k ≤ ops.length ∧ i = .int .i64 k ∧ t = .bool ((ops.take k).all touchF) ∧ Sat W wr [bytesA b (N ++ (ops.take k).flatMap opB), cellsA W.heap.size 25 #[.int .i64 kind, .int .i64 session, .int .i64 req, .int .i64 noted, .slice A ops.length cap, .string (S path), .bool kids, .bool once], oldA W]) (fun _ _ i _ => ops.length - (RowKit.intOf i).toNat)
        case atStart => exact ⟨0, by omega, rfl, rfl, by simpa using S8⟩
        case round =>
          obtain ⟨k, hk, rfl, rfl, S9⟩ := hrel
          have hle := ops_length (ops.take k) (fun o ho => K5.out o (List.mem_of_mem_take ho))
          have hle2 : (ops.take k).length ≤ 4 := by simp; omega
          have hln : (N ++ (ops.take k).flatMap opB).length ≤ 1000 := by rw [List.length_append]; omega
          clear hle hle2
          by_cases hlt : k < ops.length
          · obtain ⟨ad, o, rfl, hx, c0, c1, c2, c3, c4, c5⟩ := ops_at (HSRC.out S9 (by simp)) hlt
            have hoR := K5.out o (List.mem_of_getElem? hx)
            obtain ⟨r1, r2, r3, r4, r5, r6⟩ := opR_of hoR
            have HT := hide (ops_take ops k o hx)
            have hth : (ops.take (k + 1)).all touchF = ((ops.take k).all touchF && decide (checkF o.path = 0)) := by
              obtain ⟨hk', rfl⟩ := List.getElem?_eq_some_iff.1 hx
              rw [List.take_succ_eq_append_getElem hk', List.all_append]
              simp [touchF]
            have HTH := hide hth
            clear hx hoR hth
            obtain ⟨does, opath, odata, over, oser, oown⟩ := o
            simp only at c0 c1 c2 c3 c4 c5 r1 r2 r3 r4 r5 r6
            generalize (ops.take k).flatMap opB = L at *
            have ht1 := txts_le [opath]
            have ht1 : (txts [opath]).length ≤ 65537 := ht1
            have ht2 := txts_le [odata]
            have ht2 : (txts [odata]).length ≤ 65537 := ht2
            go_wp2_with fail
            refine (s_num [does, over + 1] (((S9.box #[.int .i64 does, .string (S opath), .string (S odata), .int .i64 over, .bool oser, .bool oown] 35 rfl).p1).box _ _ (by simp)) rfl (by omega) (by simp)).mono ?_
            rintro e w10 ⟨v10, rfl, S10⟩
            have p1 : w10.cell? ⟨wr.heap.size, 1, none⟩ = some (.string (S opath)) := S10.cell_of (t := 35) (cs := #[.int .i64 does, .string (S opath), .string (S odata), .int .i64 over, .bool oser, .bool oown]) (by simp) 1 _ rfl
            have p2 : w10.cell? ⟨wr.heap.size, 2, none⟩ = some (.string (S odata)) := S10.cell_of (t := 35) (cs := #[.int .i64 does, .string (S opath), .string (S odata), .int .i64 over, .bool oser, .bool oown]) (by simp) 2 _ rfl
            have p4 : w10.cell? ⟨wr.heap.size, 4, none⟩ = some (.bool oser) := S10.cell_of (t := 35) (cs := #[.int .i64 does, .string (S opath), .string (S odata), .int .i64 over, .bool oser, .bool oown]) (by simp) 4 _ rfl
            have p5 : w10.cell? ⟨wr.heap.size, 5, none⟩ = some (.bool oown) := S10.cell_of (t := 35) (cs := #[.int .i64 does, .string (S opath), .string (S odata), .int .i64 over, .bool oser, .bool oown]) (by simp) 5 _ rfl
            have hl11 : (N ++ L ++ nums [does, over + 1]).length ≤ 1012 := by
              have : (nums [does, over + 1]).length = 12 := rfl
              rw [List.length_append, this]; omega
            generalize hB1 : nums [does, over + 1] = B1 at *
            have HB1 := hide hB1
            clear hB1
            go_wp2_with fail
            refine (s_text [opath] (S10.box _ _ rfl) rfl (by omega) (by simp)).mono ?_
            rintro e w11 ⟨v11, rfl, S11⟩
            have p1 : w11.cell? ⟨wr.heap.size, 1, none⟩ = some (.string (S opath)) := S11.cell_of (t := 35) (cs := #[.int .i64 does, .string (S opath), .string (S odata), .int .i64 over, .bool oser, .bool oown]) (by simp) 1 _ rfl
            have p2 : w11.cell? ⟨wr.heap.size, 2, none⟩ = some (.string (S odata)) := S11.cell_of (t := 35) (cs := #[.int .i64 does, .string (S opath), .string (S odata), .int .i64 over, .bool oser, .bool oown]) (by simp) 2 _ rfl
            have p4 : w11.cell? ⟨wr.heap.size, 4, none⟩ = some (.bool oser) := S11.cell_of (t := 35) (cs := #[.int .i64 does, .string (S opath), .string (S odata), .int .i64 over, .bool oser, .bool oown]) (by simp) 4 _ rfl
            have p5 : w11.cell? ⟨wr.heap.size, 5, none⟩ = some (.bool oown) := S11.cell_of (t := 35) (cs := #[.int .i64 does, .string (S opath), .string (S odata), .int .i64 over, .bool oser, .bool oown]) (by simp) 5 _ rfl
            have hl12 : (N ++ L ++ B1 ++ txts [opath]).length ≤ 70000 := by rw [List.length_append]; omega
            go_wp2_with fail
            refine (s_text [odata] (S11.box _ _ rfl) rfl (by omega) (by simp)).mono ?_
            rintro e w12 ⟨v12, rfl, S12⟩
            have p1 : w12.cell? ⟨wr.heap.size, 1, none⟩ = some (.string (S opath)) := S12.cell_of (t := 35) (cs := #[.int .i64 does, .string (S opath), .string (S odata), .int .i64 over, .bool oser, .bool oown]) (by simp) 1 _ rfl
            have p2 : w12.cell? ⟨wr.heap.size, 2, none⟩ = some (.string (S odata)) := S12.cell_of (t := 35) (cs := #[.int .i64 does, .string (S opath), .string (S odata), .int .i64 over, .bool oser, .bool oown]) (by simp) 2 _ rfl
            have p4 : w12.cell? ⟨wr.heap.size, 4, none⟩ = some (.bool oser) := S12.cell_of (t := 35) (cs := #[.int .i64 does, .string (S opath), .string (S odata), .int .i64 over, .bool oser, .bool oown]) (by simp) 4 _ rfl
            have p5 : w12.cell? ⟨wr.heap.size, 5, none⟩ = some (.bool oown) := S12.cell_of (t := 35) (cs := #[.int .i64 does, .string (S opath), .string (S odata), .int .i64 over, .bool oser, .bool oown]) (by simp) 5 _ rfl
            have hl13 : (N ++ L ++ B1 ++ txts [opath] ++ txts [odata]).length ≤ 150000 := by rw [List.length_append]; omega
            go_wp2_with fail
            refine (s_flag [oser] (S12.box _ _ rfl) rfl (by omega) (by simp)).mono ?_
            rintro e w13 ⟨v13, rfl, S13⟩
            have p1 : w13.cell? ⟨wr.heap.size, 1, none⟩ = some (.string (S opath)) := S13.cell_of (t := 35) (cs := #[.int .i64 does, .string (S opath), .string (S odata), .int .i64 over, .bool oser, .bool oown]) (by simp) 1 _ rfl
            have p2 : w13.cell? ⟨wr.heap.size, 2, none⟩ = some (.string (S odata)) := S13.cell_of (t := 35) (cs := #[.int .i64 does, .string (S opath), .string (S odata), .int .i64 over, .bool oser, .bool oown]) (by simp) 2 _ rfl
            have p4 : w13.cell? ⟨wr.heap.size, 4, none⟩ = some (.bool oser) := S13.cell_of (t := 35) (cs := #[.int .i64 does, .string (S opath), .string (S odata), .int .i64 over, .bool oser, .bool oown]) (by simp) 4 _ rfl
            have p5 : w13.cell? ⟨wr.heap.size, 5, none⟩ = some (.bool oown) := S13.cell_of (t := 35) (cs := #[.int .i64 does, .string (S opath), .string (S odata), .int .i64 over, .bool oser, .bool oown]) (by simp) 5 _ rfl
            have hl14 : (N ++ L ++ B1 ++ txts [opath] ++ txts [odata] ++ flags [oser]).length ≤ 150001 := by
              have : (flags [oser]).length = 1 := rfl
              rw [List.length_append, this]; omega
            go_wp2_with fail
            refine (s_flag [oown] (S13.box _ _ rfl) rfl (by omega) (by simp)).mono ?_
            rintro e w14 ⟨v14, rfl, S14⟩
            have p1 : w14.cell? ⟨wr.heap.size, 1, none⟩ = some (.string (S opath)) := S14.cell_of (t := 35) (cs := #[.int .i64 does, .string (S opath), .string (S odata), .int .i64 over, .bool oser, .bool oown]) (by simp) 1 _ rfl
            have p2 : w14.cell? ⟨wr.heap.size, 2, none⟩ = some (.string (S odata)) := S14.cell_of (t := 35) (cs := #[.int .i64 does, .string (S opath), .string (S odata), .int .i64 over, .bool oser, .bool oown]) (by simp) 2 _ rfl
            have p4 : w14.cell? ⟨wr.heap.size, 4, none⟩ = some (.bool oser) := S14.cell_of (t := 35) (cs := #[.int .i64 does, .string (S opath), .string (S odata), .int .i64 over, .bool oser, .bool oown]) (by simp) 4 _ rfl
            have p5 : w14.cell? ⟨wr.heap.size, 5, none⟩ = some (.bool oown) := S14.cell_of (t := 35) (cs := #[.int .i64 does, .string (S opath), .string (S odata), .int .i64 over, .bool oser, .bool oown]) (by simp) 5 _ rfl
            clear S10 S11 S12 S13 c0 c1 c2 c3 c4 c5 ht1 ht2 hl11 hl12 hl13 hl14
            generalize (ops.take k).all touchF = T at *
            cases T
            · have HT2 : Hid ((ops.take (k + 1)).all touchF = false) := by
                show _ = _
                rw [HTH.out]; rfl
              clear HTH
              go_wp2_with fail
              go_roundw
              case rel =>
                refine ⟨k + 1, by omega, by go_num, by rw [HT2.out], ?_⟩
                rw [HT.out]
                have hB1 := HB1.out
                subst hB1
                simp only [opB, nums, txts, flags, List.map_cons, List.map_nil, List.flatMap_cons, List.flatMap_nil, List.append_nil, List.append_assoc, List.cons_append, List.nil_append] at S14 ⊢
                exact S14.p1.drop
              case measure => simp [RowKit.intOf]; omega
            · go_wp2_with fail
              refine (check_eq _ opath (by omega) (HGL.out S14 (by simp)) rfl).mono ?_
              rintro e w15 ⟨rfl, hk15⟩
              have S15 := S14.keep hk15
              clear hk15
              generalize checkF opath = X at *
              go_wp2_with fail
              go_roundw
              case rel =>
                refine ⟨k + 1, by omega, by go_num, ?_, ?_⟩
                · rw [HTH.out]
                  refine congrArg Value.bool ?_
                  rw [Bool.eq_iff_iff]
                  simp
                · rw [HT.out]
                  have hB1 := HB1.out
                  subst hB1
                  simp only [opB, nums, txts, flags, List.map_cons, List.map_nil, List.flatMap_cons, List.flatMap_nil, List.append_nil, List.append_assoc, List.cons_append, List.nil_append] at S15 ⊢
                  exact S15.p1.drop
              case measure => simp [RowKit.intOf]; omega
          · obtain rfl : k = ops.length := by omega
            rw [List.take_length] at S9 hln
            rw [List.take_length]
            have HU := hide (untouched_eq ops)
            generalize ops.all touchF = T at *
            have ht1 := txts_le [path]
            have ht1 : (txts [path]).length ≤ 65537 := ht1
            have hln2 : (N ++ ops.flatMap opB ++ txts [path]).length ≤ 70000 := by rw [List.length_append]; omega
            have hCB := cmdB_len ⟨kind, session, req, noted, ops, path, kids, once⟩ HR.out
            generalize hFM : ops.flatMap opB = L at *
            have HFM := hide hFM
            clear hFM
            generalize hCBe : cmdB ⟨kind, session, req, noted, ops, path, kids, once⟩ = CB at *
            have HCB := hide hCBe
            clear hCBe
            have q5 : wr.cell? ⟨W.heap.size, 5, none⟩ = some (.string (S path)) := S9.cell_of (t := 25) (cs := #[.int .i64 kind, .int .i64 session, .int .i64 req, .int .i64 noted, .slice A ops.length cap, .string (S path), .bool kids, .bool once]) (by simp) 5 _ rfl
            have q6 : wr.cell? ⟨W.heap.size, 6, none⟩ = some (.bool kids) := S9.cell_of (t := 25) (cs := #[.int .i64 kind, .int .i64 session, .int .i64 req, .int .i64 noted, .slice A ops.length cap, .string (S path), .bool kids, .bool once]) (by simp) 6 _ rfl
            have q7 : wr.cell? ⟨W.heap.size, 7, none⟩ = some (.bool once) := S9.cell_of (t := 25) (cs := #[.int .i64 kind, .int .i64 session, .int .i64 req, .int .i64 noted, .slice A ops.length cap, .string (S path), .bool kids, .bool once]) (by simp) 7 _ rfl
            go_upto_region 22 with fail
            go_region_held3 (fun w' => w'.cell? ⟨W.heap.size, 5, none⟩ = some (.string (S path)) ∧ w'.cell? ⟨W.heap.size, 6, none⟩ = some (.bool kids) ∧ w'.cell? ⟨W.heap.size, 7, none⟩ = some (.bool once)) (go_keep) (first
              | (go_at_call 18; refine (s_text [path] (g := W) (l := N ++ L) (by (repeat (first | refine Sat.drew ?_ | refine Sat.drewN ?_ _)); first | exact S9.box _ _ rfl | exact ((S9.box _ _ rfl).box _ _ (b := wr.heap.size + 1) (by simp)).b2 | exact ((S9.box _ _ rfl).p1).box _ _ (by simp)) rfl (by omega) (by simp)).mono ?_; rintro e w4 ⟨v4, rfl, S4⟩; have q5 : w4.cell? ⟨W.heap.size, 5, none⟩ = some (.string (S path)) := S4.cell_of (t := 25) (cs := #[.int .i64 kind, .int .i64 session, .int .i64 req, .int .i64 noted, .slice A ops.length cap, .string (S path), .bool kids, .bool once]) (by simp) 5 _ rfl; have q6 : w4.cell? ⟨W.heap.size, 6, none⟩ = some (.bool kids) := S4.cell_of (t := 25) (cs := #[.int .i64 kind, .int .i64 session, .int .i64 req, .int .i64 noted, .slice A ops.length cap, .string (S path), .bool kids, .bool once]) (by simp) 6 _ rfl; have q7 : w4.cell? ⟨W.heap.size, 7, none⟩ = some (.bool once) := S4.cell_of (t := 25) (cs := #[.int .i64 kind, .int .i64 session, .int .i64 req, .int .i64 noted, .slice A ops.length cap, .string (S path), .bool kids, .bool once]) (by simp) 7 _ rfl)
              | (go_at_call 19; refine (s_flag [kids, once] (g := W) (l := N ++ L ++ txts [path]) (by (repeat (first | refine Sat.drew ?_ | refine Sat.drewN ?_ _)); first | exact S4.box _ _ rfl | exact S4.p1) rfl (by omega) (by simp)).mono ?_; rintro e w5 ⟨v5, rfl, S5⟩; have q5 : w5.cell? ⟨W.heap.size, 5, none⟩ = some (.string (S path)) := S5.cell_of (t := 25) (cs := #[.int .i64 kind, .int .i64 session, .int .i64 req, .int .i64 noted, .slice A ops.length cap, .string (S path), .bool kids, .bool once]) (by simp) 5 _ rfl; have q6 : w5.cell? ⟨W.heap.size, 6, none⟩ = some (.bool kids) := S5.cell_of (t := 25) (cs := #[.int .i64 kind, .int .i64 session, .int .i64 req, .int .i64 noted, .slice A ops.length cap, .string (S path), .bool kids, .bool once]) (by simp) 6 _ rfl; have q7 : w5.cell? ⟨W.heap.size, 7, none⟩ = some (.bool once) := S5.cell_of (t := 25) (cs := #[.int .i64 kind, .int .i64 session, .int .i64 req, .int .i64 noted, .slice A ops.length cap, .string (S path), .bool kids, .bool once]) (by simp) 7 _ rfl))
            all_goals
              rw [← HE.out] at S5
              clear q5 q6 q7
              obtain ⟨A5, cap5, hv, hcap, hmax, hsrc5⟩ := S5.rowB.form
              subst hv
              have hCB2 : CB.length ≤ 9223372036854775807 := by unfold maxLen at hmax; omega
              by_cases hbig : 488 < CB.length
              · have hsx : s = [] ∧ x = 3 := by
                  have := HB.out
                  unfold bytesF at this
                  rw [HR.out, HCB.out, if_neg (by simp), if_pos hbig] at this
                  simpa [eq_comm] using this
                obtain ⟨rfl, rfl⟩ := hsx
                go_wp2_with fail
                go_ret
                exact ⟨rfl, S5.p2.keeps⟩
              · have hsx : CB = s ∧ x = 0 := by
                  have := HB.out
                  unfold bytesF at this
                  rw [HR.out, HCB.out, if_neg (by simp), if_neg hbig] at this
                  simpa [eq_comm] using this
                obtain ⟨rfl, rfl⟩ := hsx
                have hK : 0 ≤ bits .and .i64 cut 65535 ∧ bits .and .i64 cut 65535 ≤ 65535 := and_le cut 65535 (by decide)
                have hK1 := hK.1
                obtain ⟨r, hr⟩ : ∃ r : Nat, (bits .and .i64 cut 65535).tmod (CB.length : Int) = (r : Int) := ⟨(bits .and .i64 cut 65535 % (CB.length : Int)).toNat, by
                  rw [Int.tmod_eq_emod_of_nonneg hK.1]
                  have := Int.emod_nonneg (bits .and .i64 cut 65535) (b := (CB.length : Int)) (by omega)
                  omega⟩
                have hr2 : r < CB.length := by
                  have := Int.emod_lt_of_pos (bits .and .i64 cut 65535) (b := (CB.length : Int)) (by omega)
                  rw [← Int.tmod_eq_emod_of_nonneg hK.1, hr] at this
                  omega
                have hext : (S CB).extract 0 r = S (CB.take r) := by rw [S_extract]; rfl
                have hcbl : (CB.take r).length ≤ 9223372036854775807 := by have := List.length_take_le r CB; omega
                clear hsrc5
                go_wp2_with fail
                refine (read_eq _ CB hCB2 (readF_of HB.out)).mono ?_
                rintro e w6 ⟨B6, cb6, rfl, hq6, hk⟩
                have S6 := (S5.keep hk).box #[.int .i64 kind, .int .i64 session, .int .i64 req, .int .i64 noted, .slice B6 ops.length cb6, .string (S path), .bool kids, .bool once] 25 rfl
                have HQ6 := hide (hq6.keep ((Keeps.refl (fun _ => False) w6).alloc (.cells #[.int .i64 kind, .int .i64 session, .int .i64 req, .int .i64 noted, .slice B6 ops.length cb6, .string (S path), .bool kids, .bool once] 25)) (fun _ _ h => h))
                clear hk hq6
                go_wp2_with fail
                refine (read_none _ (CB.take r) hcbl (readF_cut HB.out r hr2)).mono ?_
                rintro e w7 ⟨B7, cb7, rfl, hk⟩
                have S7 := (S6.keep hk).box #[.int .i64 0, .int .i64 0, .int .i64 0, .int .i64 0, .slice B7 0 cb7, .string ⟨#[]⟩, .bool false, .bool false] 25 rfl
                have HQ7 := hide ((HQ6.out.keep hk (fun _ _ h => h)).keep ((Keeps.refl (fun _ => False) w7).alloc (.cells #[.int .i64 0, .int .i64 0, .int .i64 0, .int .i64 0, .slice B7 0 cb7, .string ⟨#[]⟩, .bool false, .bool false] 25)) (fun _ _ h => h))
                have ltb : w6.heap.size < w7.heap.size := by have := hk.size; simp at this; omega
                clear hk
                clear hr hK hK1 hext hcbl
                go_upto_region 27 with fail
                generalize (w7.alloc (.cells #[.int .i64 0, .int .i64 0, .int .i64 0, .int .i64 0, .slice B7 0 cb7, .string ⟨#[]⟩, .bool false, .bool false] 25)) = w8 at *
                generalize w7.heap.size = nb7 at *
                generalize w6.heap.size = nb6 at *
                obtain ⟨A9, cap9, hv9, _, _, hsrc9⟩ := S7.p2.rowB.form
                injection hv9 with h1 h2 h3
                subst h1 h3
                have hconv := run_ofBytes (P := Tryd.prog) (dst := 9) Tryd.underlying31 Tryd.underlying5 Tryd.underlying9 hsrc9 cap5
                clear hsrc9 h2
                have e9 : (T == T) = true := by simp
                have q0 : w8.cell? ⟨W.heap.size, 0, none⟩ = some (.int .i64 kind) := S7.cell_of (t := 25) (cs := #[.int .i64 kind, .int .i64 session, .int .i64 req, .int .i64 noted, .slice A ops.length cap, .string (S path), .bool kids, .bool once]) (by simp) 0 _ rfl
                have q1 : w8.cell? ⟨W.heap.size, 1, none⟩ = some (.int .i64 session) := S7.cell_of (t := 25) (cs := #[.int .i64 kind, .int .i64 session, .int .i64 req, .int .i64 noted, .slice A ops.length cap, .string (S path), .bool kids, .bool once]) (by simp) 1 _ rfl
                have q2 : w8.cell? ⟨W.heap.size, 2, none⟩ = some (.int .i64 req) := S7.cell_of (t := 25) (cs := #[.int .i64 kind, .int .i64 session, .int .i64 req, .int .i64 noted, .slice A ops.length cap, .string (S path), .bool kids, .bool once]) (by simp) 2 _ rfl
                have q3 : w8.cell? ⟨W.heap.size, 3, none⟩ = some (.int .i64 noted) := S7.cell_of (t := 25) (cs := #[.int .i64 kind, .int .i64 session, .int .i64 req, .int .i64 noted, .slice A ops.length cap, .string (S path), .bool kids, .bool once]) (by simp) 3 _ rfl
                have q4 : w8.cell? ⟨W.heap.size, 4, none⟩ = some (.slice A ops.length cap) := S7.cell_of (t := 25) (cs := #[.int .i64 kind, .int .i64 session, .int .i64 req, .int .i64 noted, .slice A ops.length cap, .string (S path), .bool kids, .bool once]) (by simp) 4 _ rfl
                have q5 : w8.cell? ⟨W.heap.size, 5, none⟩ = some (.string (S path)) := S7.cell_of (t := 25) (cs := #[.int .i64 kind, .int .i64 session, .int .i64 req, .int .i64 noted, .slice A ops.length cap, .string (S path), .bool kids, .bool once]) (by simp) 5 _ rfl
                have q6 : w8.cell? ⟨W.heap.size, 6, none⟩ = some (.bool kids) := S7.cell_of (t := 25) (cs := #[.int .i64 kind, .int .i64 session, .int .i64 req, .int .i64 noted, .slice A ops.length cap, .string (S path), .bool kids, .bool once]) (by simp) 6 _ rfl
                have q7 : w8.cell? ⟨W.heap.size, 7, none⟩ = some (.bool once) := S7.cell_of (t := 25) (cs := #[.int .i64 kind, .int .i64 session, .int .i64 req, .int .i64 noted, .slice A ops.length cap, .string (S path), .bool kids, .bool once]) (by simp) 7 _ rfl
                have d0 : w8.cell? ⟨nb6, 0, none⟩ = some (.int .i64 kind) := S7.cell_of (t := 25) (cs := #[.int .i64 kind, .int .i64 session, .int .i64 req, .int .i64 noted, .slice B6 ops.length cb6, .string (S path), .bool kids, .bool once]) (by simp) 0 _ rfl
                have d1 : w8.cell? ⟨nb6, 1, none⟩ = some (.int .i64 session) := S7.cell_of (t := 25) (cs := #[.int .i64 kind, .int .i64 session, .int .i64 req, .int .i64 noted, .slice B6 ops.length cb6, .string (S path), .bool kids, .bool once]) (by simp) 1 _ rfl
                have d2 : w8.cell? ⟨nb6, 2, none⟩ = some (.int .i64 req) := S7.cell_of (t := 25) (cs := #[.int .i64 kind, .int .i64 session, .int .i64 req, .int .i64 noted, .slice B6 ops.length cb6, .string (S path), .bool kids, .bool once]) (by simp) 2 _ rfl
                have d3 : w8.cell? ⟨nb6, 3, none⟩ = some (.int .i64 noted) := S7.cell_of (t := 25) (cs := #[.int .i64 kind, .int .i64 session, .int .i64 req, .int .i64 noted, .slice B6 ops.length cb6, .string (S path), .bool kids, .bool once]) (by simp) 3 _ rfl
                have d4 : w8.cell? ⟨nb6, 4, none⟩ = some (.slice B6 ops.length cb6) := S7.cell_of (t := 25) (cs := #[.int .i64 kind, .int .i64 session, .int .i64 req, .int .i64 noted, .slice B6 ops.length cb6, .string (S path), .bool kids, .bool once]) (by simp) 4 _ rfl
                have d5 : w8.cell? ⟨nb6, 5, none⟩ = some (.string (S path)) := S7.cell_of (t := 25) (cs := #[.int .i64 kind, .int .i64 session, .int .i64 req, .int .i64 noted, .slice B6 ops.length cb6, .string (S path), .bool kids, .bool once]) (by simp) 5 _ rfl
                have d6 : w8.cell? ⟨nb6, 6, none⟩ = some (.bool kids) := S7.cell_of (t := 25) (cs := #[.int .i64 kind, .int .i64 session, .int .i64 req, .int .i64 noted, .slice B6 ops.length cb6, .string (S path), .bool kids, .bool once]) (by simp) 6 _ rfl
                have d7 : w8.cell? ⟨nb6, 7, none⟩ = some (.bool once) := S7.cell_of (t := 25) (cs := #[.int .i64 kind, .int .i64 session, .int .i64 req, .int .i64 noted, .slice B6 ops.length cb6, .string (S path), .bool kids, .bool once]) (by simp) 7 _ rfl
                go_wp2_with fail
                refine (same_eq _ ⟨kind, session, req, noted, ops, path, kids, once⟩ ⟨kind, session, req, noted, ops, path, kids, once⟩ B6 A cb6 cap HQ7.out (HSRC.out S7 (by simp)) hl hl (decide_eq_true rfl)).mono ?_
                rintro e w9 ⟨rfl, hk⟩
                have S9 := S7.keep hk
                clear hk hconv q0 q1 q2 q3 q4 q5 q6 q7 d0 d1 d2 d3 d4 d5 d6 d7
                have q0 : w9.cell? ⟨W.heap.size, 0, none⟩ = some (.int .i64 kind) := S9.cell_of (t := 25) (cs := #[.int .i64 kind, .int .i64 session, .int .i64 req, .int .i64 noted, .slice A ops.length cap, .string (S path), .bool kids, .bool once]) (by simp) 0 _ rfl
                have q1 : w9.cell? ⟨W.heap.size, 1, none⟩ = some (.int .i64 session) := S9.cell_of (t := 25) (cs := #[.int .i64 kind, .int .i64 session, .int .i64 req, .int .i64 noted, .slice A ops.length cap, .string (S path), .bool kids, .bool once]) (by simp) 1 _ rfl
                have q2 : w9.cell? ⟨W.heap.size, 2, none⟩ = some (.int .i64 req) := S9.cell_of (t := 25) (cs := #[.int .i64 kind, .int .i64 session, .int .i64 req, .int .i64 noted, .slice A ops.length cap, .string (S path), .bool kids, .bool once]) (by simp) 2 _ rfl
                have q3 : w9.cell? ⟨W.heap.size, 3, none⟩ = some (.int .i64 noted) := S9.cell_of (t := 25) (cs := #[.int .i64 kind, .int .i64 session, .int .i64 req, .int .i64 noted, .slice A ops.length cap, .string (S path), .bool kids, .bool once]) (by simp) 3 _ rfl
                have q4 : w9.cell? ⟨W.heap.size, 4, none⟩ = some (.slice A ops.length cap) := S9.cell_of (t := 25) (cs := #[.int .i64 kind, .int .i64 session, .int .i64 req, .int .i64 noted, .slice A ops.length cap, .string (S path), .bool kids, .bool once]) (by simp) 4 _ rfl
                have q5 : w9.cell? ⟨W.heap.size, 5, none⟩ = some (.string (S path)) := S9.cell_of (t := 25) (cs := #[.int .i64 kind, .int .i64 session, .int .i64 req, .int .i64 noted, .slice A ops.length cap, .string (S path), .bool kids, .bool once]) (by simp) 5 _ rfl
                have q6 : w9.cell? ⟨W.heap.size, 6, none⟩ = some (.bool kids) := S9.cell_of (t := 25) (cs := #[.int .i64 kind, .int .i64 session, .int .i64 req, .int .i64 noted, .slice A ops.length cap, .string (S path), .bool kids, .bool once]) (by simp) 6 _ rfl
                have q7 : w9.cell? ⟨W.heap.size, 7, none⟩ = some (.bool once) := S9.cell_of (t := 25) (cs := #[.int .i64 kind, .int .i64 session, .int .i64 req, .int .i64 noted, .slice A ops.length cap, .string (S path), .bool kids, .bool once]) (by simp) 7 _ rfl
                go_wp2_with fail
                refine (touches_cmd _ ⟨kind, session, req, noted, ops, path, kids, once⟩ A cap (HSRC.out S9 (by simp)) HOK.out (HGL.out S9 (by simp)) HU.out).mono ?_
                rintro e w10 ⟨rfl, hk⟩
                have S10 := S9.keep hk
                clear hk q0 q1 q2 q3 q4 q5 q6 q7
                have n0 : w10.cell? ⟨nb7, 0, none⟩ = some (.int .i64 0) := S10.cell_of (t := 25) (cs := #[.int .i64 0, .int .i64 0, .int .i64 0, .int .i64 0, .slice B7 0 cb7, .string ⟨#[]⟩, .bool false, .bool false]) (by simp) 0 _ rfl
                have n1 : w10.cell? ⟨nb7, 1, none⟩ = some (.int .i64 0) := S10.cell_of (t := 25) (cs := #[.int .i64 0, .int .i64 0, .int .i64 0, .int .i64 0, .slice B7 0 cb7, .string ⟨#[]⟩, .bool false, .bool false]) (by simp) 1 _ rfl
                have n2 : w10.cell? ⟨nb7, 2, none⟩ = some (.int .i64 0) := S10.cell_of (t := 25) (cs := #[.int .i64 0, .int .i64 0, .int .i64 0, .int .i64 0, .slice B7 0 cb7, .string ⟨#[]⟩, .bool false, .bool false]) (by simp) 2 _ rfl
                have n3 : w10.cell? ⟨nb7, 3, none⟩ = some (.int .i64 0) := S10.cell_of (t := 25) (cs := #[.int .i64 0, .int .i64 0, .int .i64 0, .int .i64 0, .slice B7 0 cb7, .string ⟨#[]⟩, .bool false, .bool false]) (by simp) 3 _ rfl
                have n4 : w10.cell? ⟨nb7, 4, none⟩ = some (.slice B7 0 cb7) := S10.cell_of (t := 25) (cs := #[.int .i64 0, .int .i64 0, .int .i64 0, .int .i64 0, .slice B7 0 cb7, .string ⟨#[]⟩, .bool false, .bool false]) (by simp) 4 _ rfl
                have n5 : w10.cell? ⟨nb7, 5, none⟩ = some (.string ⟨#[]⟩) := S10.cell_of (t := 25) (cs := #[.int .i64 0, .int .i64 0, .int .i64 0, .int .i64 0, .slice B7 0 cb7, .string ⟨#[]⟩, .bool false, .bool false]) (by simp) 5 _ rfl
                have n6 : w10.cell? ⟨nb7, 6, none⟩ = some (.bool false) := S10.cell_of (t := 25) (cs := #[.int .i64 0, .int .i64 0, .int .i64 0, .int .i64 0, .slice B7 0 cb7, .string ⟨#[]⟩, .bool false, .bool false]) (by simp) 6 _ rfl
                have n7 : w10.cell? ⟨nb7, 7, none⟩ = some (.bool false) := S10.cell_of (t := 25) (cs := #[.int .i64 0, .int .i64 0, .int .i64 0, .int .i64 0, .slice B7 0 cb7, .string ⟨#[]⟩, .bool false, .bool false]) (by simp) 7 _ rfl
                go_wp2_with fail
                refine (same_eq _ noCmd noCmd B7 none cb7 0 (Src.nil _ _ _) (Src.nil _ _ _) (by decide) (by decide) (decide_eq_true rfl)).mono ?_
                rintro e w11 ⟨rfl, hk⟩
                have S11 := S10.keep hk
                clear hk
                go_wp2_with fail
                go_ret
                exact ⟨rfl, S11.p4.keeps⟩

end Go.Proofs.YtcnehacblodiaaaDoor
