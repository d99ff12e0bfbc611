/- Contracts of the package op, second part: a command: whether it may be. No condition. -/
import Derived.Test.YtcnehacblodiaaaDoorOps
set_option linter.unusedVariables false
namespace Go.Proofs.YtcnehacblodiaaaDoor
open Go.RowKit

structure CmdT where
  kind : Int
  session : Int
  req : Int
  noted : Int
  ops : List OpT
  path : List UInt8
  kids : Bool
  once : Bool
deriving DecidableEq
/-- a command as a value: its operations lie at A -/
abbrev cmdL (c : CmdT) (A : Option Addr) (cap : Nat) : List Value := [.int .i64 c.kind, .int .i64 c.session, .int .i64 c.req, .int .i64 c.noted, .slice A c.ops.length cap, .string (S c.path), .bool c.kids, .bool c.once]
abbrev cmdV (c : CmdT) (A : Option Addr) (cap : Nat) : Value := .agg #[.int .i64 c.kind, .int .i64 c.session, .int .i64 c.req, .int .i64 c.noted, .slice A c.ops.length cap, .string (S c.path), .bool c.kids, .bool c.once]
def CmdOk (c : CmdT) : Prop := c.path.length ≤ 9223372036854775807 ∧ c.ops.length ≤ 9223372036854775807 ∧ ∀ o ∈ c.ops, OpOk o

def numR (c : CmdT) : Bool := decide (0 ≤ c.session ∧ 0 ≤ c.req ∧ 0 ≤ c.noted ∧ c.session ≤ 281474976710655 ∧ c.req ≤ 281474976710655 ∧ c.noted ≤ 281474976710655)
def cmdR (c : CmdT) : Bool := decide (0 ≤ c.kind) && decide (c.kind ≤ 5) && numR c && decide (c.ops.length ≤ 4) && !wrongF c.ops && decide (c.path.length ≤ 60)

set_option maxRecDepth 100000 in
set_option maxHeartbeats 1000000 in
theorem right_cmd (w : World) (c : CmdT) (A : Option Addr) (cap : Nat) (h : OpSrc w A c.ops) (hok : CmdOk c) :
    Calls Tryd.prog 15 #[cmdV c A cap] w fun e w' => e = .returned (.bool (cmdR c)) ∧ Keeps (fun _ => False) w w' := by
  obtain ⟨kind, session, req, noted, ops, path, kids, once⟩ := c
  simp only at h hok ⊢
  obtain ⟨hp, hl, ho⟩ := hok
  simp only at hp hl ho
  have hw := fun w' (hk : Keeps (fun _ => False) w w') => has_wrong w' A cap ops (h.keep hk (fun _ _ h => h)) hl ho
  have HW := hide hw
  clear h ho hw
  obtain ⟨mn, hmn⟩ : ∃ m : Int, (if noted < (if req < session then req else session) then noted else if req < session then req else session) = m := ⟨_, rfl⟩
  obtain ⟨mx, hmx⟩ : ∃ m : Int, (if (if session < req then req else session) < noted then noted else if session < req then req else session) = m := ⟨_, rfl⟩
  have hN : numR ⟨kind, session, req, noted, ops, path, kids, once⟩ = (decide (0 ≤ mn) && decide (mx ≤ 281474976710655)) := by
    rw [Bool.eq_iff_iff]
    simp only [numR, decide_eq_true_eq, Bool.and_eq_true, ← hmn, ← hmx]
    by_cases q1 : req < session
    · have q2 : ¬ session < req := by omega
      simp only [q1, q2, if_true, if_false]
      by_cases q3 : noted < req <;> by_cases q4 : session < noted <;> simp only [q3, q4, if_true, if_false] <;> omega
    · simp only [q1, if_false]
      by_cases q2 : session < req <;> simp only [q2, if_true, if_false]
      · by_cases q3 : noted < session <;> by_cases q4 : req < noted <;> simp only [q3, q4, if_true, if_false] <;> omega
      · by_cases q3 : noted < session <;> by_cases q4 : session < noted <;> simp only [q3, q4, if_true, if_false] <;> omega
  have HN := hide hN
  clear hN
  cases hwr : wrongF ops
  all_goals
    have HWR := hide hwr
    rw [hwr] at HW
    clear hwr
    go_enter Tryd.func15, Tryd.ntmps15
    go_wp2_with (go_at_call 47; refine (HW.out _ ((Keeps.refl _ w).alloc _)).mono ?_; rintro e w1 ⟨rfl, hk1⟩; have q5 : w1.cell? ⟨w.heap.size, 5, none⟩ = some (.string (S path)) := (cell_of_row _ _ 5 _ _ _ (hk1.heap (heap_alloc_new w _) (fun h => h))))
    all_goals
      go_ret
      refine ⟨congrArg (fun b => Ending.returned (.bool b)) ?_, ?_⟩
      · rw [Bool.eq_iff_iff]
        simp [cmdR, HN.out, HWR.out]
        try omega
      · first | exact (Keeps.refl _ w).alloc _ | exact ((Keeps.refl _ w).alloc _).trans' hk1

end Go.Proofs.YtcnehacblodiaaaDoor
