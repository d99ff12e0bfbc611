/- What the walks of layer 13's statements use. No condition. -/
import Derived.Test.YtbfogieeiobpdaaGreatDoorStHead
set_option linter.unusedVariables false
set_option linter.unusedSimpArgs false
namespace Go.Proofs.YtbfogieeiobpdaaGreatDoor
open Go.RowKit

theorem s_made1 {g w : World} {L : List Asn} (S0 : Sat g w L) (ss rq : Int) (A : Option Addr) (cap : Nat) :
    Calls Tryz.prog 25 #[.int .i64 ss, .int .i64 rq, .slice A 1 cap] w fun e w' => e = .returned (.agg #[.int .i64 3, .int .i64 ss, .int .i64 rq, .int .i64 0, .slice A 1 cap, .string ⟨#[]⟩, .bool false, .bool false]) ∧ Sat g w' L := s_made S0 ss rq [opA] A cap
theorem s_say3 {g w : World} {L : List Asn} {b : Nat} {s : StT} (S0 : Sat g w (stateA b s :: L)) (hG : GL g) (hm : oldA g ∈ L) {k m : Nat} (hr : RunS s k m) (hk : k ≤ 90) (hm2 : m ≤ 800) {c : CmdT} (hc : cmdR c = true) (h1 : c.ops.length ≤ 1) :
    Calls Tryz.prog 23 #[ptr b, .string (S (bytesF c).1)] w fun e w' => ∃ (x1 x2 x4 : Int) (x3 : List OutT) (A : Option Addr) (cap : Nat), e = .returned (.agg #[.int .i64 x1, .int .i64 x2, .slice A x3.length cap, .int .i64 x4]) ∧ Sat g w' (rowA 134 2 (.slice A x3.length cap) x3.length (x3.flatMap outC) :: stateA b (applyC s c).2 :: L) := by
  refine (s_say S0 hG hm hr hk hm2 hc h1).mono ?_
  rintro e w' ⟨A, cap, rfl, S'⟩
  exact ⟨_, _, _, _, A, cap, rfl, S'⟩
def opSet : OpT := ⟨2, [47], [], -1, false, false⟩
def cmSet (k : Nat) : CmdT := madeF 2 (1 + (k : Int)) [opSet]
theorem cmSet_R (k : Nat) (h : k ≤ 100) : cmdR (cmSet k) = true := made_R 2 (1 + (k : Int)) opSet (by omega) (by omega) (by decide)
/-- orders one after another -/
def sayS (s : StT) (cs : List CmdT) : StT := cs.foldl (fun s c => (applyC s c).2) s
def sayK (s : StT) (cs : List CmdT) : StT := cs.foldl (fun s c => (applyK s c).2) s
theorem say_K (cs : List CmdT) (s : StT) : sayS s cs = sayK s cs := by
  induction cs generalizing s with
  | nil => rfl
  | cons c r ih => simp only [sayS, sayK, List.foldl_cons, apply_K] at *; try exact ih _
def openK : Nat → StT
  | 0 => st0
  | k + 1 => (applyK (openK k) (openC ((k : Int) + 1))).2
theorem open_K (k : Nat) : openS k = openK k := by
  induction k with
  | zero => rfl
  | succ k ih => unfold openS openK; rw [apply_K, ih]
end Go.Proofs.YtbfogieeiobpdaaGreatDoor
