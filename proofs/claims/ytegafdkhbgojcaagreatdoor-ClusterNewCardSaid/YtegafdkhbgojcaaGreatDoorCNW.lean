/- The statement ClusterNew: the call. No condition. -/
import Derived.Test.YtegafdkhbgojcaaGreatDoorCN5T
import Derived.Test.YtegafdkhbgojcaaGreatDoorCN5U
import Derived.Test.YtegafdkhbgojcaaGreatDoorCN7T
import Derived.Test.YtegafdkhbgojcaaGreatDoorCN7U
import Derived.Test.YtegafdkhbgojcaaGreatDoorCN9T
import Derived.Test.YtegafdkhbgojcaaGreatDoorCN9U
set_option linter.unusedVariables false
set_option maxRecDepth 100000
namespace Go.Proofs.YtegafdkhbgojcaaGreatDoor.Ek
open Go.Proofs.YtegafdkhbgojcaaGreatDoor.Ex
theorem cn5all : ∀ s, s < 32 → cn5F s = true := by
  intro s hs
  match s, hs with
  | 0, _ => exact allB_ok cn5t0 0 (by omega)
  | 1, _ => exact allB_ok cn5t0 1 (by omega)
  | 2, _ => exact allB_ok cn5t0 2 (by omega)
  | 3, _ => exact allB_ok cn5t0 3 (by omega)
  | 4, _ => exact cn5t4
  | 5, _ => exact cn5t5
  | 6, _ => exact cn5t6
  | 7, _ => exact cn5t7
  | 8, _ => exact cn5t8
  | 9, _ => exact cn5t9
  | 10, _ => exact cn5t10
  | 11, _ => exact cn5t11
  | 12, _ => exact cn5t12
  | 13, _ => exact cn5t13
  | 14, _ => exact cn5t14
  | 15, _ => exact cn5t15
  | 16, _ => exact cn5t16
  | 17, _ => exact cn5t17
  | 18, _ => exact cn5t18
  | 19, _ => exact cn5t19
  | 20, _ => exact cn5t20
  | 21, _ => exact allB_ok cn5t21 0 (by omega)
  | 22, _ => exact allB_ok cn5t21 1 (by omega)
  | 23, _ => exact allB_ok cn5t21 2 (by omega)
  | 24, _ => exact allB_ok cn5t21 3 (by omega)
  | 25, _ => exact allB_ok cn5t21 4 (by omega)
  | 26, _ => exact allB_ok cn5t21 5 (by omega)
  | 27, _ => exact allB_ok cn5t21 6 (by omega)
  | 28, _ => exact allB_ok cn5t21 7 (by omega)
  | 29, _ => exact allB_ok cn5t21 8 (by omega)
  | 30, _ => exact allB_ok cn5t21 9 (by omega)
  | 31, _ => exact allB_ok cn5t21 10 (by omega)
  | s + 32, h => omega
theorem cn7all : ∀ s, s < 32 → cn7F s = true := by
  intro s hs
  match s, hs with
  | 0, _ => exact allB_ok cn7t0 0 (by omega)
  | 1, _ => exact allB_ok cn7t0 1 (by omega)
  | 2, _ => exact allB_ok cn7t0 2 (by omega)
  | 3, _ => exact allB_ok cn7t0 3 (by omega)
  | 4, _ => exact cn7t4
  | 5, _ => exact cn7t5
  | 6, _ => exact cn7t6
  | 7, _ => exact cn7t7
  | 8, _ => exact cn7t8
  | 9, _ => exact cn7t9
  | 10, _ => exact cn7t10
  | 11, _ => exact cn7t11
  | 12, _ => exact cn7t12
  | 13, _ => exact cn7t13
  | 14, _ => exact cn7t14
  | 15, _ => exact cn7t15
  | 16, _ => exact cn7t16
  | 17, _ => exact cn7t17
  | 18, _ => exact cn7t18
  | 19, _ => exact cn7t19
  | 20, _ => exact cn7t20
  | 21, _ => exact allB_ok cn7t21 0 (by omega)
  | 22, _ => exact allB_ok cn7t21 1 (by omega)
  | 23, _ => exact allB_ok cn7t21 2 (by omega)
  | 24, _ => exact allB_ok cn7t21 3 (by omega)
  | 25, _ => exact allB_ok cn7t21 4 (by omega)
  | 26, _ => exact allB_ok cn7t21 5 (by omega)
  | 27, _ => exact allB_ok cn7t21 6 (by omega)
  | 28, _ => exact allB_ok cn7t21 7 (by omega)
  | 29, _ => exact allB_ok cn7t21 8 (by omega)
  | 30, _ => exact allB_ok cn7t21 9 (by omega)
  | 31, _ => exact allB_ok cn7t21 10 (by omega)
  | s + 32, h => omega
theorem cn9all : ∀ s, s < 32 → cn9F s = true := by
  intro s hs
  match s, hs with
  | 0, _ => exact allB_ok cn9t0 0 (by omega)
  | 1, _ => exact allB_ok cn9t0 1 (by omega)
  | 2, _ => exact allB_ok cn9t0 2 (by omega)
  | 3, _ => exact allB_ok cn9t0 3 (by omega)
  | 4, _ => exact cn9t4
  | 5, _ => exact cn9t5
  | 6, _ => exact cn9t6
  | 7, _ => exact cn9t7
  | 8, _ => exact cn9t8
  | 9, _ => exact cn9t9
  | 10, _ => exact cn9t10
  | 11, _ => exact cn9t11
  | 12, _ => exact cn9t12
  | 13, _ => exact cn9t13
  | 14, _ => exact cn9t14
  | 15, _ => exact cn9t15
  | 16, _ => exact cn9t16
  | 17, _ => exact cn9t17
  | 18, _ => exact cn9t18
  | 19, _ => exact cn9t19
  | 20, _ => exact cn9t20
  | 21, _ => exact allB_ok cn9t21 0 (by omega)
  | 22, _ => exact allB_ok cn9t21 1 (by omega)
  | 23, _ => exact allB_ok cn9t21 2 (by omega)
  | 24, _ => exact allB_ok cn9t21 3 (by omega)
  | 25, _ => exact allB_ok cn9t21 4 (by omega)
  | 26, _ => exact allB_ok cn9t21 5 (by omega)
  | 27, _ => exact allB_ok cn9t21 6 (by omega)
  | 28, _ => exact allB_ok cn9t21 7 (by omega)
  | 29, _ => exact allB_ok cn9t21 8 (by omega)
  | 30, _ => exact allB_ok cn9t21 9 (by omega)
  | 31, _ => exact allB_ok cn9t21 10 (by omega)
  | s + 32, h => omega
section
variable {W : World} {C0 : List Frame}
theorem cnFin {X : Nat → Value} : FinOk X W (fun B => W.heap[B]?) (finL (.b true) []) fun v w' => v = .bool true ∧ Keeps (fun _ => False) W w' := fun y h nx ρ v w' hf hH hv => by
  obtain ⟨ρ', h1, h2⟩ := finL_ok y h nx ρ v w' hf hH hv
  exact ⟨h2, keeps_of_HR h1⟩
theorem cn_soon {r s : Nat} {X : Nat → Value} (hX : XOk X) (h : cnQ s r = true) : ∀ m, RelL X Tryz.prog (nthN masks) 8 C0 (fun B => W.heap[B]?) W (cn0 r s) m → Go.Proofs.YtegafdkhbgojcaaGreatDoor.Ex.Good Tryz.prog 8 C0 (fun v w' => v = .bool true ∧ Keeps (fun _ => False) W w') m :=
  last_ok hX fields mixed (natC_ok fun _ _ h => h) names cnFin h
theorem cn5_far {s : Nat} (hs : s < 32) {X : Nat → Value} (hX : XOk X) (h7 : X 7 = .int .i64 ((s : Int) - 4)) : ∀ m, RelL X Tryz.prog (nthN masks) 8 C0 (fun B => W.heap[B]?) W (cn0 5 s) m → Go.Proofs.YtegafdkhbgojcaaGreatDoor.Ex.Good Tryz.prog 8 C0 (fun v w' => v = .bool true ∧ Keeps (fun _ => False) W w') m := by
  have ge := last_ok (f0 := 8) (C0 := C0) hX fields mixed (natC_ok (W := W) fun _ _ h => h) names cnFin (cn5all s hs)
  have g4 := chunkq_ok (S := cn5e (.x 7)) hX fields mixed (natC_ok fun _ _ h => h) names (tells_exX h7) ge (allB_ok cn5w s hs)
  have g3 := chunk_ok hX fields mixed (natC_ok fun _ _ h => h) names g4 cn5c3
  have g2 := chunk_ok hX fields mixed (natC_ok fun _ _ h => h) names g3 cn5c2
  have g1 := chunk_ok hX fields mixed (natC_ok fun _ _ h => h) names g2 cn5c1
  have g0 := chunk_ok hX fields mixed (natC_ok fun _ _ h => h) names g1 cn5c0
  exact chunkq_ok (S := cn0 5 s) hX fields mixed (natC_ok fun _ _ h => h) names (tells_exX h7) g0 (allB_ok cn5b s hs)
theorem cn7_far {s : Nat} (hs : s < 32) {X : Nat → Value} (hX : XOk X) (h7 : X 7 = .int .i64 ((s : Int) - 4)) : ∀ m, RelL X Tryz.prog (nthN masks) 8 C0 (fun B => W.heap[B]?) W (cn0 7 s) m → Go.Proofs.YtegafdkhbgojcaaGreatDoor.Ex.Good Tryz.prog 8 C0 (fun v w' => v = .bool true ∧ Keeps (fun _ => False) W w') m := by
  have ge := last_ok (f0 := 8) (C0 := C0) hX fields mixed (natC_ok (W := W) fun _ _ h => h) names cnFin (cn7all s hs)
  have g6 := chunkq_ok (S := cn7e (.x 7)) hX fields mixed (natC_ok fun _ _ h => h) names (tells_exX h7) ge (allB_ok cn7w s hs)
  have g5 := chunk_ok hX fields mixed (natC_ok fun _ _ h => h) names g6 cn7c5
  have g4 := chunk_ok hX fields mixed (natC_ok fun _ _ h => h) names g5 cn7c4
  have g3 := chunk_ok hX fields mixed (natC_ok fun _ _ h => h) names g4 cn7c3
  have g2 := chunk_ok hX fields mixed (natC_ok fun _ _ h => h) names g3 cn7c2
  have g1 := chunk_ok hX fields mixed (natC_ok fun _ _ h => h) names g2 cn7c1
  have g0 := chunk_ok hX fields mixed (natC_ok fun _ _ h => h) names g1 cn7c0
  exact chunkq_ok (S := cn0 7 s) hX fields mixed (natC_ok fun _ _ h => h) names (tells_exX h7) g0 (allB_ok cn7b s hs)
theorem cn9_far {s : Nat} (hs : s < 32) {X : Nat → Value} (hX : XOk X) (h7 : X 7 = .int .i64 ((s : Int) - 4)) : ∀ m, RelL X Tryz.prog (nthN masks) 8 C0 (fun B => W.heap[B]?) W (cn0 9 s) m → Go.Proofs.YtegafdkhbgojcaaGreatDoor.Ex.Good Tryz.prog 8 C0 (fun v w' => v = .bool true ∧ Keeps (fun _ => False) W w') m := by
  have ge := last_ok (f0 := 8) (C0 := C0) hX fields mixed (natC_ok (W := W) fun _ _ h => h) names cnFin (cn9all s hs)
  have g9 := chunkq_ok (S := cn9e (.x 7)) hX fields mixed (natC_ok fun _ _ h => h) names (tells_exX h7) ge (allB_ok cn9w s hs)
  have g8 := chunk_ok hX fields mixed (natC_ok fun _ _ h => h) names g9 cn9c8
  have g7 := chunk_ok hX fields mixed (natC_ok fun _ _ h => h) names g8 cn9c7
  have g6 := chunk_ok hX fields mixed (natC_ok fun _ _ h => h) names g7 cn9c6
  have g5 := chunk_ok hX fields mixed (natC_ok fun _ _ h => h) names g6 cn9c5
  have g4 := chunk_ok hX fields mixed (natC_ok fun _ _ h => h) names g5 cn9c4
  have g3 := chunk_ok hX fields mixed (natC_ok fun _ _ h => h) names g4 cn9c3
  have g2 := chunk_ok hX fields mixed (natC_ok fun _ _ h => h) names g3 cn9c2
  have g1 := chunk_ok hX fields mixed (natC_ok fun _ _ h => h) names g2 cn9c1
  have g0 := chunk_ok hX fields mixed (natC_ok fun _ _ h => h) names g1 cn9c0
  exact chunkq_ok (S := cn0 9 s) hX fields mixed (natC_ok fun _ _ h => h) names (tells_exX h7) g0 (allB_ok cn9b s hs)
theorem cn_any {r s : Nat} (hr : r < 16) (hs : s < 32) {X : Nat → Value} (hX : XOk X) (h7 : X 7 = .int .i64 ((s : Int) - 4)) : ∀ m, RelL X Tryz.prog (nthN masks) 8 C0 (fun B => W.heap[B]?) W (cn0 r s) m → Go.Proofs.YtegafdkhbgojcaaGreatDoor.Ex.Good Tryz.prog 8 C0 (fun v w' => v = .bool true ∧ Keeps (fun _ => False) W w') m := by
  match r, hr with
  | 0, _ => exact cn_soon hX (allB_ok cnq0 s hs)
  | 1, _ => exact cn_soon hX (allB_ok cnq1 s hs)
  | 2, _ => exact cn_soon hX (allB_ok cnq2 s hs)
  | 3, _ => exact cn_soon hX (allB_ok cnq3 s hs)
  | 4, _ => exact cn_soon hX (allB_ok cnq4 s hs)
  | 5, _ => exact cn5_far hs hX h7
  | 6, _ => exact cn_soon hX (allB_ok cnq6 s hs)
  | 7, _ => exact cn7_far hs hX h7
  | 8, _ => exact cn_soon hX (allB_ok cnq8 s hs)
  | 9, _ => exact cn9_far hs hX h7
  | 10, _ => exact cn_soon hX (allB_ok cnq10 s hs)
  | 11, _ => exact cn_soon hX (allB_ok cnq11 s hs)
  | 12, _ => exact cn_soon hX (allB_ok cnq12 s hs)
  | 13, _ => exact cn_soon hX (allB_ok cnq13 s hs)
  | 14, _ => exact cn_soon hX (allB_ok cnq14 s hs)
  | 15, _ => exact cn_soon hX (allB_ok cnq15 s hs)
  | r + 16, h => omega
end
theorem new_walk (w : World) (zn zc : Int) :
    Calls Tryz.prog 8 #[.int .i64 zn, .int .i64 zc] w fun e w' => e = .returned (.bool true) ∧ Keeps (fun k => w.heap.size ≤ k) w w' := by
  obtain ⟨r, hr, e1⟩ : ∃ r : Nat, r < 2 ^ 4 ∧ zn % (2 ^ 4 : Nat) = (r : Int) := ⟨(zn % 16).toNat, by omega, by omega⟩
  obtain ⟨s, hs, e2⟩ : ∃ s : Nat, s < 2 ^ 5 ∧ zc % (2 ^ 5 : Nat) = (s : Int) := ⟨(zc % 32).toNat, by omega, by omega⟩
  have hX : XOk (XN r s 4 5 zn zc ((s : Int) - 4)) := XN_ok (by omega) (by omega) hr hs e1 e2
  refine (calls_of_args (M := nthN masks) (args := #[Value.int .i64 zn, .int .i64 zc]) Tryz.func8 rfl (XN_args (r := r) (s := s) (m := 4) (m' := 5) zn zc ((s : Int) - 4)) (R := fun v w' => v = .bool true ∧ Keeps (fun _ => False) w w') fun C0 => ?_).mono ?_
  · exact cn_any hr hs hX XN_7
  · rintro e w' h
    cases e with
    | returned v => exact ⟨congrArg Ending.returned h.1, h.2.mono fun _ _ h => h.elim⟩
    | panicked c => exact h.elim
    | outgrown => exact h.elim

end Go.Proofs.YtegafdkhbgojcaaGreatDoor.Ek
