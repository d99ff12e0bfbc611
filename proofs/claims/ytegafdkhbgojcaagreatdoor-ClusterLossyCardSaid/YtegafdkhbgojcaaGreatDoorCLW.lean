/- The statement ClusterLossy: the call. No condition. -/
import Derived.Test.YtegafdkhbgojcaaGreatDoorCL1
import Derived.Test.YtegafdkhbgojcaaGreatDoorCL2
import Derived.Test.YtegafdkhbgojcaaGreatDoorCL3
import Derived.Test.YtegafdkhbgojcaaGreatDoorCL4
import Derived.Test.YtegafdkhbgojcaaGreatDoorCL5
import Derived.Test.YtegafdkhbgojcaaGreatDoorCL6
import Derived.Test.YtegafdkhbgojcaaGreatDoorCL7
import Derived.Test.YtegafdkhbgojcaaGreatDoorCL8
set_option linter.unusedVariables false
set_option maxRecDepth 100000
namespace Go.Proofs.YtegafdkhbgojcaaGreatDoor.Ek
open Go.Proofs.YtegafdkhbgojcaaGreatDoor.Ex
theorem cl_all {r : Nat} (hr : r < 8) : GoodFrom 0 (clt8 (clI r) (.x 7)) := by
  match r, hr with
  | 0, _ => exact cl0all
  | 1, _ => exact cl1all
  | 2, _ => exact cl2all
  | 3, _ => exact cl3all
  | 4, _ => exact cl4all
  | 5, _ => exact cl5all
  | 6, _ => exact cl6all
  | 7, _ => exact cl7all
  | r + 8, h => omega
theorem lossy_walk (w : World) (zn zc : Int) :
    Calls Tryz.prog 9 #[.int .i64 zn, .int .i64 zc] w fun e w' => e = .returned (.bool true) ∧ Keeps (fun k => w.heap.size ≤ k) w w' := by
  obtain ⟨r, hr, e1⟩ : ∃ r : Nat, r < 2 ^ 3 ∧ zn % (2 ^ 3 : Nat) = (r : Int) := ⟨(zn % 8).toNat, by omega, by omega⟩
  obtain ⟨s, hs, e2⟩ : ∃ s : Nat, s < 2 ^ 5 ∧ zc % (2 ^ 5 : Nat) = (s : Int) := ⟨(zc % 32).toNat, by omega, by omega⟩
  have hX : XOk (XL r s 3 5 zn zc (Int.ofNat s) (Int.ofNat r)) := XL_ok (by omega) (by omega) hr hs e1 e2
  refine (calls_of_args (M := nthN masks) (args := #[Value.int .i64 zn, .int .i64 zc]) Tryz.func9 rfl (XL_args (r := r) (s := s) (m := 3) (m' := 5) zn zc (Int.ofNat s) (Int.ofNat r)) (R := fun v w' => v = .bool true ∧ Keeps (fun _ => False) w w') fun C0 => ?_).mono ?_
  · have g9 := cl_all hr s (Nat.zero_le _) hs _ hX XL_7 w C0
    have g8 := chunkq_ok (S := clt8 (.x 8) (.x 7)) hX fields mixed (natC_ok fun _ _ h => h) names (tells_exX XL_8) g9 (allB_ok cls r hr)
    have g7 := chunk_ok (S := clt7 (.x 8) (.x 7)) hX fields mixed (natC_ok fun _ _ h => h) names g8 clp7
    have g6 := chunk_ok (S := clt6 (.x 8) (.x 7)) hX fields mixed (natC_ok fun _ _ h => h) names g7 clp6
    have g5 := chunk_ok (S := clt5 (.x 8) (.x 7)) hX fields mixed (natC_ok fun _ _ h => h) names g6 clp5
    have g4 := chunk_ok (S := clt4 (.x 8) (.x 7)) hX fields mixed (natC_ok fun _ _ h => h) names g5 clp4
    have g3 := chunk_ok (S := clt3 (.x 8) (.x 7)) hX fields mixed (natC_ok fun _ _ h => h) names g4 clp3
    have g2 := chunk_ok (S := clt2 (.x 8) (.x 7)) hX fields mixed (natC_ok fun _ _ h => h) names g3 clp2
    have g1 := chunk_ok (S := clt1 (.x 8) (.x 7)) hX fields mixed (natC_ok fun _ _ h => h) names g2 clp1
    have g0 := chunk_ok (S := clt0 (.x 8) (.x 7)) hX fields mixed (natC_ok fun _ _ h => h) names g1 clp0
    exact chunkq_ok (S := cl0 r s) hX fields mixed (natC_ok fun _ _ h => h) names (tells_or (tells_exX XL_8) (tells_exX XL_7)) g0 (allB_ok (allB_ok clb r hr) s hs)
  · rintro e w' h
    cases e with
    | returned v => exact ⟨congrArg Ending.returned h.1, h.2.mono fun _ _ h => h.elim⟩
    | panicked c => exact h.elim
    | outgrown => exact h.elim

end Go.Proofs.YtegafdkhbgojcaaGreatDoor.Ek
