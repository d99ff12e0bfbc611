/- A closed run: the contract. No condition. -/
import Derived.Test.YtegafdkhbgojcaaGreatDoorEH18A
import Derived.Test.YtegafdkhbgojcaaGreatDoorEH18B
import Derived.Test.YtegafdkhbgojcaaGreatDoorEH18C
import Derived.Test.YtegafdkhbgojcaaGreatDoorEH18D
set_option linter.unusedVariables false
set_option maxRecDepth 100000
namespace Go.Proofs.YtegafdkhbgojcaaGreatDoor.Ek
open Go.Proofs.YtegafdkhbgojcaaGreatDoor.Ex
theorem h18_calls (w : World) : Calls Tryz.prog 26 #[] w fun e w' => e = .returned (.bool true) ∧ Keeps (fun _ => False) w w' := by
  refine (calls_of_run (X := X0) (M := nthN masks) Tryz.func26 rfl (R := fun v w' => v = .bool true ∧ Keeps (fun _ => False) w w') fun C0 => ?_).mono ?_
  · have g10 := last_ok (X := X0) (W := w) (Z0 := fun B => w.heap[B]?) (f0 := 26) (C0 := C0) X0_ok fields mixed natives_ok names (fin := finL (.b true) []) (R := fun v w' => v = .bool true ∧ Keeps (fun _ => False) w w') (fun y h nx ρ v w' hf hH hv => by
      obtain ⟨ρ', h1, h2⟩ := finL_ok y h nx ρ v w' hf hH hv
      exact ⟨h2, keeps_of_HR h1⟩) h18c10
    have g9 := chunk_ok (X := X0) X0_ok fields mixed natives_ok names g10 h18c9
    have g8 := chunk_ok (X := X0) X0_ok fields mixed natives_ok names g9 h18c8
    have g7 := chunk_ok (X := X0) X0_ok fields mixed natives_ok names g8 h18c7
    have g6 := chunk_ok (X := X0) X0_ok fields mixed natives_ok names g7 h18c6
    have g5 := chunk_ok (X := X0) X0_ok fields mixed natives_ok names g6 h18c5
    have g4 := chunk_ok (X := X0) X0_ok fields mixed natives_ok names g5 h18c4
    have g3 := chunk_ok (X := X0) X0_ok fields mixed natives_ok names g4 h18c3
    have g2 := chunk_ok (X := X0) X0_ok fields mixed natives_ok names g3 h18c2
    have g1 := chunk_ok (X := X0) X0_ok fields mixed natives_ok names g2 h18c1
    have g0 := chunk_ok (X := X0) X0_ok fields mixed natives_ok names g1 h18c0
    exact g0
  · rintro e w' h
    cases e with
    | returned v => exact ⟨congrArg Ending.returned h.1, h.2⟩
    | panicked c => exact h.elim
    | outgrown => exact h.elim

end Go.Proofs.YtegafdkhbgojcaaGreatDoor.Ek
