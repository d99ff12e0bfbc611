/- A closed run: the contract. No condition. -/
import Derived.Test.YtegafdkhbgojcaaGreatDoorEH19A
import Derived.Test.YtegafdkhbgojcaaGreatDoorEH19B
import Derived.Test.YtegafdkhbgojcaaGreatDoorEH19C
import Derived.Test.YtegafdkhbgojcaaGreatDoorEH19D
import Derived.Test.YtegafdkhbgojcaaGreatDoorEH19E
import Derived.Test.YtegafdkhbgojcaaGreatDoorEH19F
import Derived.Test.YtegafdkhbgojcaaGreatDoorEH19G
import Derived.Test.YtegafdkhbgojcaaGreatDoorEH19H
set_option linter.unusedVariables false
set_option maxRecDepth 100000
namespace Go.Proofs.YtegafdkhbgojcaaGreatDoor.Ek
open Go.Proofs.YtegafdkhbgojcaaGreatDoor.Ex
theorem h19_calls (w : World) : Calls Tryz.prog 40 #[] w fun e w' => e = .returned (.bool true) ∧ Keeps (fun _ => False) w w' := by
  refine (calls_of_run (X := X0) (M := nthN masks) Tryz.func40 rfl (R := fun v w' => v = .bool true ∧ Keeps (fun _ => False) w w') fun C0 => ?_).mono ?_
  · have g28 := last_ok (X := X0) (W := w) (Z0 := fun B => w.heap[B]?) (f0 := 40) (C0 := C0) X0_ok fields mixed natives_ok names (fin := finL (.b true) []) (R := fun v w' => v = .bool true ∧ Keeps (fun _ => False) w w') (fun y h nx ρ v w' hf hH hv => by
      obtain ⟨ρ', h1, h2⟩ := finL_ok y h nx ρ v w' hf hH hv
      exact ⟨h2, keeps_of_HR h1⟩) h19c28
    have g27 := chunk_ok (X := X0) X0_ok fields mixed natives_ok names g28 h19c27
    have g26 := chunk_ok (X := X0) X0_ok fields mixed natives_ok names g27 h19c26
    have g25 := chunk_ok (X := X0) X0_ok fields mixed natives_ok names g26 h19c25
    have g24 := chunk_ok (X := X0) X0_ok fields mixed natives_ok names g25 h19c24
    have g23 := chunk_ok (X := X0) X0_ok fields mixed natives_ok names g24 h19c23
    have g22 := chunk_ok (X := X0) X0_ok fields mixed natives_ok names g23 h19c22
    have g21 := chunk_ok (X := X0) X0_ok fields mixed natives_ok names g22 h19c21
    have g20 := chunk_ok (X := X0) X0_ok fields mixed natives_ok names g21 h19c20
    have g19 := chunk_ok (X := X0) X0_ok fields mixed natives_ok names g20 h19c19
    have g18 := chunk_ok (X := X0) X0_ok fields mixed natives_ok names g19 h19c18
    have g17 := chunk_ok (X := X0) X0_ok fields mixed natives_ok names g18 h19c17
    have g16 := chunk_ok (X := X0) X0_ok fields mixed natives_ok names g17 h19c16
    have g15 := chunk_ok (X := X0) X0_ok fields mixed natives_ok names g16 h19c15
    have g14 := chunk_ok (X := X0) X0_ok fields mixed natives_ok names g15 h19c14
    have g13 := chunk_ok (X := X0) X0_ok fields mixed natives_ok names g14 h19c13
    have g12 := chunk_ok (X := X0) X0_ok fields mixed natives_ok names g13 h19c12
    have g11 := chunk_ok (X := X0) X0_ok fields mixed natives_ok names g12 h19c11
    have g10 := chunk_ok (X := X0) X0_ok fields mixed natives_ok names g11 h19c10
    have g9 := chunk_ok (X := X0) X0_ok fields mixed natives_ok names g10 h19c9
    have g8 := chunk_ok (X := X0) X0_ok fields mixed natives_ok names g9 h19c8
    have g7 := chunk_ok (X := X0) X0_ok fields mixed natives_ok names g8 h19c7
    have g6 := chunk_ok (X := X0) X0_ok fields mixed natives_ok names g7 h19c6
    have g5 := chunk_ok (X := X0) X0_ok fields mixed natives_ok names g6 h19c5
    have g4 := chunk_ok (X := X0) X0_ok fields mixed natives_ok names g5 h19c4
    have g3 := chunk_ok (X := X0) X0_ok fields mixed natives_ok names g4 h19c3
    have g2 := chunk_ok (X := X0) X0_ok fields mixed natives_ok names g3 h19c2
    have g1 := chunk_ok (X := X0) X0_ok fields mixed natives_ok names g2 h19c1
    have g0 := chunk_ok (X := X0) X0_ok fields mixed natives_ok names g1 h19c0
    exact g0
  · rintro e w' h
    cases e with
    | returned v => exact ⟨congrArg Ending.returned h.1, h.2⟩
    | panicked c => exact h.elim
    | outgrown => exact h.elim

end Go.Proofs.YtegafdkhbgojcaaGreatDoor.Ek
