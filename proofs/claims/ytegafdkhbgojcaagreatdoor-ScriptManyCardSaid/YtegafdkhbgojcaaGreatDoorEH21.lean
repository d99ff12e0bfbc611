/- A closed run: the contract. No condition. -/
import Derived.Test.YtegafdkhbgojcaaGreatDoorEH21A
import Derived.Test.YtegafdkhbgojcaaGreatDoorEH21B
import Derived.Test.YtegafdkhbgojcaaGreatDoorEH21C
import Derived.Test.YtegafdkhbgojcaaGreatDoorEH21D
import Derived.Test.YtegafdkhbgojcaaGreatDoorEH21E
import Derived.Test.YtegafdkhbgojcaaGreatDoorEH21F
import Derived.Test.YtegafdkhbgojcaaGreatDoorEH21G
import Derived.Test.YtegafdkhbgojcaaGreatDoorEH21H
import Derived.Test.YtegafdkhbgojcaaGreatDoorEH21I
import Derived.Test.YtegafdkhbgojcaaGreatDoorEH21J
set_option linter.unusedVariables false
set_option maxRecDepth 100000
namespace Go.Proofs.YtegafdkhbgojcaaGreatDoor.Ek
open Go.Proofs.YtegafdkhbgojcaaGreatDoor.Ex
theorem h21_calls (w : World) : Calls Tryz.prog 11 #[] w fun e w' => e = .returned (.bool true) ∧ Keeps (fun _ => False) w w' := by
  refine (calls_of_run (X := X0) (M := nthN masks) Tryz.func11 rfl (R := fun v w' => v = .bool true ∧ Keeps (fun _ => False) w w') fun C0 => ?_).mono ?_
  · have g28 := last_ok (X := X0) (W := w) (Z0 := fun B => w.heap[B]?) (f0 := 11) (C0 := C0) X0_ok fields mixed natives_ok names (fin := finL (.b true) []) (R := fun v w' => v = .bool true ∧ Keeps (fun _ => False) w w') (fun y h nx ρ v w' hf hH hv => by
      obtain ⟨ρ', h1, h2⟩ := finL_ok y h nx ρ v w' hf hH hv
      exact ⟨h2, keeps_of_HR h1⟩) h21c28
    have g27 := chunk_ok (X := X0) X0_ok fields mixed natives_ok names g28 h21c27
    have g26 := chunk_ok (X := X0) X0_ok fields mixed natives_ok names g27 h21c26
    have g25 := chunk_ok (X := X0) X0_ok fields mixed natives_ok names g26 h21c25
    have g24 := chunk_ok (X := X0) X0_ok fields mixed natives_ok names g25 h21c24
    have g23 := chunk_ok (X := X0) X0_ok fields mixed natives_ok names g24 h21c23
    have g22 := chunk_ok (X := X0) X0_ok fields mixed natives_ok names g23 h21c22
    have g21 := chunk_ok (X := X0) X0_ok fields mixed natives_ok names g22 h21c21
    have g20 := chunk_ok (X := X0) X0_ok fields mixed natives_ok names g21 h21c20
    have g19 := chunk_ok (X := X0) X0_ok fields mixed natives_ok names g20 h21c19
    have g18 := chunk_ok (X := X0) X0_ok fields mixed natives_ok names g19 h21c18
    have g17 := chunk_ok (X := X0) X0_ok fields mixed natives_ok names g18 h21c17
    have g16 := chunk_ok (X := X0) X0_ok fields mixed natives_ok names g17 h21c16
    have g15 := chunk_ok (X := X0) X0_ok fields mixed natives_ok names g16 h21c15
    have g14 := chunk_ok (X := X0) X0_ok fields mixed natives_ok names g15 h21c14
    have g13 := chunk_ok (X := X0) X0_ok fields mixed natives_ok names g14 h21c13
    have g12 := chunk_ok (X := X0) X0_ok fields mixed natives_ok names g13 h21c12
    have g11 := chunk_ok (X := X0) X0_ok fields mixed natives_ok names g12 h21c11
    have g10 := chunk_ok (X := X0) X0_ok fields mixed natives_ok names g11 h21c10
    have g9 := chunk_ok (X := X0) X0_ok fields mixed natives_ok names g10 h21c9
    have g8 := chunk_ok (X := X0) X0_ok fields mixed natives_ok names g9 h21c8
    have g7 := chunk_ok (X := X0) X0_ok fields mixed natives_ok names g8 h21c7
    have g6 := chunk_ok (X := X0) X0_ok fields mixed natives_ok names g7 h21c6
    have g5 := chunk_ok (X := X0) X0_ok fields mixed natives_ok names g6 h21c5
    have g4 := chunk_ok (X := X0) X0_ok fields mixed natives_ok names g5 h21c4
    have g3 := chunk_ok (X := X0) X0_ok fields mixed natives_ok names g4 h21c3
    have g2 := chunk_ok (X := X0) X0_ok fields mixed natives_ok names g3 h21c2
    have g1 := chunk_ok (X := X0) X0_ok fields mixed natives_ok names g2 h21c1
    have g0 := chunk_ok (X := X0) X0_ok fields mixed natives_ok names g1 h21c0
    exact g0
  · rintro e w' h
    cases e with
    | returned v => exact ⟨congrArg Ending.returned h.1, h.2⟩
    | panicked c => exact h.elim
    | outgrown => exact h.elim

end Go.Proofs.YtegafdkhbgojcaaGreatDoor.Ek
