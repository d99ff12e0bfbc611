/- Contracts of the package watch: slices.Clone of events. No condition. -/
import Derived.Test.YtbfogieeiobpdaaGreatDoorBookH
set_option linter.unusedVariables false
set_option linter.unusedSimpArgs false
namespace Go.Proofs.YtbfogieeiobpdaaGreatDoor
open Go.RowKit

set_option maxRecDepth 100000 in
set_option maxHeartbeats 4000000 in
theorem clone_ev {g w : World} {L : List Asn} {v : Value} {es : List EvT} (S : Sat g w (rowA 74 5 v es.length (es.flatMap evC) :: L)) (hl : es.length ≤ 1000000) :
    Calls Tryz.prog 63 #[v] w fun e w' => ∃ v', e = .returned v' ∧ Sat g w' (rowA 74 5 v' es.length (es.flatMap evC) :: rowA 74 5 v es.length (es.flatMap evC) :: L) := by
  obtain ⟨A, c, rfl, hnc, hcm, hsrc, -⟩ := S.row.form
  have hone := flatK_one evC_one es
  cases A with
  | none =>
    have h0 : es.length = 0 := by
      rcases S.row.2 with h | h
      · omega
      · obtain ⟨_, _, _, h, _⟩ := h
        cases h
    have hc : c = 0 := by
      rcases S.row.2 with h | h
      · injection h.1
      · obtain ⟨_, _, _, h, _⟩ := h
        cases h
    have h1 : es = [] := by simpa using h0
    subst h1 hc
    simp only [List.length_nil]
    have hnil : ∀ w, (Go.binOp .eql 29 (.slice none 0 0) (.slice none 0 0)).run Tryz.prog w = .ok (.bool true) w := fun w => by kernel_rfl
    go_enter Tryz.func63, Tryz.ntmps63
    go_wp2_with fail
    go_ret
    exact ⟨_, rfl, S.nilRow _ _⟩
  | some ad =>
    have hnil : ∀ w, (Go.binOp .eql 29 (.slice (some ad) es.length c) (.slice none 0 0)).run Tryz.prog w = .ok (.bool false) w := fun w => by kernel_rfl
    have HX := hide hone
    clear hone
    go_enter Tryz.func63, Tryz.ntmps63
    go_wp2_with (at_builtin; refine wpList_sapp slV rfl (.tmp 5) (.tmp 6) rfl (g := g) (S := (S.box #[] 74 rfl).rowOf 5 0 rfl (Nat.zero_le _)) rfl (hsrc.keep ((Keeps.refl (fun _ => False) _).alloc _) (fun _ _ h => h)) rfl HX.out (by unfold maxLen; omega) (by omega) ?_; intro A5 c5 w5 S5)
    go_ret
    refine ⟨_, rfl, ?_⟩
    simpa using S5

end Go.Proofs.YtbfogieeiobpdaaGreatDoor
