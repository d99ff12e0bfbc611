/- Contracts of the package sess at a table that is none; a clone of none. No condition. -/
import Derived.Test.YtcnehacblodiaaaModelDo
set_option linter.unusedVariables false
namespace Go.Proofs.Ytcnehacblodiaaa
open Go.RowKit

theorem has_nil (w : World) (id : Int) : Calls Try.prog 10 #[.pointer none, .int .i64 id] w fun e w' => e = .returned (.bool false) ∧ w = w' := by
  go_enter Try.func10, Try.ntmps10
  go_wp2_with fail
  go_ret
  exact ⟨rfl, rfl⟩
theorem open_nil (w : World) (id : Int) : Calls Try.prog 9 #[.pointer none, .int .i64 id] w fun e w' => e = .returned (.int .i64 1) ∧ w = w' := by
  go_enter Try.func9, Try.ntmps9
  go_wp2_with fail
  go_ret
  exact ⟨rfl, rfl⟩
theorem close_nil (w : World) (id : Int) : Calls Try.prog 11 #[.pointer none, .int .i64 id] w fun e w' => e = .returned (.int .i64 17) ∧ w = w' := by
  go_enter Try.func11, Try.ntmps11
  go_wp2_with fail
  refine (has_nil w id).mono ?_
  rintro e w1 ⟨rfl, rfl⟩
  go_wp2_with fail
  go_ret
  exact ⟨rfl, rfl⟩
theorem seen_nil (w : World) (id req : Int) : Calls Try.prog 17 #[.pointer none, .int .i64 id, .int .i64 req] w fun e w' => e = .returned (.tuple #[.string ⟨#[]⟩, .bool false, .int .i64 17]) ∧ w = w' := by
  go_enter Try.func17, Try.ntmps17
  go_wp2_with fail
  refine (has_nil w id).mono ?_
  rintro e w1 ⟨rfl, rfl⟩
  go_wp2_with fail
  go_ret3
  exact ⟨rfl, rfl⟩
theorem keep_nil (w : World) (id req : Int) (a : ByteArray) : Calls Try.prog 18 #[.pointer none, .int .i64 id, .int .i64 req, .string a] w fun e w' => e = .returned (.int .i64 17) ∧ w = w' := by
  go_enter Try.func18, Try.ntmps18
  go_wp2_with fail
  refine (seen_nil w id req).mono ?_
  rintro e w1 ⟨rfl, rfl⟩
  go_wp2_with fail
  go_ret
  exact ⟨rfl, rfl⟩
theorem clone_nil {g w : World} {L : List Asn} (S : Sat g w L) : Calls Try.prog 19 #[.pointer none] w fun e w' => ∃ t mb, e = .returned (ptr t) ∧ Sat g w' (boxA t mb :: tabA mb [] :: L) := by
  go_enter Try.func19, Try.ntmps19
  go_wp2_with fail
  refine (s_new S).mono ?_
  rintro e w1 ⟨t, mb, rfl, S1⟩
  go_wp2_with fail
  go_ret
  first | exact ⟨t, rfl, mb, S1⟩ | exact ⟨t, mb, rfl, S1⟩

end Go.Proofs.Ytcnehacblodiaaa
