/- The statement WatchActs: its walk. No condition. -/
import Derived.Test.YtbfogieeiobpdaaGreatDoorWSame
set_option linter.unusedVariables false
set_option linter.unusedSimpArgs false
namespace Go.Proofs.YtbfogieeiobpdaaGreatDoor
open Go.RowKit

theorem fire_nil (w : World) (s : List UInt8) (what when_ : Int) : Calls Tryz.prog 43 #[.pointer none, .string (Go.Proofs.YtbfogieeiobpdaaGreatDoor.S s), .int .i64 what, .int .i64 when_] w fun e w' => e = .returned (.tuple #[]) ∧ Keeps (fun _ => False) w w' := by
  have HK := hide (((((Keeps.refl (fun _ => False) w).alloc (.cells #[.pointer none] 25)).alloc (.cells #[.string (Go.Proofs.YtbfogieeiobpdaaGreatDoor.S s)] 9)).alloc (.cells #[.int .i64 what] 72)).alloc (.cells #[.int .i64 when_] 3))
  have S2 := ((((Sat.start w).box #[.pointer none] 25 rfl).box #[.string (Go.Proofs.YtbfogieeiobpdaaGreatDoor.S s)] 9 (b := w.heap.size + 1) (by simp)).box #[.int .i64 what] 72 (b := w.heap.size + 1 + 1) (by simp)).box #[.int .i64 when_] 3 (b := w.heap.size + 1 + 1 + 1) (by simp)
  go_enter Tryz.func43, Tryz.ntmps43
  go_upto_region 1 with fail
  generalize (((w.alloc (.cells #[.pointer none] 25)).alloc (.cells #[.string (Go.Proofs.YtbfogieeiobpdaaGreatDoor.S s)] 9)).alloc (.cells #[.int .i64 what] 72)).alloc (.cells #[.int .i64 when_] 3) = w3 at *
  generalize w.heap.size = bb at *
  have c0 := S2.p3.cell 0 _ rfl
  clear S2
  go_wp2_with fail
  (try simp only [Exit.inBlock, Exit.then]); refine bodyPost_ret (results_none rfl _ _ _) rfl ?_
  exact ⟨rfl, HK.out⟩
theorem noted_nil (w : World) (sess no : Int) : Calls Tryz.prog 48 #[.pointer none, .int .i64 sess, .int .i64 no] w fun e w' => e = .returned (.tuple #[]) ∧ Keeps (fun _ => False) w w' := by
  go_enter Tryz.func48, Tryz.ntmps48
  go_wp2_with fail
  go_end0
  exact ⟨rfl, ((Keeps.refl _ w).alloc _).alloc _⟩
theorem drop_nil (w : World) (sess : Int) : Calls Tryz.prog 51 #[.pointer none, .int .i64 sess] w fun e w' => e = .returned (.tuple #[]) ∧ Keeps (fun _ => False) w w' := by
  go_enter Tryz.func51, Tryz.ntmps51
  go_wp2_with fail
  (try simp only [Exit.inBlock, Exit.then]); refine bodyPost_ret (results_none rfl _ _ _) rfl ?_
  exact ⟨rfl, (Keeps.refl _ w).alloc _⟩
theorem add_nil (w : World) (x : WatT) : Calls Tryz.prog 42 #[.pointer none, watV x] w fun e w' => e = .returned (.int .i64 1) ∧ Keeps (fun _ => False) w w' := by
  go_enter Tryz.func42, Tryz.ntmps42
  go_wp2_with fail
  go_ret
  exact ⟨rfl, (Keeps.refl _ w).alloc _⟩
theorem clone_nil {g w : World} {L : List Asn} (S : Sat g w L) : Calls Tryz.prog 20 #[.pointer none] w fun e w' => ∃ t, e = .returned (ptr t) ∧ Sat g w' (bookA t ⟨[], [], []⟩ :: L) := by
  go_enter Tryz.func20, Tryz.ntmps20
  go_wp2_with fail
  refine (new_book S).mono ?_
  rintro e w1 ⟨t, rfl, S1⟩
  go_wp2_with fail
  go_ret
  exact ⟨t, rfl, S1⟩

theorem model_new {g w : World} {L : List Asn} (S : Sat g w L) : Sat g (w.alloc (.cells #[.slice none 0 0, .slice none 0 0, .map none] 32)) (modelA w.heap.size ⟨[], [], []⟩ :: L) := by
  have S1 := ((((S.nilRow 96 4).nosNone).nilRow 74 5).box #[.slice none 0 0, .slice none 0 0, .map none] 32 rfl)
  exact Sat.modelShut (wv := .slice none 0 0) (B := ⟨[], [], []⟩) (Sat.mnotesShut S1)

end Go.Proofs.YtbfogieeiobpdaaGreatDoor
