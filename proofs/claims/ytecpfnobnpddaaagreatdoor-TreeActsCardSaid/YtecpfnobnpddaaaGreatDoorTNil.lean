/- Contracts of the package tree where there is no tree (nil). No condition. -/
import Derived.Test.YtecpfnobnpddaaaGreatDoorTSame
import Derived.Test.YtecpfnobnpddaaaGreatDoorTReadsW
set_option linter.unusedVariables false
set_option linter.unusedSimpArgs false
namespace Go.Proofs.YtecpfnobnpddaaaGreatDoor
open Go.RowKit

section
variable {g w : World} {L : List Asn} {b : Nat} {T : TreeT}
set_option maxHeartbeats 1000000 in
theorem get_nil (S0 : Sat g w L) (hG : GL w) :
    Calls Tryz.prog 26 #[.pointer none, .string (S [47])] w fun e w' => e = .returned (.tuple #[nodV zN, .int .i64 11]) ∧ Sat g w' L := by
  have S1 := S0.box zC 62 rfl
  have hG1 : GL (w.alloc (.cells zC 62)) := hG.keep ((Keeps.refl (fun _ => False) w).alloc _) (fun h => h)
  have hch := check_path _ [47] (by decide) hG1
  rw [show checkF [47] = 0 from by decide] at hch
  go_enter Tryz.func26, Tryz.ntmps26
  go_upto_region 1 with fail
  generalize w.alloc (.cells zC 62) = w1 at *
  generalize w.heap.size = rb at *
  go_wp2_with fail
  refine hch.mono ?_
  rintro e w2 ⟨rfl, hk2⟩
  have S2 := S1.keep hk2
  clear S0 S1 hG hG1 hch hk2
  go_wp2_with ((show Go.wpList _ _ _ (Oper.mk none (Op.store _ _ _) _ _ _ _ :: _) _ _); refine wpList_sstore rfl _ (.tmp 4) (.tmp 28) rfl S2 _ rfl rfl (by kernel_rfl) rfl (by simp [Value.oneCell']) ?_; intro S8)
  refine bodyPost_ret (results_row_tmp Tryz.results26 _ _ rb _ _ _ _ rfl S8.cells_get Tryz.underlying62 rfl (by kernel_rfl)) rfl ?_
  exact ⟨rfl, S8.drop⟩
theorem len_nil (S0 : Sat g w L) : Calls Tryz.prog 29 #[.pointer none] w fun e w' => e = .returned (.int .i64 0) ∧ Sat g w' L := by
  have HS := hide S0
  go_enter Tryz.func29, Tryz.ntmps29
  go_wp2_with fail
  go_ret
  exact ⟨rfl, HS.out⟩
theorem paths_nil (S0 : Sat g w L) : Calls Tryz.prog 30 #[.pointer none] w fun e w' => e = .returned (.slice none 0 0) ∧ Sat g w' L := by
  have HS := hide S0
  go_enter Tryz.func30, Tryz.ntmps30
  go_wp2_with fail
  go_ret
  exact ⟨rfl, HS.out⟩
theorem same_nil (S0 : Sat g w L) : Calls Tryz.prog 31 #[.pointer none, .pointer none] w fun e w' => e = .returned (.bool true) ∧ Sat g w' L := by
  have HS := hide S0
  go_enter Tryz.func31, Tryz.ntmps31
  go_wp2_with fail
  go_ret
  exact ⟨rfl, HS.out⟩
theorem same_nil1 (S0 : Sat g w L) (b : Nat) : Calls Tryz.prog 31 #[.pointer none, ptr b] w fun e w' => e = .returned (.bool false) ∧ Sat g w' L := by
  have HS := hide S0
  go_enter Tryz.func31, Tryz.ntmps31
  go_wp2_with fail
  go_ret
  exact ⟨rfl, HS.out⟩
theorem tclone_nil (S0 : Sat g w L) : Calls Tryz.prog 32 #[.pointer none] w fun e w' => ∃ t, e = .returned (ptr t) ∧ Sat g w' (treeA t rootT :: L) := by
  go_enter Tryz.func32, Tryz.ntmps32
  go_wp2_with fail
  refine (new_tree S0).mono ?_
  rintro e w1 ⟨t, rfl, S1⟩
  have HS := hide S1
  clear S0 S1
  go_wp2_with fail
  go_ret
  exact ⟨t, rfl, HS.out⟩
end
end Go.Proofs.YtecpfnobnpddaaaGreatDoor
