/- The tree's clone. No condition. -/
import Derived.Test.YtanlobdidjednaaGreatDoorTreeM
import Derived.Shelf.SlMaps.Clone
set_option linter.unusedVariables false
set_option linter.unusedSimpArgs false
namespace Go.Proofs.YtanlobdidjednaaGreatDoor
open Go.RowKit

theorem t_mclone {g w : World} {L : List Asn} {mb : Nat} {m : TreeT} (S0 : Sat g w (mapA kS nodV mb m :: L)) :
    Calls Tryz.prog 58 #[.map (some mb)] w fun e w' => ∃ mb2, e = .returned (.map (some mb2)) ∧ Sat g w' (mapA kS nodV mb2 m :: mapA kS nodV mb m :: L) := by
  obtain ⟨es, clock, hb, hs, he⟩ := S0.mapOf
  refine (AnyW.maps_Clone Tryz.cloneT mb es clock w hb).mono ?_
  rintro e w' ⟨rfl, rfl⟩
  exact ⟨_, rfl, S0.mapNew ((Keeps.refl _ w).alloc _) (Nat.le_refl _) ⟨es, clock, heap_alloc_new w _, hs, he⟩⟩
theorem tclone_tree {g w : World} {L : List Asn} {t : Nat} {m : TreeT} (S0 : Sat g w (treeA t m :: L)) :
    Calls Tryz.prog 38 #[ptr t] w fun e w' => ∃ t2, e = .returned (ptr t2) ∧ Sat g w' (treeA t2 m :: treeA t m :: L) := by
  obtain ⟨mb, S1⟩ := S0.treeOpen
  have c0 : w.cell? ⟨t, 0, none⟩ = some (.map (some mb)) := S1.cell 0 _ rfl
  clear S0
  go_enter Tryz.func38, Tryz.ntmps38
  go_wp2_with fail
  refine (t_mclone S1.p1).mono ?_
  rintro e w1 ⟨mb2, rfl, S2⟩
  clear S1 c0
  have HS : Hid (Sat g (w1.alloc (.cells #[.map (some mb2)] 114)) (treeA w1.heap.size m :: treeA t m :: L)) := hide (by
    have S3 := (S2.box #[.map (some mb2)] 114 rfl).treeShut
    exact (S3.b2.p1.treeShut).p1)
  clear S2
  go_wp2_with fail
  go_ret
  exact ⟨_, rfl, HS.out⟩

end Go.Proofs.YtanlobdidjednaaGreatDoor
