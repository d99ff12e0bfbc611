/- Contracts of the package sess in pieces of memory: a clone. No condition. -/
import Derived.Test.YtbfogieeiobpdaaGreatDoorSessT
import Derived.Shelf.SlMaps.Clone
import Derived.Test.YtbfogieeiobpdaaGreatDoorLays2
set_option linter.unusedVariables false
namespace Go.Proofs.YtbfogieeiobpdaaGreatDoor
open Go.RowKit

theorem s_mclone {g w : World} {L : List Asn} {mb : Nat} {m : Tab} (S : Sat g w (tabA mb m :: L)) :
    Calls Tryz.prog 114 #[.map (some mb)] w fun e w' => ∃ mb2, e = .returned (.map (some mb2)) ∧ Sat g w' (tabA mb2 m :: tabA mb m :: L) := by
  obtain ⟨es, clock, hb, hs, he⟩ := S.mapOf
  refine (AnyW.maps_Clone Tryz.cloneM mb es clock w hb).mono ?_
  rintro e w' ⟨rfl, rfl⟩
  exact ⟨_, rfl, S.mapNew ((Keeps.refl _ w).alloc _) (Nat.le_refl _) ⟨es, clock, heap_alloc_new w _, hs, he⟩⟩
theorem s_clone {g w : World} {L : List Asn} {t mb : Nat} {m : Tab} (S : Sat g w (boxA t mb :: tabA mb m :: L)) :
    Calls Tryz.prog 78 #[ptr t] w fun e w' => ∃ t2 mb2, e = .returned (ptr t2) ∧ Sat g w' (boxA t2 mb2 :: tabA mb2 m :: boxA t mb :: tabA mb m :: L) := by
  have c0 : w.cell? ⟨t, 0, none⟩ = some (.map (some mb)) := S.cell 0 _ rfl
  go_enter Tryz.func78, Tryz.ntmps78
  go_wp2_with fail
  refine (s_mclone S.p1).mono ?_
  rintro e w1 ⟨mb2, rfl, S1⟩
  go_wp2_with fail
  go_ret
  have S2 := (S1.box #[.map (some mb2)] 168 rfl).p3.b2
  first | exact ⟨_, rfl, mb2, S2⟩ | exact ⟨_, mb2, rfl, S2⟩

end Go.Proofs.YtbfogieeiobpdaaGreatDoor
