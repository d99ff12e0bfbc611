/- A state's clone, and its bytes, walked. No condition. -/
import Derived.Test.YtanlobdidjednaaGreatDoorStA
import Derived.Test.YtanlobdidjednaaGreatDoorTCl
import Derived.Test.YtanlobdidjednaaGreatDoorTLay
import Derived.Test.YtanlobdidjednaaGreatDoorBooM
import Derived.Test.YtanlobdidjednaaGreatDoorWEq
import Derived.Deep.RegionHeld3
set_option linter.unusedVariables false
set_option linter.unusedSimpArgs false
namespace Go.Proofs.YtanlobdidjednaaGreatDoor
open Go.RowKit

set_option maxRecDepth 100000 in
set_option maxHeartbeats 8000000 in
theorem clone_state {g w : World} {L : List Asn} {b : Nat} {s : StT} (S0 : Sat g w (stateA b s :: L)) (hl : s.book.es.length ≤ 1000000) (hl2 : s.book.ws.length ≤ 1000) :
    Calls Tryz.prog 19 #[ptr b] w fun e w' => ∃ b2 nos, e = .returned (ptr b2) ∧ (∀ k, mget nos k = mget s.book.nos k) ∧ Sat g w' (stateA b2 ⟨s.tree, s.tab, ⟨s.book.ws, s.book.es, nos⟩, s.at_⟩ :: stateA b s :: L) := by
  obtain ⟨t, ts, bk, S1⟩ := S0.stateOpen
  have HX : Hid (∀ (w' : World) (L' : List Asn), Sat g w' L' → cellsA b 78 #[ptr t, ptr ts, ptr bk, .int .i64 s.at_] ∈ L' → w'.cell? ⟨b, 0, none⟩ = some (ptr t) ∧ w'.cell? ⟨b, 1, none⟩ = some (ptr ts) ∧ w'.cell? ⟨b, 2, none⟩ = some (ptr bk) ∧ w'.cell? ⟨b, 3, none⟩ = some (.int .i64 s.at_)) := hide fun w' L' S' h => ⟨S'.cell_of h 0 _ rfl, S'.cell_of h 1 _ rfl, S'.cell_of h 2 _ rfl, S'.cell_of h 3 _ rfl⟩
  obtain ⟨q0, q1, q2, q3⟩ := HX.out _ _ S1 (by simp)
  clear S0
  go_enter Tryz.func19, Tryz.ntmps19
  go_upto_region 3 with fail
  go_region_held3 (fun w' => w'.cell? ⟨b, 0, none⟩ = some (ptr t) ∧ w'.cell? ⟨b, 1, none⟩ = some (ptr ts) ∧ w'.cell? ⟨b, 2, none⟩ = some (ptr bk) ∧ w'.cell? ⟨b, 3, none⟩ = some (.int .i64 s.at_)) (first
    | (go_keep; done)
    | exact HX.out _ _ (Sat.keep S4 (by (repeat (first | exact Keeps.refl _ _ | refine Keeps.alloc ?_ _ | refine Keeps.drew ?_ | refine Keeps.drewN ?_ _)))) (by simp)
    | exact HX.out _ _ (Sat.keep S3 (by (repeat (first | exact Keeps.refl _ _ | refine Keeps.alloc ?_ _ | refine Keeps.drew ?_ | refine Keeps.drewN ?_ _)))) (by simp)
    | exact HX.out _ _ (Sat.keep S2 (by (repeat (first | exact Keeps.refl _ _ | refine Keeps.alloc ?_ _ | refine Keeps.drew ?_ | refine Keeps.drewN ?_ _)))) (by simp)
    | exact HX.out _ _ (Sat.keep S1 (by (repeat (first | exact Keeps.refl _ _ | refine Keeps.alloc ?_ _ | refine Keeps.drew ?_ | refine Keeps.drewN ?_ _)))) (by simp)) (first
    | (go_at_call 38; refine (tclone_tree (g := g) (by (repeat (first | refine Sat.drew ?_ | refine Sat.drewN ?_ _)); exact S1.p1)).mono ?_; rintro e w2 ⟨t2, rfl, S2⟩; obtain ⟨q0, q1, q2, q3⟩ := HX.out _ _ S2 (by simp))
    | (go_at_call 39; refine (tbl_clone (g := g) (by (repeat (first | refine Sat.drew ?_ | refine Sat.drewN ?_ _)); exact S2.bring 3)).mono ?_; rintro e w3 ⟨ts2, rfl, S3⟩; obtain ⟨q0, q1, q2, q3⟩ := HX.out _ _ S3 (by simp))
    | (go_at_call 40; refine (clone_book (g := g) (by (repeat (first | refine Sat.drew ?_ | refine Sat.drewN ?_ _)); exact S3.bring 5) (by omega) (by omega)).mono ?_; rintro e w4 ⟨bk2, nos, rfl, hnos, S4⟩; obtain ⟨q0, q1, q2, q3⟩ := HX.out _ _ S4 (by simp)))
  all_goals
    have S5 := S4.box #[ptr t2, ptr ts2, ptr bk2, .int .i64 s.at_] 78 rfl
    have S6 := Sat.stateShut (s := ⟨s.tree, s.tab, ⟨s.book.ws, s.book.es, nos⟩, s.at_⟩) ((((((((S5.bring 4).bring 6).bring 7).bring 4).bring 6).bring 7).bring 6))
    have S7 := Sat.stateShut (((((S6.bring 4).bring 4).bring 4).bring 4))
    have HS := hide S7.p1
    have HN := hide hnos
    clear S1 S2 S3 S4 S5 S6 S7 q0 q1 q2 q3 hnos HX
    go_wp2_with fail
    go_ret
    exact ⟨_, nos, rfl, HN.out, by (repeat (first | refine Sat.drew ?_ | refine Sat.drewN ?_ _)); exact HS.out⟩

def layS (s : StT) : List UInt8 := nums [s.at_] ++ layN s.tree ++ layB s.tab ++ layW s.book
theorem Sat.tblOk {g w : World} {L : List Asn} {t : Nat} {m : Tab} (S0 : Sat g w (tblA t m :: L)) : (keys m).Nodup := by
  obtain ⟨mb, S1⟩ := S0.tblOpen
  exact S1.p1.mapOf.nodup
theorem Sat.bookNd {g w : World} {L : List Asn} {b : Nat} {B : BookT} (S0 : Sat g w (bookA b B :: L)) : (keys B.nos).Nodup := by
  obtain ⟨wv, S1⟩ := S0.bookOpen
  obtain ⟨ev, m, S2⟩ := S1.notesOpen
  exact S2.p2.mapOf.nodup
end Go.Proofs.YtanlobdidjednaaGreatDoor
