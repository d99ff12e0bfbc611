/- Contracts of the package watch: Noted, Drop of a book. No condition. -/
import Derived.Test.YtbfogieeiobpdaaGreatDoorBookD
set_option linter.unusedVariables false
set_option linter.unusedSimpArgs false
namespace Go.Proofs.YtbfogieeiobpdaaGreatDoor
open Go.RowKit

def notedF (B : BookT) (sess no : Int) : BookT := { B with es := B.es.filter fun x => !decide (x.session = sess ∧ x.no ≤ no) }
def dropF (B : BookT) (sess : Int) : BookT := ⟨B.ws.filter fun x => !decide (x.session = sess), B.es.filter fun x => !decide (x.session = sess), mdel B.nos sess⟩

theorem eg_noted (args : Array Value) (w : World) : (callFunc 88 args).run Tryz.prog w = .ok (.enter 88 args) w := by kernel_rfl

set_option maxRecDepth 100000 in
set_option maxHeartbeats 4000000 in
theorem noted_book {g w : World} {L : List Asn} {b : Nat} {B : BookT} (S : Sat g w (bookA b B :: L)) (hl : B.es.length ≤ 1000000) (sess no : Int) :
    Calls Tryz.prog 48 #[ptr b, .int .i64 sess, .int .i64 no] w fun e w' => e = .returned (.tuple #[]) ∧ Sat g w' (bookA b (notedF B sess no) :: L) := by
  obtain ⟨wv, S1⟩ := S.bookOpen
  obtain ⟨ev, m, S2⟩ := S1.notesOpen
  clear S S1
  obtain ⟨ws, es, nos⟩ := B
  simp only at hl S2
  obtain ⟨A, c, rfl, -⟩ := S2.p1.row.form
  go_enter Tryz.func48, Tryz.ntmps48
  go_upto_region 1 with fail
  have S3 := (S2.box #[.int .i64 sess] 3 rfl).box #[.int .i64 no] 3 (b := w.heap.size + 1) (by simp)
  generalize (w.alloc (.cells #[.int .i64 sess] 3)).alloc (.cells #[.int .i64 no] 3) = w3 at *
  generalize w.heap.size = sb at *
  have c1 : w3.cell? ⟨b, 1, none⟩ = some (.slice A es.length c) := S3.p2.cell 1 _ rfl
  have S4 : Sat g w3 (rowA 74 5 (.slice A es.length c) es.length (es.flatMap evC) :: cellsA sb 3 #[.int .i64 sess] :: cellsA (sb + 1) 3 #[.int .i64 no] :: cellsA b 99 #[wv, .slice A es.length c, .map (some m)] :: mapA kW kW m nos :: rowA 96 4 wv ws.length (ws.flatMap watC) :: L) := S3.p1.p3
  have hdel := del_ev (p := fun x => decide (x.session = sess ∧ x.no ≤ no)) (gF := 88) (lb := #[ptr sb, ptr (sb + 1)]) (I := fun _ => cellsA sb 3 #[.int .i64 sess] :: cellsA (sb + 1) 3 #[.int .i64 no] :: cellsA b 99 #[wv, .slice A es.length c, .map (some m)] :: mapA kW kW m nos :: rowA 96 4 wv ws.length (ws.flatMap watC) :: L)
    (fun k x A w' _ S' => (noted1_watch x sess no S'.b2).mono fun e w2 h => ⟨h.1, S'.keep h.2⟩) eg_noted S4 hl
  have HD := hide hdel
  clear hdel S4 S3 S2
  go_wp2_with fail
  refine HD.out.mono ?_
  rintro e w4 ⟨v', rfl, S5⟩
  generalize hes2 : es.filter (fun x => !decide (x.session = sess ∧ x.no ≤ no)) = es2 at *
  have HE := hide hes2
  clear hes2 HD
  obtain ⟨A6, c6, rfl, -⟩ := S5.row.form
  have S6 := S5.p3
  have hf := S6.cells_fz 1
  have hc := S6.cell 1 _ rfl
  go_wp2_with fail
  go_end0
  refine ⟨rfl, ?_⟩
  rw [show notedF ⟨ws, es, nos⟩ sess no = ⟨ws, es2, nos⟩ from by rw [← HE.out]; rfl]
  exact Sat.bookShut (B := ⟨ws, es2, nos⟩) (Sat.notesShut (((S6.setc 1 _).p2.drop).p2.drop))

theorem eg_drop1 (args : Array Value) (w : World) : (callFunc 89 args).run Tryz.prog w = .ok (.enter 89 args) w := by kernel_rfl
theorem eg_drop2 (args : Array Value) (w : World) : (callFunc 90 args).run Tryz.prog w = .ok (.enter 90 args) w := by kernel_rfl

set_option maxRecDepth 100000 in
set_option maxHeartbeats 4000000 in
theorem drop_book {g w : World} {L : List Asn} {b : Nat} {B : BookT} (S : Sat g w (bookA b B :: L)) (hl : B.es.length ≤ 1000000) (hl2 : B.ws.length ≤ 1000000) (sess : Int) :
    Calls Tryz.prog 51 #[ptr b, .int .i64 sess] w fun e w' => e = .returned (.tuple #[]) ∧ Sat g w' (bookA b (dropF B sess) :: L) := by
  obtain ⟨wv, S1⟩ := S.bookOpen
  obtain ⟨ev, m, S2⟩ := S1.notesOpen
  clear S S1
  obtain ⟨ws, es, nos⟩ := B
  simp only at hl hl2 S2
  obtain ⟨A, c, rfl, -⟩ := S2.p1.row.form
  obtain ⟨A1, c1, rfl, -⟩ := S2.p3.row.form
  go_enter Tryz.func51, Tryz.ntmps51
  go_upto_region 1 with fail
  have S3 := S2.box #[.int .i64 sess] 3 rfl
  generalize w.alloc (.cells #[.int .i64 sess] 3) = w3 at *
  generalize w.heap.size = sb at *
  have d0 : w3.cell? ⟨b, 0, none⟩ = some (.slice A1 ws.length c1) := S3.p1.cell 0 _ rfl
  have S4 : Sat g w3 (rowA 96 4 (.slice A1 ws.length c1) ws.length (ws.flatMap watC) :: cellsA sb 3 #[.int .i64 sess] :: cellsA b 99 #[.slice A1 ws.length c1, .slice A es.length c, .map (some m)] :: rowA 74 5 (.slice A es.length c) es.length (es.flatMap evC) :: mapA kW kW m nos :: L) := S3.p4
  have hdel := del_wat (p := fun x => decide (x.session = sess)) (gF := 89) (lb := #[ptr sb]) (I := fun _ => cellsA sb 3 #[.int .i64 sess] :: cellsA b 99 #[.slice A1 ws.length c1, .slice A es.length c, .map (some m)] :: rowA 74 5 (.slice A es.length c) es.length (es.flatMap evC) :: mapA kW kW m nos :: L)
    (fun k x A w' _ S' => (drop1_watch x sess S'.p1).mono fun e w2 h => ⟨h.1, S'.keep h.2⟩) eg_drop1 S4 hl2
  have HD := hide hdel
  clear hdel S4 S3 S2
  go_wp2_with fail
  refine HD.out.mono ?_
  rintro e w4 ⟨v', rfl, S5⟩
  clear HD d0
  generalize hws2 : ws.filter (fun x => !decide (x.session = sess)) = ws2 at *
  have HW := hide hws2
  clear hws2
  obtain ⟨A6, c6, rfl, -⟩ := S5.row.form
  have S6 := S5.p2
  have hf := S6.cells_fz 0
  have hc := S6.cell 0 _ rfl
  go_upto_region 3 with fail
  have S7 := S6.setc 0 (.slice A6 ws2.length c6)
  generalize w4.setCell ⟨b, 0, none⟩ (.slice A6 ws2.length c6) = w7 at *
  have S8 : Sat g w7 (rowA 74 5 (.slice A es.length c) es.length (es.flatMap evC) :: cellsA sb 3 #[.int .i64 sess] :: cellsA b 99 #[.slice A6 ws2.length c6, .slice A es.length c, .map (some m)] :: rowA 96 4 (.slice A6 ws2.length c6) ws2.length (ws2.flatMap watC) :: mapA kW kW m nos :: L) := S7.p2.p2.b2.p3
  clear S7 S6 S5 hf hc
  have d1 : w7.cell? ⟨b, 1, none⟩ = some (.slice A es.length c) := S8.p2.cell 1 _ rfl
  have hdel := del_ev (p := fun x => decide (x.session = sess)) (gF := 90) (lb := #[ptr sb]) (I := fun _ => cellsA sb 3 #[.int .i64 sess] :: cellsA b 99 #[.slice A6 ws2.length c6, .slice A es.length c, .map (some m)] :: rowA 96 4 (.slice A6 ws2.length c6) ws2.length (ws2.flatMap watC) :: mapA kW kW m nos :: L)
    (fun k x A w' _ S' => (drop2_watch x sess S'.p1).mono fun e w2 h => ⟨h.1, S'.keep h.2⟩) eg_drop2 S8 hl
  have HD := hide hdel
  clear hdel S8
  go_wp2_with fail
  refine HD.out.mono ?_
  rintro e w9 ⟨v', rfl, S9⟩
  clear HD d1
  generalize hes2 : es.filter (fun x => !decide (x.session = sess)) = es2 at *
  have HE := hide hes2
  clear hes2
  obtain ⟨A9, c9, rfl, -⟩ := S9.row.form
  have S6 := S9.p2
  have hf := S6.cells_fz 1
  have hc := S6.cell 1 _ rfl
  go_upto_region 4 with fail
  have S7 := S6.setc 1 (.slice A9 es2.length c9)
  generalize w9.setCell ⟨b, 1, none⟩ (.slice A9 es2.length c9) = wa at *
  have S8 : Sat g wa (cellsA b 99 #[.slice A6 ws2.length c6, .slice A9 es2.length c9, .map (some m)] :: rowA 74 5 (.slice A9 es2.length c9) es2.length (es2.flatMap evC) :: cellsA sb 3 #[.int .i64 sess] :: rowA 96 4 (.slice A6 ws2.length c6) ws2.length (ws2.flatMap watC) :: mapA kW kW m nos :: L) := S7
  clear S7 S6 S9 hf hc
  have S9 := S8.drew
  have z0 : wa.drew.cell? ⟨b, 2, none⟩ = some (.map (some m)) := S9.cell 2 _ rfl
  have z1 : wa.drew.cell? ⟨sb, 0, none⟩ = some (.int .i64 sess) := S9.p2.cell 0 _ rfl
  obtain ⟨wd, hde, hm2, hk2⟩ := S9.p4.mapOf.delete (ty := 0) (t2 := 3) kWT Tryz.underlying30 sess
  have hde' : ∀ ty, (Builtin.delete_ #[30, 3] ty #[.map (some m), .int .i64 sess]).run Tryz.prog wa.drew = .ok (.tuple #[]) wd := fun _ => hde
  have S10 := S9.p4.mapPut hk2 hm2
  have y0 : wa.cell? ⟨b, 2, none⟩ = some (.map (some m)) := S8.cell 2 _ rfl
  have y1 : wa.cell? ⟨sb, 0, none⟩ = some (.int .i64 sess) := S8.p2.cell 0 _ rfl
  clear hde hm2 hk2 S9 S8
  go_still_tail 5, (by kernel_rfl)
  change wpList _ _ _ _ _ wa.drew
  go_wp2_with fail
  go_end0
  refine ⟨rfl, ?_⟩
  rw [show dropF ⟨ws, es, nos⟩ sess = ⟨ws2, es2, mdel nos sess⟩ from by rw [← HE.out, ← HW.out]; rfl]
  exact Sat.bookShut (B := ⟨ws2, es2, mdel nos sess⟩) (Sat.notesShut (S10.p3.drop).b2)

end Go.Proofs.YtbfogieeiobpdaaGreatDoor
