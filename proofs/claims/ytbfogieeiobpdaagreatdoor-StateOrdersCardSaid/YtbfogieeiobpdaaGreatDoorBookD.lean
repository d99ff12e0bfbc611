/- Contracts of the package watch: Watches, Events, Noted, Drop of a book. No condition. -/
import Derived.Test.YtbfogieeiobpdaaGreatDoorBookC
set_option linter.unusedVariables false
set_option linter.unusedSimpArgs false
namespace Go.Proofs.YtbfogieeiobpdaaGreatDoor
open Go.RowKit

set_option maxRecDepth 100000 in
theorem watches_book {g w : World} {L : List Asn} {b : Nat} {B : BookT} (S : Sat g w (bookA b B :: L)) (hl : B.ws.length ≤ 1000) :
    Calls Tryz.prog 19 #[ptr b] w fun e w' => ∃ v, e = .returned v ∧ Sat g w' (rowA 96 4 v B.ws.length (B.ws.flatMap watC) :: bookA b B :: L) := by
  obtain ⟨wv, S1⟩ := S.bookOpen
  obtain ⟨ev, m, S2⟩ := S1.notesOpen
  clear S S1
  obtain ⟨A, c, rfl, -⟩ := S2.p3.row.form
  have c0 : w.cell? ⟨b, 0, none⟩ = some (.slice A B.ws.length c) := S2.cell 0 _ rfl
  go_enter Tryz.func19, Tryz.ntmps19
  go_wp2_with fail
  refine (clone_wat S2.p3 (by omega)).mono ?_
  rintro e w1 ⟨v, rfl, S3⟩
  go_wp2_with fail
  go_ret
  refine ⟨_, rfl, ?_⟩
  have S4 : Sat g w1 (notesA b (.slice A B.ws.length c) B.es B.nos :: rowA 96 4 v B.ws.length (B.ws.flatMap watC) :: rowA 96 4 (.slice A B.ws.length c) B.ws.length (B.ws.flatMap watC) :: L) := (S3.b4.b4).notesShut
  exact (S4.p2.p1.bookShut).p1
theorem watches_nil (w : World) : Calls Tryz.prog 19 #[.pointer none] w fun e w' => e = .returned (.slice none 0 0) ∧ Keeps (fun _ => False) w w' := by
  go_enter Tryz.func19, Tryz.ntmps19
  go_wp2_with fail
  go_ret
  exact ⟨rfl, Keeps.refl _ _⟩

set_option maxRecDepth 100000 in
set_option maxHeartbeats 4000000 in
theorem events_book {g w : World} {L : List Asn} {b : Nat} {B : BookT} (S : Sat g w (bookA b B :: L)) (hl : B.es.length ≤ 1000000) (sess : Int) :
    Calls Tryz.prog 44 #[ptr b, .int .i64 sess] w fun e w' => ∃ v, e = .returned v ∧ Sat g w' (rowA 74 5 v (B.es.filter fun x => decide (x.session = sess)).length ((B.es.filter fun x => decide (x.session = sess)).flatMap evC) :: bookA b B :: L) := by
  obtain ⟨wv, S1⟩ := S.bookOpen
  obtain ⟨ev, m, S2⟩ := S1.notesOpen
  clear S S1
  obtain ⟨ws, es, nos⟩ := B
  simp only at hl S2 ⊢
  obtain ⟨A, c, rfl, -⟩ := S2.p1.row.form
  have c1 : w.cell? ⟨b, 1, none⟩ = some (.slice A es.length c) := S2.cell 1 _ rfl
  have HF : Hid (∀ k x, es[k]? = some x → (es.take (k + 1)).filter (fun x => decide (x.session = sess)) = (es.take k).filter (fun x => decide (x.session = sess)) ++ if x.session = sess then [x] else []) := hide fun k x h => by
    obtain ⟨hk, rfl⟩ := List.getElem?_eq_some_iff.1 h
    rw [List.take_succ_eq_append_getElem hk, List.filter_append]
    congr 1
    by_cases h1 : es[k].session = sess <;> simp [h1]
  have HLE : Hid (∀ k, ((es.take k).filter (fun x => decide (x.session = sess))).length ≤ 1000000) := hide fun k => by
    have h1 := List.length_filter_le (fun x => decide (EvT.session x = sess)) (es.take k)
    have h2 := List.length_take_le k es
    have h3 : (es.take k).length ≤ es.length := by simp; omega
    omega
  go_enter Tryz.func44, Tryz.ntmps44
  go_wp2_with fail
  go_loopw [5, 15] (fun v i wr => ∃ k : Nat, k ≤ es.length ∧ i = .int .i64 k ∧ Sat g wr (rowA 74 5 v ((es.take k).filter fun x => decide (x.session = sess)).length (((es.take k).filter fun x => decide (x.session = sess)).flatMap evC) :: cellsA b 99 #[wv, .slice A es.length c, .map (some m)] :: rowA 74 5 (.slice A es.length c) es.length (es.flatMap evC) :: mapA kW kW m nos :: rowA 96 4 wv ws.length (ws.flatMap watC) :: L)) (fun _ i _ => es.length - (RowKit.intOf i).toNat)
  case atStart => exact ⟨0, by omega, rfl, by simpa using S2.nilRow _ _⟩
  case round =>
    obtain ⟨k, hk, rfl, S3⟩ := hrel
    by_cases hlt : k < es.length
    · obtain ⟨ad, x, rfl, hx, d0, d1, d2, d3, d4⟩ := ev_at S3.p2.srcR hlt
      have hf := HF.out k x hx
      have HF2 := hide hf
      clear hf S2 c1
      obtain ⟨ss, no, p, wh, wn⟩ := x
      have hk0 : (0 : Int) ≤ (k : Int) := by omega
      have hk1 : (k : Int) < (es.length : Int) := by omega
      obtain ⟨B2, c2, rfl, -⟩ := S3.row.form
      have hle := HLE.out k
      generalize hFL : (es.take k).filter (fun x => decide (x.session = sess)) = FL at *
      clear hFL
      simp only at d0 d1 d2 d3 d4 HF2
      by_cases hs : ss = sess
      · subst hs
        rw [if_pos rfl] at HF2
        go_upto_region 6 with fail
        have S4 := S3.box #[.int .i64 ss, .int .i64 no, .string (Go.Proofs.YtbfogieeiobpdaaGreatDoor.S p), .int .i64 wh, .int .i64 wn] 74 rfl
        generalize wr.alloc (.cells #[.int .i64 ss, .int .i64 no, .string (Go.Proofs.YtbfogieeiobpdaaGreatDoor.S p), .int .i64 wh, .int .i64 wn] 74) = w4 at *
        generalize wr.heap.size = xb at *
        have x0 := S4.cell 0 _ rfl
        have x1 := S4.cell 1 _ rfl
        have x2 := S4.cell 2 _ rfl
        have x3 := S4.cell 3 _ rfl
        have x4 := S4.cell 4 _ rfl
        clear S3 d0 d1 d2 d3 d4
        go_wp2_with (at_builtin; refine wpList_sapp slV rfl (.tmp 23) (.tmp 25) rfl (g := g) (S := (S4.box #[.int .i64 ss, .int .i64 no, .string (Go.Proofs.YtbfogieeiobpdaaGreatDoor.S p), .int .i64 wh, .int .i64 wn] 74 rfl).p2) rfl (Src.block (heap_alloc_new _ _) 5 1 rfl) rfl (by simp [Value.oneCell']) (by unfold maxLen; omega) (by omega) ?_; intro A5 c5 w5 S5)
        go_roundw
        case rel =>
          refine ⟨k + 1, by omega, by go_num, ?_⟩
          rw [HF2.out]
          have S6 := S5.p1.drop.p1.drop
          simpa [evC] using S6
        case measure => simp [RowKit.intOf]; omega
      · have hsb : (ss == sess) = false := by simpa using hs
        rw [if_neg hs, List.append_nil] at HF2
        go_wp2_with fail
        go_roundw
        case rel =>
          refine ⟨k + 1, by omega, by go_num, ?_⟩
          rw [HF2.out]
          exact (S3.box _ _ rfl).drop
        case measure => simp [RowKit.intOf]; omega
    · obtain rfl : k = es.length := by omega
      rw [List.take_length] at S3
      go_wp2_with fail
      go_ret
      refine ⟨_, rfl, ?_⟩
      exact (Sat.bookShut (B := ⟨ws, es, nos⟩) (Sat.notesShut S3.b4)).p1
theorem events_nil (w : World) (sess : Int) : Calls Tryz.prog 44 #[.pointer none, .int .i64 sess] w fun e w' => e = .returned (.slice none 0 0) ∧ Keeps (fun _ => False) w w' := by
  go_enter Tryz.func44, Tryz.ntmps44
  go_wp2_with fail
  go_ret
  exact ⟨rfl, Keeps.refl _ _⟩

end Go.Proofs.YtbfogieeiobpdaaGreatDoor
