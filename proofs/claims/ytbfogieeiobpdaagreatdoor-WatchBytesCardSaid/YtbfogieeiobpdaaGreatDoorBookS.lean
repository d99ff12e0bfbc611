/- Contracts of the package watch: Clone of a book. No condition. -/
import Derived.Test.YtbfogieeiobpdaaGreatDoorBookR
import Derived.Test.YtbfogieeiobpdaaGreatDoorTreeM
import Derived.Deep.RegionHeld3
set_option linter.unusedVariables false
set_option linter.unusedSimpArgs false
namespace Go.Proofs.YtbfogieeiobpdaaGreatDoor
open Go.RowKit

theorem p7 {A B C D E F G H : Asn} {L : List Asn} {h : Hp} (X : stars (A :: B :: C :: D :: E :: F :: G :: H :: L) h) : stars (H :: A :: B :: C :: D :: E :: F :: G :: L) h := star_perm (star_mono (fun _ h => h) (fun _ h => p6 h) X)
theorem Sat.p7 {g w : World} {A B C D E F G H : Asn} {L : List Asn} (S : Sat g w (A :: B :: C :: D :: E :: F :: G :: H :: L)) : Sat g w (H :: A :: B :: C :: D :: E :: F :: G :: L) := S.map fun _ => Go.Proofs.YtbfogieeiobpdaaGreatDoor.p7

set_option maxRecDepth 100000 in
set_option maxHeartbeats 4000000 in
theorem clone_book {g w : World} {L : List Asn} {b : Nat} {B : BookT} (S : Sat g w (bookA b B :: L)) (hl : B.es.length ≤ 1000000) (hl2 : B.ws.length ≤ 1000) :
    Calls Tryz.prog 20 #[ptr b] w fun e w' => ∃ t nos, e = .returned (ptr t) ∧ (∀ k, mget nos k = mget B.nos k) ∧ Sat g w' (bookA t ⟨B.ws, B.es, nos⟩ :: bookA b B :: L) := by
  go_enter Tryz.func20, Tryz.ntmps20
  go_wp2_with fail
  refine (new_book S).mono ?_
  rintro e w1 ⟨t, rfl, S1⟩
  obtain ⟨wv0, S2⟩ := S1.bookOpen
  obtain ⟨ev0, m0, S3⟩ := S2.notesOpen
  obtain ⟨wv, S4⟩ := (S3.p1.drop.p2.drop).p2.bookOpen
  obtain ⟨ev, m, S5⟩ := S4.notesOpen
  obtain ⟨A, c, rfl, -⟩ := S5.p3.row.form
  obtain ⟨A2, c2, rfl, -⟩ := S5.p1.row.form
  obtain ⟨ws, es, nos⟩ := B
  simp only at hl hl2 S5
  clear S S1 S2 S3 S4
  have c0 := S5.cell 0 _ rfl
  have c1 := S5.cell 1 _ rfl
  go_upto_region 3 with fail
  have q0 := S5.p4.cell 0 _ rfl
  have q1 := S5.p4.cell 1 _ rfl
  go_region_held3 (fun w' => w'.cell? ⟨b, 0, none⟩ = some (.slice A ws.length c) ∧ w'.cell? ⟨b, 1, none⟩ = some (.slice A2 es.length c2)) (first
    | (go_keep; done)
    | exact ⟨((S7.p6.setc 0 _).p5).cell 0 _ rfl, ((S7.p6.setc 0 _).p5).cell 1 _ rfl⟩
    | exact ⟨(((S7.p6.setc 0 _).setc 1 _).p5).cell 0 _ rfl, (((S7.p6.setc 0 _).setc 1 _).p5).cell 1 _ rfl⟩) (first
    | (go_at_call 62; refine (clone_wat S5.drew.p3 (by omega)).mono ?_; rintro e w6 ⟨v6, rfl, S6⟩; have d0 := S6.p2.cell 0 _ rfl; have d1 := S6.p2.cell 1 _ rfl)
    | (go_at_call 63; refine (clone_ev S6.p3 (by omega)).mono ?_; rintro e w7 ⟨v7, rfl, S7⟩; obtain ⟨A6, c6, rfl, -⟩ := S7.p2.row.form; obtain ⟨A7, c7, rfl, -⟩ := S7.row.form; have d0 := S7.p4.cell 0 _ rfl; have d1 := S7.p4.cell 1 _ rfl; have t0 := S7.p6.cell 0 _ rfl; have t1 := S7.p6.cell 1 _ rfl; have g0 := S7.p6.cells_fz 0; have g1 := S7.p6.cells_fz 1))
  have S8 := ((((S7.p6.setc 0 (.slice A6 ws.length c6)).setc 1 (.slice A7 es.length c7)).p6).p7).p1
  have S8' : Sat g ((w7.setCell ⟨t, 0, none⟩ (.slice A6 ws.length c6)).setCell ⟨t, 1, none⟩ (.slice A7 es.length c7)) (mapA kW kW m nos :: mapA kW kW m0 [] :: cellsA t 99 #[.slice A6 ws.length c6, .slice A7 es.length c7, .map (some m0)] :: rowA 74 5 (.slice A7 es.length c7) es.length (es.flatMap evC) :: rowA 74 5 (.slice A2 es.length c2) es.length (es.flatMap evC) :: rowA 96 4 (.slice A6 ws.length c6) ws.length (ws.flatMap watC) :: rowA 96 4 (.slice A ws.length c) ws.length (ws.flatMap watC) :: cellsA b 99 #[.slice A ws.length c, .slice A2 es.length c2, .map (some m)] :: L) := S8
  generalize (w7.setCell ⟨t, 0, none⟩ (.slice A6 ws.length c6)).setCell ⟨t, 1, none⟩ (.slice A7 es.length c7) = w8 at *
  clear S5 S6 S7 S8 c0 c1 q0 q1
  have hnd := S8'.mapOf.nodup
  have b2 := S8'.p7.cell 2 _ rfl
  go_wp2_with (refine wpList_srange rfl _ _ rfl Tryz.underlying30 S8' rfl ?_; intro w9 S9)
  generalize w8.heap.size = ri at *
  clear S8' b2
  go_simp
  go_loopw [5] (fun _ wr => ∃ (lf nos' : List (Int × Int)), (∀ k, mget nos' k = if k ∈ keys lf then none else mget nos k) ∧ Sat g wr (rangeA kW kW m ri nos lf :: mapA kW kW m0 nos' :: cellsA t 99 #[.slice A6 ws.length c6, .slice A7 es.length c7, .map (some m0)] :: rowA 74 5 (.slice A7 es.length c7) es.length (es.flatMap evC) :: rowA 74 5 (.slice A2 es.length c2) es.length (es.flatMap evC) :: rowA 96 4 (.slice A6 ws.length c6) ws.length (ws.flatMap watC) :: rowA 96 4 (.slice A ws.length c) ws.length (ws.flatMap watC) :: cellsA b 99 #[.slice A ws.length c, .slice A2 es.length c2, .map (some m)] :: L)) (fun _ wr => wr.rangeLeft m ri)
  case atStart =>
    refine ⟨nos, [], fun k => ?_, S9⟩
    by_cases hk : k ∈ keys nos
    · rw [if_pos hk]; rfl
    · rw [if_neg hk, mget_none.2 hk]; rfl
  case round =>
    obtain ⟨lf, nos', hrl, S10⟩ := hrel
    clear S9
    have hsub := S10.rangeSub
    have hnl : (keys lf).Nodup := hnd.sublist (hsub.map _)
    have HML := hide S10.rangeLeft
    have HRL := hide hrl
    clear hrl
    go_wp2_with (at_next; refine wpList_snext rfl _ rfl kWT S10 rfl ?_ ?_)
    · intro hl0
      subst hl0
      have R0 := S10.rangeEnd
      have R1 := (((((R0.p7.p5.p1).notesShut).p5.p1).bookShut (B := ⟨ws, es, nos⟩)).p2.p3.p1.p3.b2)
      have R2 := ((R1.notesShut).p2.p1).bookShut (B := ⟨ws, es, nos'⟩)
      have HS := hide R2
      have HE : Hid (∀ k, mget nos' k = mget nos k) := hide fun k => by have := HRL.out k; simpa using this
      clear S10 R0 R1 R2
      go_wp2_with fail
      go_ret
      first | exact ⟨t, nos', rfl, HE.out, HS.out⟩ | exact ⟨t, rfl, nos', HE.out, HS.out⟩
    · intro k nv w5 hm1 hm2 S11 hlt hen
      obtain ⟨w6, hup, hmo, hku⟩ := S11.p1.mapOf.update kWT Tryz.underlying30 k nv
      have hup' : (Instr.mapUpdate 30 (.map (some m0)) (.int .i64 k) (.int .i64 nv)).run Tryz.prog w5 = .ok () w6 := hup
      have HS12 := hide ((S11.p1.mapPut hku hmo).p1)
      have t2 := S11.p2.cell 2 _ rfl
      have HN : Hid (∀ j, mget (mput nos' k nv) j = if j ∈ keys (mdel lf k) then none else mget nos j) := hide fun j => by
        rw [mget_mput, HRL.out j]
        by_cases hj : j = k
        · subst hj
          rw [if_pos rfl, if_neg (fun h => (mem_keys_mdel.1 h).2 rfl), mget_some hnd hm2]
        · rw [if_neg hj]
          by_cases hjl : j ∈ keys lf
          · rw [if_pos hjl, if_pos (mem_keys_mdel.2 ⟨hjl, hj⟩)]
          · rw [if_neg hjl, if_neg (fun h => hjl (mem_keys_mdel.1 h).1)]
      have HLT := hide hlt
      clear S10 hup hmo hku hm1 hm2 hlt hsub hnl
      go_wp2_with fail
      go_roundw
      case rel => exact ⟨mdel lf k, mput nos' k nv, HN.out, HS12.out⟩
      case measure => rw [HS12.out.rangeLeft, HML.out]; exact HLT.out

end Go.Proofs.YtbfogieeiobpdaaGreatDoor
