/- The model of the statements of layer 11: Drop. No condition. -/
import Derived.Test.YtbfogieeiobpdaaGreatDoorWModD
set_option linter.unusedVariables false
set_option linter.unusedSimpArgs false
namespace Go.Proofs.YtbfogieeiobpdaaGreatDoor
open Go.RowKit

theorem del_nil (w : World) (ty : TypeId) (k : Int) : (Builtin.delete_ #[30, 3] ty #[.map none, .int .i64 k]).run Tryz.prog w = .ok (.tuple #[]) w := by kernel_rfl

set_option maxRecDepth 100000 in
set_option maxHeartbeats 8000000 in
theorem mdrop_model {g w : World} {L : List Asn} {b : Nat} {B : BookT} (S : Sat g w (modelA b B :: L)) (hl : B.es.length ≤ 1000000) (hl2 : B.ws.length ≤ 1000) (sess : Int) :
    Calls Tryz.prog 52 #[ptr b, .int .i64 sess] w fun e w' => e = .returned (.tuple #[]) ∧ Sat g w' (modelA b (dropF B sess) :: L) := by
  obtain ⟨ws, es, nos⟩ := B
  simp only at hl hl2
  have HLT : Hid (∀ (w' : World) (sb : Nat) (L' : List Asn), Sat g w' (modelA b ⟨ws, es, nos⟩ :: cellsA sb 3 #[.int .i64 sess] :: L') → Calls Tryz.prog 49 #[ptr b, .func (.func 91) #[] #[ptr sb]] w' fun e w2 => e = .returned (.tuple #[]) ∧ Sat g w2 (modelA b ⟨ws, es.filter fun x => !decide (x.session = sess), nos⟩ :: cellsA sb 3 #[.int .i64 sess] :: L')) := hide fun w' sb L' S' =>
    mlet_model (p := fun x => decide (x.session = sess)) S' hl eg_mdrop (fun x w2 L2 S2 hm => mdrop1_watch x sess (S2.cell_of (t := 3) (cs := #[.int .i64 sess]) (hm _ (by simp)) 0 _ rfl))
  have HST : Hid (∀ k x, ws[k]? = some x → (ws.take (k + 1)).filter (fun x => !decide (x.session = sess)) = (ws.take k).filter (fun x => !decide (x.session = sess)) ++ if decide (x.session = sess) = true then [] else [x]) := hide fun k x h => filt_step h
  have HLE : Hid (∀ k, ((ws.take k).filter (fun x => !decide (x.session = sess))).length ≤ 1000) := hide fun k => by
    have h1 := List.length_filter_le (fun x => !decide (WatT.session x = sess)) (ws.take k)
    have h3 : (ws.take k).length ≤ ws.length := by simp; omega
    omega
  have HDF : Hid (dropF ⟨ws, es, nos⟩ sess = ⟨ws.filter fun x => !decide (x.session = sess), es.filter fun x => !decide (x.session = sess), mdel nos sess⟩) := rfl
  obtain ⟨fp, hfp⟩ : ∃ fp : WatT → Bool, (fun x : WatT => !decide (x.session = sess)) = fp := ⟨_, rfl⟩
  obtain ⟨es2, hes2⟩ : ∃ es2, (es.filter fun x => !decide (x.session = sess)) = es2 := ⟨_, rfl⟩
  rw [hfp] at HST HLE HDF
  rw [hes2] at HLT HDF
  clear hfp hes2
  generalize dropF ⟨ws, es, nos⟩ sess = B2 at *
  go_enter Tryz.func52, Tryz.ntmps52
  go_upto_region 1 with fail
  have S1 := S.box #[.int .i64 sess] 3 rfl
  generalize w.alloc (.cells #[.int .i64 sess] 3) = w1 at *
  generalize w.heap.size = sb at *
  clear S
  go_wp2_with fail
  refine (HLT.out _ _ _ S1.p1).mono ?_
  rintro e w2 ⟨rfl, S2⟩
  obtain ⟨wv, S3⟩ := S2.modelOpen
  obtain ⟨ev, nv, S4⟩ := S3.mnotesOpen
  simp only at S4
  obtain ⟨A, c, rfl, -⟩ := S4.p3.row.form
  clear S1 S2 S3 HLT
  go_upto_region 3 with fail
  have S5 := (S4.box #[] 96 rfl).rowOf 4 0 rfl (Nat.zero_le _)
  generalize w2.alloc (.cells #[] 96) = w5 at *
  generalize w2.heap.size = rb at *
  have c0 := S5.p1.cell 0 _ rfl
  clear S4
  go_wp2_with fail
  go_loopw [4, 16] (fun v i wr => ∃ k : Nat, k ≤ ws.length ∧ i = .int .i64 k ∧ Sat g wr (rowA 96 4 v ((ws.take k).filter fp).length (((ws.take k).filter fp).flatMap watC) :: cellsA b 32 #[.slice A ws.length c, ev, nv] :: rowA 74 5 ev es2.length (es2.flatMap evC) :: nosA nv nos :: rowA 96 4 (.slice A ws.length c) ws.length (ws.flatMap watC) :: cellsA sb 3 #[.int .i64 sess] :: L)) (fun _ i _ => ws.length - (RowKit.intOf i).toNat)
  case atStart => exact ⟨0, by omega, rfl, by simpa using S5⟩
  case round =>
    obtain ⟨k, hk, rfl, S6⟩ := hrel
    clear S5 c0
    by_cases hlt : k < ws.length
    · have hk0 : (0 : Int) ≤ (k : Int) := by omega
      have hk1 : (k : Int) < (ws.length : Int) := by omega
      obtain ⟨ad, x, rfl, hx, d0, d1, d2, d3⟩ := wat_at S6.p4.srcR hlt
      have hst := HST.out k x hx
      have HSTx := hide hst
      have hle := HLE.out k
      clear hst hx
      generalize (ws.take k).filter fp = el at *
      obtain ⟨ss, p, kd, on⟩ := x
      simp only at d0 d1 d2 d3 HSTx
      obtain ⟨B3, c3, rfl, -⟩ := S6.row.form
      go_upto_region 6 with fail
      have S7 := S6.box #[.int .i64 ss, .string (Go.Proofs.YtbfogieeiobpdaaGreatDoor.S p), .bool kd, .bool on] 96 rfl
      generalize wr.alloc (.cells #[.int .i64 ss, .string (Go.Proofs.YtbfogieeiobpdaaGreatDoor.S p), .bool kd, .bool on] 96) = w7 at *
      generalize wr.heap.size = xb at *
      have x0 := S7.cell 0 _ rfl
      have x1 := S7.cell 1 _ rfl
      have x2 := S7.cell 2 _ rfl
      have x3 := S7.cell 3 _ rfl
      have s0 := S7.p6.cell 0 _ rfl
      clear d0 d1 d2 d3 S6
      by_cases hs : ss = sess
      · subst hs
        rw [if_pos (by simp), List.append_nil] at HSTx
        go_wp2_with fail
        go_roundw
        case rel =>
          refine ⟨k + 1, by omega, by go_num, ?_⟩
          rw [HSTx.out]
          exact S7.drop
        case measure => simp [RowKit.intOf]; omega
      · have hsb : (ss == sess) = false := by simpa using hs
        rw [if_neg (by simpa using hs)] at HSTx
        go_wp2_with (at_builtin; refine wpList_sapp slW rfl (.tmp 24) (.tmp 26) rfl (g := g) (S := (S7.box #[.int .i64 ss, .string (Go.Proofs.YtbfogieeiobpdaaGreatDoor.S p), .bool kd, .bool on] 96 rfl).p2) rfl (Src.block (heap_alloc_new _ _) 4 1 rfl) rfl (by simp [Value.oneCell']) (by unfold maxLen; omega) (by omega) ?_; intro A8 c8 w8 S8)
        go_roundw
        case rel =>
          refine ⟨k + 1, by omega, by go_num, ?_⟩
          rw [HSTx.out, List.length_append, List.length_singleton, List.flatMap_append, List.flatMap_singleton]
          exact S8.p1.drop.p1.drop
        case measure => simp [RowKit.intOf]; omega
    · obtain rfl : k = ws.length := by omega
      rw [List.take_length] at S6
      obtain ⟨el, hel⟩ : ∃ el, ws.filter fp = el := ⟨_, rfl⟩
      rw [hel] at S6
      rw [hel] at HDF
      clear hel
      obtain ⟨A2, c2, rfl, -⟩ := S6.row.form
      have S7 := S6.p1
      have c0 := S7.cell 0 _ rfl
      have f0 := S7.cells_fz 0
      have S8 := S7.setc 0 (.slice A2 el.length c2)
      have S9 : Sat g (wr.setCell ⟨b, 0, none⟩ (.slice A2 el.length c2)) (cellsA b 32 #[.slice A2 el.length c2, ev, nv] :: rowA 96 4 (.slice A2 el.length c2) el.length (el.flatMap watC) :: rowA 74 5 ev es2.length (es2.flatMap evC) :: nosA nv nos :: rowA 96 4 (.slice A ws.length c) ws.length (ws.flatMap watC) :: cellsA sb 3 #[.int .i64 sess] :: L) := S8
      go_upto_region 10 with fail
      generalize wr.setCell ⟨b, 0, none⟩ (.slice A2 el.length c2) = w9 at *
      have SA := S9.p4.drop
      clear S6 S7 S8 S9 c0 f0
      rcases SA.p3.nosForm with ⟨rfl, rfl, SB⟩ | ⟨m, rfl, SB⟩
      · have y0 := SB.cell 2 _ rfl
        have y1 := SB.p3.cell 0 _ rfl
        have SD := SB.drew
        have z0 := SD.cell 2 _ rfl
        have z1 := SD.p3.cell 0 _ rfl
        have hde' := del_nil w9.drew
        have hde'' : ∀ ty, (Builtin.delete_ #[30, 3] ty #[.map none, .int .i64 sess]).run Tryz.prog w9.drew = .ok (.tuple #[]) w9.drew := fun ty => del_nil _ ty sess
        have HS := hide (Sat.modelShut (B := ⟨el, es2, []⟩) (Sat.mnotesShut ((SD.p3.drop).p2.p1).nosNone.b2))
        clear SA SB SD hde'
        go_still_tail 5, (by kernel_rfl)
        change wpList _ _ _ _ _ w9.drew
        go_wp2_with fail
        go_end0
        refine ⟨rfl, ?_⟩
        rw [HDF.out]
        exact HS.out
      · have y0 := SB.p1.cell 2 _ rfl
        have y1 := SB.p4.cell 0 _ rfl
        have SD := SB.drew
        have z0 := SD.p1.cell 2 _ rfl
        have z1 := SD.p4.cell 0 _ rfl
        obtain ⟨wd, hde, hm2, hk2⟩ := SD.mapOf.delete (ty := 0) (t2 := 3) kWT Tryz.underlying30 sess
        have hde' : ∀ ty, (Builtin.delete_ #[30, 3] ty #[.map (some m), .int .i64 sess]).run Tryz.prog w9.drew = .ok (.tuple #[]) wd := fun _ => hde
        have SE := SD.mapPut hk2 hm2
        have HS := hide (Sat.modelShut (B := ⟨el, es2, mdel nos sess⟩) (Sat.mnotesShut ((SE.p4.drop).nosSome).p3.p2))
        clear SA SB SD hde hm2 hk2
        go_still_tail 5, (by kernel_rfl)
        change wpList _ _ _ _ _ w9.drew
        go_wp2_with fail
        go_end0
        refine ⟨rfl, ?_⟩
        rw [HDF.out]
        exact HS.out

end Go.Proofs.YtbfogieeiobpdaaGreatDoor
