/- The model of the statements of layer 11: Let, Drop. No condition. -/
import Derived.Test.YtbfogieeiobpdaaGreatDoorWModA
set_option linter.unusedVariables false
set_option linter.unusedSimpArgs false
namespace Go.Proofs.YtbfogieeiobpdaaGreatDoor
open Go.RowKit

set_option maxRecDepth 100000 in
set_option maxHeartbeats 8000000 in
theorem mlet_model {g w : World} {L : List Asn} {b : Nat} {B : BookT} (S : Sat g w (modelA b B :: L)) (hl : B.es.length ≤ 1000000) {p : EvT → Bool} {gF : Nat} {lb : Array Value}
    (eg : ∀ args w, (callFunc gF args).run Tryz.prog w = .ok (.enter gF args) w)
    (hC : ∀ (x : EvT) (w' : World) (L' : List Asn), Sat g w' L' → (∀ A ∈ L, A ∈ L') → Calls Tryz.prog gF (#[evV x] ++ lb) w' fun e w2 => e = .returned (.bool (p x)) ∧ Keeps (fun _ => False) w' w2) :
    Calls Tryz.prog 49 #[ptr b, .func (.func gF) #[] lb] w fun e w' => e = .returned (.tuple #[]) ∧ Sat g w' (modelA b ⟨B.ws, B.es.filter fun x => !p x, B.nos⟩ :: L) := by
  obtain ⟨wv, S1⟩ := S.modelOpen
  obtain ⟨ws, es, nos⟩ := B
  simp only at hl S1
  obtain ⟨ev, nv, S2⟩ := S1.mnotesOpen
  obtain ⟨A, c, rfl, -⟩ := S2.p1.row.form
  clear S S1
  have HC := hide hC
  have HST : Hid (∀ k x, es[k]? = some x → (es.take (k + 1)).filter (fun x => !p x) = (es.take k).filter (fun x => !p x) ++ if p x = true then [] else [x]) := hide fun k x h => filt_step h
  have HLE : Hid (∀ k, ((es.take k).filter (fun x => !p x)).length ≤ 1000000) := hide fun k => by
    have h1 := List.length_filter_le (fun x => !p x) (es.take k)
    have h3 : (es.take k).length ≤ es.length := by simp; omega
    omega
  obtain ⟨fp, hfp⟩ : ∃ fp : EvT → Bool, (fun x => !p x) = fp := ⟨_, rfl⟩
  rw [hfp] at HST HLE
  rw [hfp]
  clear hC hfp
  go_enter Tryz.func49, Tryz.ntmps49
  go_upto_region 1 with fail
  have S3 := (S2.box #[] 74 rfl).rowOf 5 0 rfl (Nat.zero_le _)
  generalize w.alloc (.cells #[] 74) = w3 at *
  generalize w.heap.size = rb at *
  have c1 := S3.p1.cell 1 _ rfl
  clear S2
  go_wp2_with fail
  go_loopw [4, 13] (fun v i wr => ∃ k : Nat, k ≤ es.length ∧ i = .int .i64 k ∧ Sat g wr (rowA 74 5 v ((es.take k).filter fp).length (((es.take k).filter fp).flatMap evC) :: cellsA b 32 #[wv, .slice A es.length c, nv] :: rowA 74 5 (.slice A es.length c) es.length (es.flatMap evC) :: nosA nv nos :: rowA 96 4 wv ws.length (ws.flatMap watC) :: L)) (fun _ i _ => es.length - (RowKit.intOf i).toNat)
  case atStart => exact ⟨0, by omega, rfl, by simpa using S3⟩
  case round =>
    obtain ⟨k, hk, rfl, S4⟩ := hrel
    clear S3 c1
    by_cases hlt : k < es.length
    · have hk0 : (0 : Int) ≤ (k : Int) := by omega
      have hk1 : (k : Int) < (es.length : Int) := by omega
      obtain ⟨ad, x, rfl, hx, d0, d1, d2, d3, d4⟩ := ev_at S4.p2.srcR hlt
      have hst := HST.out k x hx
      have HSTx := hide hst
      have hle := HLE.out k
      clear hst hx
      generalize (es.take k).filter fp = el at *
      obtain ⟨pb, hpb⟩ : ∃ pb, p x = pb := ⟨_, rfl⟩
      rw [hpb] at HSTx
      have HCX : Hid (∀ (w' : World) (L' : List Asn), Sat g w' L' → (∀ A ∈ L, A ∈ L') → Calls Tryz.prog gF (#[evV x] ++ lb) w' fun e w2 => e = .returned (.bool pb) ∧ Keeps (fun _ => False) w' w2) := hide fun w' L' S' h => by have := HC.out x w' L' S' h; rwa [hpb] at this
      clear hpb
      obtain ⟨ss, no, p1, wh, wn⟩ := x
      simp only at d0 d1 d2 d3 d4
      obtain ⟨B3, c3, rfl, -⟩ := S4.row.form
      go_upto_region 4 with fail
      have S5 := S4.box #[.int .i64 ss, .int .i64 no, .string (Go.Proofs.YtbfogieeiobpdaaGreatDoor.S p1), .int .i64 wh, .int .i64 wn] 74 rfl
      generalize wr.alloc (.cells #[.int .i64 ss, .int .i64 no, .string (Go.Proofs.YtbfogieeiobpdaaGreatDoor.S p1), .int .i64 wh, .int .i64 wn] 74) = w5 at *
      generalize wr.heap.size = xb at *
      have x0 := S5.cell 0 _ rfl
      have x1 := S5.cell 1 _ rfl
      have x2 := S5.cell 2 _ rfl
      have x3 := S5.cell 3 _ rfl
      have x4 := S5.cell 4 _ rfl
      have hcall := HCX.out w5 _ S5 (by intro A hA; simp [hA])
      clear d0 d1 d2 d3 d4 S4
      cases pb
      · rw [if_neg (by simp)] at HSTx
        go_wp2_with (first | (go_at_fn gF; refine hcall.mono ?_; rintro e w6 ⟨rfl, hk6⟩; have S6 := S5.keep hk6; have x0 := S6.cell 0 _ rfl; have x1 := S6.cell 1 _ rfl; have x2 := S6.cell 2 _ rfl; have x3 := S6.cell 3 _ rfl; have x4 := S6.cell 4 _ rfl) | (at_builtin; refine wpList_sapp slV rfl (.tmp 21) (.tmp 23) rfl (g := g) (S := (S6.box #[.int .i64 ss, .int .i64 no, .string (Go.Proofs.YtbfogieeiobpdaaGreatDoor.S p1), .int .i64 wh, .int .i64 wn] 74 rfl).p2) rfl (Src.block (heap_alloc_new _ _) 5 1 rfl) rfl (by simp [Value.oneCell']) (by unfold maxLen; omega) (by omega) ?_; intro A8 c8 w8 S8))
        go_roundw
        case rel =>
          refine ⟨k + 1, by omega, by go_num, ?_⟩
          rw [HSTx.out, List.length_append, List.length_singleton, List.flatMap_append, List.flatMap_singleton]
          exact S8.p1.drop.p1.drop
        case measure => simp [RowKit.intOf]; omega
      · rw [if_pos rfl, List.append_nil] at HSTx
        go_wp2_with (go_at_fn gF; refine hcall.mono ?_; rintro e w6 ⟨rfl, hk6⟩; have S6 := S5.keep hk6)
        go_roundw
        case rel =>
          refine ⟨k + 1, by omega, by go_num, ?_⟩
          rw [HSTx.out]
          exact S6.drop
        case measure => simp [RowKit.intOf]; omega
    · obtain rfl : k = es.length := by omega
      rw [List.take_length] at S4
      obtain ⟨A2, c2, rfl, -⟩ := S4.row.form
      obtain ⟨el, hel⟩ : ∃ el, es.filter fp = el := ⟨_, rfl⟩
      rw [hel] at S4
      have HEL := hide hel
      clear hel
      have S5 := S4.p1
      have c0 := S5.cell 1 _ rfl
      have f0 := S5.cells_fz 1
      have S6 := S5.setc 1 (.slice A2 el.length c2)
      have S7 : Sat g (wr.setCell ⟨b, 1, none⟩ (.slice A2 el.length c2)) (cellsA b 32 #[wv, .slice A2 el.length c2, nv] :: rowA 74 5 (.slice A2 el.length c2) el.length (el.flatMap evC) :: rowA 74 5 (.slice A es.length c) es.length (es.flatMap evC) :: nosA nv nos :: rowA 96 4 wv ws.length (ws.flatMap watC) :: L) := S6
      have HS8 := hide (Sat.modelShut (B := ⟨ws, el, nos⟩) ((S7.p2.drop).mnotesShut))
      clear S7 S6 S5 S4
      go_wp2_with fail
      go_end0
      refine ⟨rfl, ?_⟩
      rw [HEL.out]
      exact HS8.out

set_option maxRecDepth 100000 in
theorem mdrop1_watch {w : World} (x : EvT) (sess : Int) {sb : Nat} (h0 : w.cell? ⟨sb, 0, none⟩ = some (.int .i64 sess)) :
    Calls Tryz.prog 91 #[evV x, ptr sb] w fun e w' => e = .returned (.bool (decide (x.session = sess))) ∧ Keeps (fun _ => False) w w' := by
  have HK := hide ((Keeps.refl (fun _ => False) w).alloc (.cells #[.int .i64 x.session, .int .i64 x.no, .string (Go.Proofs.YtbfogieeiobpdaaGreatDoor.S x.path), .int .i64 x.what, .int .i64 x.when_] 74))
  obtain ⟨ss, no, p, wh, wn⟩ := x
  have S1 := (Sat.start w).box #[.int .i64 ss, .int .i64 no, .string (Go.Proofs.YtbfogieeiobpdaaGreatDoor.S p), .int .i64 wh, .int .i64 wn] 74 rfl
  have c0 : (w.alloc (.cells #[.int .i64 ss, .int .i64 no, .string (Go.Proofs.YtbfogieeiobpdaaGreatDoor.S p), .int .i64 wh, .int .i64 wn] 74)).cell? ⟨sb, 0, none⟩ = some (.int .i64 sess) := HK.out.cell h0 (fun h => h)
  by_cases h : ss = sess
  · subst h
    go_enter Tryz.func91, Tryz.ntmps91
    go_upto_region 1 with fail
    generalize w.alloc (.cells #[.int .i64 ss, .int .i64 no, .string (Go.Proofs.YtbfogieeiobpdaaGreatDoor.S p), .int .i64 wh, .int .i64 wn] 74) = wB at *
    generalize w.heap.size = xb at *
    have x0 := S1.cell 0 _ rfl
    clear S1
    go_wp2_with fail
    go_ret
    exact ⟨by simp, HK.out⟩
  · have hb : (ss == sess) = false := by simpa using h
    rw [show decide ((⟨ss, no, p, wh, wn⟩ : EvT).session = sess) = false from by simpa using h]
    go_enter Tryz.func91, Tryz.ntmps91
    go_upto_region 1 with fail
    generalize w.alloc (.cells #[.int .i64 ss, .int .i64 no, .string (Go.Proofs.YtbfogieeiobpdaaGreatDoor.S p), .int .i64 wh, .int .i64 wn] 74) = wB at *
    generalize w.heap.size = xb at *
    have x0 := S1.cell 0 _ rfl
    clear S1
    go_wp2_with fail
    go_ret
    exact ⟨by simp, HK.out⟩
theorem eg_mdrop (args : Array Value) (w : World) : (callFunc 91 args).run Tryz.prog w = .ok (.enter 91 args) w := by kernel_rfl

end Go.Proofs.YtbfogieeiobpdaaGreatDoor
