/- Contracts of the package op, third part: a command as bytes. No condition. -/
import Derived.Test.YtcnehacblodiaaaDoorCmds
import Derived.Test.YtcnehacblodiaaaDoorPithd
import Derived.Deep.RegionHeld3
set_option linter.unusedVariables false
namespace Go.Proofs.YtcnehacblodiaaaDoor
open Go.RowKit

def opB (o : OpT) : List UInt8 := nums [o.does, o.version + 1] ++ txts [o.path, o.data] ++ flags [o.serial, o.own]
def cmdB (c : CmdT) : List UInt8 := nums [c.kind, c.session, c.req, c.noted, (c.ops.length : Int)] ++ c.ops.flatMap opB ++ txts [c.path] ++ flags [c.kids, c.once]
def bytesF (c : CmdT) : List UInt8 × Int := if cmdR c = false then ([], 1) else if 488 < (cmdB c).length then ([], 3) else (cmdB c, 0)

theorem grew_nil {w w' : World} {v' : Value} (h : Grew w (.slice none 0 0) w' v') : Keeps (fun _ => False) w w' :=
  h.keeps.mono (fun k _ e => by simp [Value.ownBlock] at e)
/-- what is known of a command that may be -/
theorem cmdR_of {c : CmdT} (h : cmdR c = true) : 0 ≤ c.kind ∧ c.kind ≤ 5 ∧ numR c = true ∧ c.ops.length ≤ 4 ∧ (∀ o ∈ c.ops, opR o = true) ∧ c.path.length ≤ 60 := by
  simp only [cmdR, Bool.and_eq_true, decide_eq_true_eq, Bool.not_eq_true'] at h
  obtain ⟨⟨⟨⟨⟨h1, h2⟩, h3⟩, h4⟩, h5⟩, h6⟩ := h
  refine ⟨h1, h2, h3, h4, fun o ho => ?_, h6⟩
  unfold wrongF at h5
  rw [List.any_eq_false] at h5
  have := h5 o ho
  simpa using this
theorem opR_of {o : OpT} (h : opR o = true) : 1 ≤ o.does ∧ o.does ≤ 4 ∧ o.path.length ≤ 60 ∧ o.data.length ≤ 61 ∧ -1 ≤ o.version ∧ o.version < 281474976710655 := by
  simp only [opR, Bool.and_eq_true, decide_eq_true_eq] at h
  obtain ⟨⟨⟨⟨⟨h1, h2⟩, h3⟩, h4⟩, h5⟩, h6⟩ := h
  exact ⟨h1, h2, h3, h4, h5, h6⟩

theorem opB_length (o : OpT) (h : opR o = true) : (opB o).length ≤ 200 := by
  obtain ⟨_, _, h3, h4, _, _⟩ := opR_of h
  have h5 : (cut16 o.path).length ≤ 60 := by unfold cut16; simp; omega
  have h6 : (cut16 o.data).length ≤ 61 := by unfold cut16; simp; omega
  simp only [opB, List.length_append, nums_length, txts, List.flatMap_cons, List.flatMap_nil, txt_length, flags, List.length_map, List.length_cons, List.length_nil]
  omega
theorem ops_length (os : List OpT) (h : ∀ o ∈ os, opR o = true) : (os.flatMap opB).length ≤ 200 * os.length := by
  induction os with
  | nil => simp
  | cons o r ih =>
    have h1 := opB_length o (h o (by simp))
    have h2 := ih (fun o ho => h o (by simp [ho]))
    simp only [List.flatMap_cons, List.length_append, List.length_cons]
    omega
theorem ops_take (os : List OpT) (k : Nat) (o : OpT) (h : os[k]? = some o) : (os.take (k + 1)).flatMap opB = (os.take k).flatMap opB ++ opB o := by
  obtain ⟨hk, rfl⟩ := List.getElem?_eq_some_iff.1 h
  rw [List.take_succ_eq_append_getElem hk, List.flatMap_append]
  simp

set_option maxRecDepth 100000 in
set_option maxHeartbeats 2000000 in
theorem bytes_cmd (w : World) (c : CmdT) (A : Option Addr) (cap : Nat) (h : OpSrc w A c.ops) (hok : CmdOk c) :
    Calls Tryd.prog 14 #[cmdV c A cap] w fun e w' => e = .returned (.tuple #[.string (S (bytesF c).1), .int .i64 (bytesF c).2]) ∧ Keeps (fun _ => False) w w' := by
  have hr := fun w' (hk : Keeps (fun _ => False) w w') => right_cmd w' c A cap (h.keep hk (fun _ _ h => h)) hok
  have HR := hide hr
  clear hr
  cases hc : cmdR c
  · have e : bytesF c = ([], 1) := by simp [bytesF, hc]
    rw [e]
    rw [hc] at HR
    clear e hc
    have H := hide h
    clear h
    go_enter Tryd.func14, Tryd.ntmps14
    go_wp2_with fail
    refine (HR.out _ ((Keeps.refl _ w).alloc _)).mono ?_
    rintro e w1 ⟨rfl, hk1⟩
    go_wp2_with fail
    go_ret2
    exact ⟨rfl, ((Keeps.refl _ w).alloc _).trans' hk1⟩
  · obtain ⟨k1, k2, k3, k4, k5, k6⟩ := cmdR_of hc
    rw [hc] at HR
    have H := hide h
    obtain ⟨kind, session, req, noted, ops, path, kids, once⟩ := c
    simp only at k1 k2 k3 k4 k5 k6 h
    have HE : Hid (bytesF ⟨kind, session, req, noted, ops, path, kids, once⟩ = if 488 < (cmdB ⟨kind, session, req, noted, ops, path, kids, once⟩).length then ([], 3) else (cmdB ⟨kind, session, req, noted, ops, path, kids, once⟩, 0)) := by
      show _ = _
      unfold bytesF
      rw [hc]
      rfl
    have K5 := hide k5
    clear hc h k3 k5 hok
    go_enter Tryd.func14, Tryd.ntmps14
    go_wp2_with fail
    refine (HR.out _ ((Keeps.refl _ w).alloc _)).mono ?_
    rintro e w1 ⟨rfl, hk1⟩
    have hb := hk1.heap (heap_alloc_new w _) (fun h => h)
    have q0 : w1.cell? ⟨w.heap.size, 0, none⟩ = some (.int .i64 kind) := cell_of_row _ _ 0 _ _ _ hb
    have q1 : w1.cell? ⟨w.heap.size, 1, none⟩ = some (.int .i64 session) := cell_of_row _ _ 1 _ _ _ hb
    have q2 : w1.cell? ⟨w.heap.size, 2, none⟩ = some (.int .i64 req) := cell_of_row _ _ 2 _ _ _ hb
    have q3 : w1.cell? ⟨w.heap.size, 3, none⟩ = some (.int .i64 noted) := cell_of_row _ _ 3 _ _ _ hb
    have q4 : w1.cell? ⟨w.heap.size, 4, none⟩ = some (.slice A ops.length cap) := cell_of_row _ _ 4 _ _ _ hb
    have HK1 := hide (((Keeps.refl (fun _ => False) w).alloc _).trans' hk1)
    have HB := hide hb
    clear hk1 hb HR
    go_wp2_with fail
    refine (num_new w1 _ _ [] (RowB.nil _) ((Keeps.refl _ _).alloc _) _ (Nat.le_refl _) [kind, session, req, noted, (ops.length : Int)] 5 rfl (heap_alloc_new _ _) (by simp) (by omega)).mono ?_
    rintro e w2 ⟨v2, rfl, hw2⟩
    have hk2 := grew_nil hw2.grew
    have hb2 := hk2.heap HB.out (fun h => h)
    have hv2 : ∀ g, v2.ownBlock = some g → w.heap.size < g := fun g e => by
      rcases hw2.grew.new _ e with h | h
      · simp [Value.ownBlock] at h
      · have := heap_lt HB.out; omega
    have q4 : w2.cell? ⟨w.heap.size, 4, none⟩ = some (.slice A ops.length cap) := cell_of_row _ _ 4 _ _ _ hb2
    have HB2 := hide hb2
    have HK2 := hide (HK1.out.trans' hk2)
    have HO2 : Hid (RowB w2 v2 (nums [kind, session, req, noted, (ops.length : Int)])) := hw2.row
    clear hk2 hb2 hw2 HB HK1
    generalize hN : nums [kind, session, req, noted, (ops.length : Int)] = N at *
    have hNl : N.length = 30 := by rw [← hN]; rfl
    have HN := hide hN
    clear hN
    go_wp2_with fail
    go_loopw [4, 26] (fun b i wr => ∃ k : Nat, k ≤ ops.length ∧ i = .int .i64 k ∧ RowB wr b (N ++ (ops.take k).flatMap opB) ∧ Grew w2 v2 wr b) (fun _ i _ => ops.length - (intOf i).toNat)
    case atStart => exact ⟨0, by omega, rfl, by simpa using HO2.out, Grew.refl _ _⟩
    case round =>
      obtain ⟨k, hk, rfl, hown, hg⟩ := hrel
      have hle := ops_length (ops.take k) (fun o ho => K5.out o (List.mem_of_mem_take ho))
      have hle2 : (ops.take k).length ≤ 4 := by simp; omega
      have hln : (N ++ (ops.take k).flatMap opB).length ≤ 1000 := by rw [List.length_append]; omega
      have HO := hide hown
      have HG := hide hg
      clear hle hle2 hown hg
      have hKw : Keeps (fun k => w.heap.size ≤ k) w wr := (HK2.out.mono (fun _ _ e => e.elim)).trans HG.out.keeps (fun i hi e => by have := hv2 i e; omega)
      have HKw := hide hKw
      clear hKw
      by_cases hlt : k < ops.length
      · obtain ⟨ad, o, rfl, hx, c0, c1, c2, c3, c4, c5⟩ := ops_at (H.out.keepB (by decide) HKw.out (fun k hk h => by omega)) hlt
        have hoR := K5.out o (List.mem_of_getElem? hx)
        obtain ⟨r1, r2, r3, r4, r5, r6⟩ := opR_of hoR
        have HT := hide (ops_take ops k o hx)
        clear hx hoR
        obtain ⟨does, opath, odata, over, oser, oown⟩ := o
        simp only at c0 c1 c2 c3 c4 c5 r1 r2 r3 r4 r5 r6
        generalize (ops.take k).flatMap opB = L at *
        go_wp2_with fail
        refine (num_new wr _ _ _ HO.out (((Keeps.refl _ _).alloc _).alloc _) _ (by omega) [does, over + 1] 2 rfl (heap_new (by simp)) (by omega) (by omega)).mono ?_
        rintro e w3 ⟨v3, rfl, hw3⟩
        have hvne : u4.ownBlock ≠ some wr.heap.size := fun e => by have := HO.out.lt e; omega
        have hb3 := hw3.keeps.heap (heap_old (heap_alloc_new wr _)) hvne
        have hvne3 : v3.ownBlock ≠ some wr.heap.size := hw3.row.ne_ hb3 (fun cur e => by injection e with _ e; exact absurd e (by decide))
        have q1 : w3.cell? ⟨wr.heap.size, 1, none⟩ = some (.string (S opath)) := cell_of_row _ _ 1 _ _ _ hb3
        have q2 : w3.cell? ⟨wr.heap.size, 2, none⟩ = some (.string (S odata)) := cell_of_row _ _ 2 _ _ _ hb3
        have q3 : w3.cell? ⟨wr.heap.size, 4, none⟩ = some (.bool oser) := cell_of_row _ _ 4 _ _ _ hb3
        have q5 : w3.cell? ⟨wr.heap.size, 5, none⟩ = some (.bool oown) := cell_of_row _ _ 5 _ _ _ hb3
        have HB3 := hide hb3
        have HO3 := hide hw3.row
        have HG3 := hide (HG.out.trans hw3.grew)
        have hsz3 : wr.heap.size < w3.heap.size := heap_lt hb3
        have hl3 : (N ++ L ++ nums [does, over + 1]).length ≤ 2000 := by
          have : (nums [does, over + 1]).length = 12 := rfl
          rw [List.length_append, this]; omega
        have ht4 := txts_le [opath, odata]
        have ht4 : (txts [opath, odata]).length ≤ 200000 := by have : [opath, odata].length = 2 := rfl; rw [this] at ht4; omega
        clear hb3 hw3 c0 c1 c2 c3 c4 c5
        go_upto_region 8 with fail
        go_region_held3 (fun w' => w'.cell? ⟨wr.heap.size, 1, none⟩ = some (.string (S opath)) ∧ w'.cell? ⟨wr.heap.size, 2, none⟩ = some (.string (S odata)) ∧ w'.cell? ⟨wr.heap.size, 4, none⟩ = some (.bool oser) ∧ w'.cell? ⟨wr.heap.size, 5, none⟩ = some (.bool oown)) (go_keep) (first
            | (go_at_call 18; go_must (refine (text_new w3 _ v3 _ HO3.out (by (repeat (first | exact Keeps.refl _ _ | refine Keeps.alloc ?_ _ | refine Keeps.drew ?_))) _ (by simp) [opath, odata] 2 rfl (by (first | exact heap_new (by simp) | exact heap_old (heap_new (by simp)))) (by omega) (by omega)).mono ?_); rintro e w4 ⟨v4, rfl, hw4⟩; have hb4 := hw4.grew.keeps.heap HB3.out hvne3; have q8 : w4.cell? ⟨wr.heap.size, 1, none⟩ = some (.string (S opath)) := cell_of_row _ _ 1 _ _ _ hb4; have q9 : w4.cell? ⟨wr.heap.size, 2, none⟩ = some (.string (S odata)) := cell_of_row _ _ 2 _ _ _ hb4; have q6 : w4.cell? ⟨wr.heap.size, 4, none⟩ = some (.bool oser) := cell_of_row _ _ 4 _ _ _ hb4; have q7 : w4.cell? ⟨wr.heap.size, 5, none⟩ = some (.bool oown) := cell_of_row _ _ 5 _ _ _ hb4; have HW4 := hide hw4; have hw4b := hb4; have hvne4 : v4.ownBlock ≠ some wr.heap.size := hw4.row.ne_ hb4 (fun cur e => by injection e with _ e; exact absurd e (by decide)); clear hb4 hw4)
            | (go_at_call 19; go_must (refine (flag_at _ v4 _ (by (first | exact HW4.out.row | exact HW4.out.row.kept ((Keeps.refl (fun _ => False) _).alloc _) (fun _ _ h => h))) _ [oser, oown] 2 rfl (by (first | exact heap_new (by simp) | exact HW4.out.keeps.heap (by (first | exact heap_new (by simp) | exact heap_old (heap_new (by simp)))) (fun e => by have := HO3.out.lt e; omega))) (by rw [List.length_append]; omega) (by omega)).mono ?_); rintro e w5 ⟨v5, rfl, hw5, hg5⟩; have hb5 := hg5.keeps.heap (by (first | exact hw4b | exact heap_old hw4b)) (fun e => hvne4 e); have q10 : w5.cell? ⟨wr.heap.size, 1, none⟩ = some (.string (S opath)) := cell_of_row _ _ 1 _ _ _ hb5; have q11 : w5.cell? ⟨wr.heap.size, 2, none⟩ = some (.string (S odata)) := cell_of_row _ _ 2 _ _ _ hb5; have q12 : w5.cell? ⟨wr.heap.size, 4, none⟩ = some (.bool oser) := cell_of_row _ _ 4 _ _ _ hb5; have q13 : w5.cell? ⟨wr.heap.size, 5, none⟩ = some (.bool oown) := cell_of_row _ _ 5 _ _ _ hb5))
        all_goals
          go_wp2_with fail
          go_roundw
          case rel =>
            refine ⟨k + 1, by omega, by go_num, ?_, ?_⟩
            · rw [HT.out, ← List.append_assoc]
              simpa only [opB, List.append_assoc] using hw5
            · first | exact (HG3.out.trans HW4.out.grew).trans hg5 | exact ((HG3.out.trans HW4.out.grew).alloc _).trans hg5
          case measure => simp [intOf]; omega
      · obtain rfl : k = ops.length := by omega
        rw [List.take_length] at HO hln
        have hb3 := HG.out.keeps.heap HB2.out (fun e => by have := hv2 _ e; omega)
        have hvne3 : u4.ownBlock ≠ some w.heap.size := HO.out.ne_ hb3 (fun cur e => by injection e with _ e; exact absurd e (by decide))
        have q1 : wr.cell? ⟨w.heap.size, 5, none⟩ = some (.string (S path)) := cell_of_row _ _ 5 _ _ _ hb3
        have q2 : wr.cell? ⟨w.heap.size, 6, none⟩ = some (.bool kids) := cell_of_row _ _ 6 _ _ _ hb3
        have q3 : wr.cell? ⟨w.heap.size, 7, none⟩ = some (.bool once) := cell_of_row _ _ 7 _ _ _ hb3
        have HB3 := hide hb3
        have hsz3 : w.heap.size < wr.heap.size := heap_lt hb3
        have ht4 := txts_le [path]
        have ht4 : (txts [path]).length ≤ 100000 := by have : [path].length = 1 := rfl; rw [this] at ht4; omega
        have HC : Hid (cmdB ⟨kind, session, req, noted, ops, path, kids, once⟩ = N ++ ops.flatMap opB ++ txts [path] ++ flags [kids, once]) := by
          show _ = _
          rw [← HN.out]
          rfl
        generalize cmdB ⟨kind, session, req, noted, ops, path, kids, once⟩ = CB at *
        generalize ops.flatMap opB = L at *
        have HKF : Hid (Keeps (fun _ => False) w wr) := (HK2.out.trans HG.out.keeps (fun i hi e => by have := hv2 i e; omega))
        clear hb3 H K5
        go_upto_region 10 with fail
        go_cut [4] (fun s4 wx => RowB wx s4 CB ∧ Keeps (fun _ => False) w wx)
        case first =>
          go_region_held3 (fun w' => w'.cell? ⟨w.heap.size, 5, none⟩ = some (.string (S path)) ∧ w'.cell? ⟨w.heap.size, 6, none⟩ = some (.bool kids) ∧ w'.cell? ⟨w.heap.size, 7, none⟩ = some (.bool once)) (go_keep) (first
            | (go_at_call 18; go_must (refine (text_new wr _ u4 _ HO.out (by (repeat (first | exact Keeps.refl _ _ | refine Keeps.alloc ?_ _ | refine Keeps.drew ?_))) _ (by simp) [path] 1 rfl (by (first | exact heap_new (by simp) | exact heap_old (heap_new (by simp)))) (by omega) (by omega)).mono ?_); rintro e w4 ⟨v4, rfl, hw4⟩; have hb4 := hw4.grew.keeps.heap HB3.out hvne3; have q8 : w4.cell? ⟨w.heap.size, 5, none⟩ = some (.string (S path)) := cell_of_row _ _ 5 _ _ _ hb4; have q9 : w4.cell? ⟨w.heap.size, 6, none⟩ = some (.bool kids) := cell_of_row _ _ 6 _ _ _ hb4; have q6 : w4.cell? ⟨w.heap.size, 7, none⟩ = some (.bool once) := cell_of_row _ _ 7 _ _ _ hb4; have HW4 := hide hw4; have hw4b := hb4; have hvne4 : v4.ownBlock ≠ some w.heap.size := hw4.row.ne_ hb4 (fun cur e => by injection e with _ e; exact absurd e (by decide)); clear hb4 hw4)
            | (go_at_call 19; go_must (refine (flag_at _ v4 _ (by (first | exact HW4.out.row | exact HW4.out.row.kept ((Keeps.refl (fun _ => False) _).alloc _) (fun _ _ h => h))) _ [kids, once] 2 rfl (by (first | exact heap_new (by simp) | exact HW4.out.keeps.heap (by (first | exact heap_new (by simp) | exact heap_old (heap_new (by simp)))) (fun e => by have := HO.out.lt e; omega))) (by rw [List.length_append]; omega) (by omega)).mono ?_); rintro e w5 ⟨v5, rfl, hw5, hg5⟩; have hb5 := hg5.keeps.heap (by (first | exact hw4b | exact heap_old hw4b)) (fun e => hvne4 e); have q10 : w5.cell? ⟨w.heap.size, 5, none⟩ = some (.string (S path)) := cell_of_row _ _ 5 _ _ _ hb5; have q11 : w5.cell? ⟨w.heap.size, 6, none⟩ = some (.bool kids) := cell_of_row _ _ 6 _ _ _ hb5; have q12 : w5.cell? ⟨w.heap.size, 7, none⟩ = some (.bool once) := cell_of_row _ _ 7 _ _ _ hb5))
          all_goals
            go_wp2_with fail
            go_meet
            case rel =>
              refine ⟨by rw [HC.out]; exact hw5, ?_⟩
              have hg : Grew wr u4 w5 v5 := by first | exact HW4.out.grew.trans hg5 | exact (HW4.out.grew.alloc _).trans hg5
              refine HKF.out.trans hg.keeps (fun i hi e => ?_)
              rcases HG.out.new i e with h | h
              · have := hv2 _ h; omega
              · have := HK2.out.size; omega
        case rest =>
          obtain ⟨hrow, hkw⟩ := hcut
          obtain ⟨A5, cap5, hv, hcap, hmax, hsrc⟩ := hrow.form
          subst hv
          have HRow := hide hrow
          have HKw := hide hkw
          clear hrow hkw
          have hCB : CB.length ≤ 9223372036854775807 := by unfold maxLen at hmax; omega
          by_cases hbig : 488 < CB.length
          · have e : bytesF ⟨kind, session, req, noted, ops, path, kids, once⟩ = ([], 3) := by rw [HE.out, if_pos hbig]
            have E := hide e
            clear e
            go_wp2_with fail
            go_ret2
            exact ⟨by rw [E.out]; rfl, HKw.out⟩
          · have e : bytesF ⟨kind, session, req, noted, ops, path, kids, once⟩ = (CB, 0) := by rw [HE.out, if_neg hbig]
            have E := hide e
            clear e
            have hconv := run_ofBytes (P := Tryd.prog) (dst := 9) Tryd.underlying31 Tryd.underlying5 Tryd.underlying9 hsrc cap5
            clear hsrc
            go_wp2_with fail
            go_ret2
            exact ⟨by rw [E.out]; rfl, HKw.out⟩

end Go.Proofs.YtcnehacblodiaaaDoor
