/- Contracts of the package tree: Lay. No condition. -/
import Derived.Test.YthgiamofndhehaaGreatDoorTRd
import Derived.Deep.RegionHeld3
set_option linter.unusedVariables false
set_option linter.unusedSimpArgs false
namespace Go.Proofs.YthgiamofndhehaaGreatDoor
open Go.RowKit

theorem nodB_le (p : List UInt8 × NodeT) : (nodB p).length ≤ 131110 := by
  have h1 := txts_le [p.1, p.2.data]
  have h2 := nums_length [p.2.version, p.2.below, p.2.owner, p.2.made, p.2.set, p.2.serial]
  simp only [List.length_cons, List.length_nil] at h1 h2
  unfold nodB
  rw [List.length_append]
  omega
theorem nods_le (l : TreeT) : (l.flatMap nodB).length ≤ 131110 * l.length := by
  induction l with
  | nil => simp
  | cons a r ih =>
    have := nodB_le a
    rw [List.flatMap_cons, List.length_append, List.length_cons]
    omega
theorem normN_length (T : TreeT) : (normN T).length = T.length := by unfold normN; rw [List.length_map, pathsF_length]
theorem normN_at (T : TreeT) (k : Nat) (s : List UInt8) (h : (pathsF T)[k]? = some s) : (normN T)[k]? = some (s, (mget T s).getD zN) := by
  unfold normN
  rw [List.getElem?_map, h]
  rfl
theorem take_flatN (l : TreeT) (k : Nat) (p : List UInt8 × NodeT) (h : l[k]? = some p) : (l.take (k + 1)).flatMap nodB = (l.take k).flatMap nodB ++ nodB p := by
  obtain ⟨hk, e⟩ := List.getElem?_eq_some_iff.1 h
  rw [List.take_succ_eq_append_getElem hk, List.flatMap_append, e]
  simp

set_option maxRecDepth 100000 in
set_option maxHeartbeats 8000000 in
theorem lay_tree {g w : World} {L : List Asn} {b : Nat} {T : TreeT} {v : Value} {l : List UInt8} (S0 : Sat g w (bytesA v l :: treeA b T :: L)) (hP : PathsOk T) (hT : T.length ≤ 100) (hb : l.length ≤ 1000000) :
    Calls Tryz.prog 63 #[ptr b, v] w fun e w' => ∃ v', e = .returned v' ∧ Sat g w' (bytesA v' (l ++ layN T) :: treeA b T :: L) := by
  have hpa := paths_tree S0.p1 hP (by omega)
  go_enter Tryz.func63, Tryz.ntmps63
  go_wp2_with fail
  refine hpa.mono ?_
  rintro e w1 ⟨v1, rfl, S1⟩
  obtain ⟨A, c, rfl, -⟩ := S1.row.form
  clear S0 hpa hP
  go_wp2_with fail
  refine (s_num [(T.length : Int)] ((S1.p2).box _ _ rfl) rfl (by omega) (by simp)).mono ?_
  rintro e w2 ⟨v2, rfl, S2⟩
  obtain ⟨mb, S3⟩ := S2.p2.treeOpen
  clear S1 S2
  have HE : Hid (layN T = nums [(T.length : Int)] ++ (normN T).flatMap nodB) := rfl
  have hnl : (l ++ nums [(T.length : Int)]).length ≤ 1000006 := by rw [List.length_append, nums_length]; simp; omega
  generalize hN : l ++ nums [(T.length : Int)] = N at *
  have HN := hide hN
  clear hN
  have hnt := normN_length T
  have hpl := pathsF_length T
  have HNA : Hid (∀ k s, (pathsF T)[k]? = some s → (normN T)[k]? = some (s, (mget T s).getD zN)) := hide fun k s h => normN_at T k s h
  generalize pathsF T = PS at *
  generalize normN T = NT at *
  go_wp2_with fail
  go_loopw [1, 18] (fun u i wr => ∃ k : Nat, k ≤ T.length ∧ i = .int .i64 k ∧ Sat g wr (bytesA u (N ++ (NT.take k).flatMap nodB) :: rowA 9 1 (.slice A T.length c) T.length (Ss PS) :: cellsA b 96 #[.map (some mb)] :: mapA kS nodV mb T :: L)) (fun _ i _ => T.length + 1 - (RowKit.intOf i).toNat)
  case atStart => exact ⟨0, by omega, rfl, by simpa using S3.p2.p3.p1⟩
  case round =>
    obtain ⟨k, hk, rfl, S4⟩ := hrel
    clear S3
    have hle := nods_le (NT.take k)
    have hle2 : (NT.take k).length ≤ k := List.length_take_le _ _
    by_cases hlt : k < T.length
    · have hk0 : (0 : Int) ≤ (k : Int) := by omega
      have hk1 : (k : Int) < (T.length : Int) := by omega
      obtain ⟨ad, s, rfl, hs, hc⟩ := str_at S4.p1.srcT hlt
      have ht := take_flatN NT k _ (HNA.out k s hs)
      have HT := hide ht
      have c0 := S4.p2.cell 0 _ rfl
      have hl := look_get S4.p3 s
      generalize (mget T s).getD zN = n at *
      clear ht hs
      obtain ⟨d, ve, bl, ow, md, st, sr⟩ := n
      generalize hLL : (NT.take k).flatMap nodB = LL at *
      have HLL := hide hLL
      clear hLL
      have hln : (N ++ LL).length ≤ 15000000 := by rw [List.length_append]; omega
      have hln2 : (N ++ LL ++ txts [s, d]).length ≤ 16000000 := by
        have h1 := txts_le [s, d]
        simp only [List.length_cons, List.length_nil] at h1
        rw [List.length_append]
        omega
      clear hle hle2
      go_upto_region 7 with fail
      have S5 := S4.box (nodC ⟨d, ve, bl, ow, md, st, sr⟩) 39 rfl
      generalize wr.alloc (.cells (nodC ⟨d, ve, bl, ow, md, st, sr⟩) 39) = w5 at *
      generalize wr.heap.size = nb at *
      clear S4 c0 hl hc
      have HND : Hid (∀ (w' : World) (L' : List Asn), Sat g w' L' → cellsA nb 39 (nodC ⟨d, ve, bl, ow, md, st, sr⟩) ∈ L' → w'.cell? ⟨nb, 0, none⟩ = some (.string (S d)) ∧ w'.cell? ⟨nb, 1, none⟩ = some (.int .i64 ve) ∧ w'.cell? ⟨nb, 2, none⟩ = some (.int .i64 bl) ∧ w'.cell? ⟨nb, 3, none⟩ = some (.int .i64 ow) ∧ w'.cell? ⟨nb, 4, none⟩ = some (.int .i64 md) ∧ w'.cell? ⟨nb, 5, none⟩ = some (.int .i64 st) ∧ w'.cell? ⟨nb, 6, none⟩ = some (.int .i64 sr)) :=
        hide fun w' L' S' hm => by
          obtain ⟨L2, S2⟩ := S'.mem_ hm
          exact S2.nod
      have S6 := S5.p1
      clear S5
      obtain ⟨q0, q1, q2, q3, q4, q5, q6⟩ := HND.out _ _ S6 (by simp)
      go_region_held3 (fun w' => w'.cell? ⟨nb, 0, none⟩ = some (.string (S d)) ∧ w'.cell? ⟨nb, 1, none⟩ = some (.int .i64 ve) ∧ w'.cell? ⟨nb, 2, none⟩ = some (.int .i64 bl) ∧ w'.cell? ⟨nb, 3, none⟩ = some (.int .i64 ow) ∧ w'.cell? ⟨nb, 4, none⟩ = some (.int .i64 md) ∧ w'.cell? ⟨nb, 5, none⟩ = some (.int .i64 st) ∧ w'.cell? ⟨nb, 6, none⟩ = some (.int .i64 sr)) (first | exact HND.out _ _ (Sat.keep S8 (by (repeat (first | exact Keeps.refl _ _ | refine Keeps.alloc ?_ _ | refine Keeps.drew ?_ | refine Keeps.drewN ?_ _)))) (by simp) | exact HND.out _ _ (Sat.keep S7 (by (repeat (first | exact Keeps.refl _ _ | refine Keeps.alloc ?_ _ | refine Keeps.drew ?_ | refine Keeps.drewN ?_ _)))) (by simp) | exact HND.out _ _ (Sat.keep S6 (by (repeat (first | exact Keeps.refl _ _ | refine Keeps.alloc ?_ _ | refine Keeps.drew ?_ | refine Keeps.drewN ?_ _)))) (by simp)) (first
        | (go_at_call 98; refine (s_text [s, d] (g := g) (l := N ++ LL) (by (repeat (first | refine Sat.drew ?_ | refine Sat.drewN ?_ _)); first | exact S6.box _ _ rfl | exact ((S6.box _ _ rfl).box _ _ (b := w5.heap.size + 1) (by simp)).b2 | exact ((S6.box _ _ rfl).p1).box _ _ (by simp)) rfl (by omega) (by simp)).mono ?_; rintro e w7 ⟨v7, rfl, S7⟩; obtain ⟨q0, q1, q2, q3, q4, q5, q6⟩ := HND.out _ _ S7 (by simp))
        | (go_at_call 37; refine (s_num [ve, bl, ow, md, st, sr] (g := g) (l := N ++ LL ++ txts [s, d]) (by (repeat (first | refine Sat.drew ?_ | refine Sat.drewN ?_ _)); first | exact S7.box _ _ rfl | exact S7.p1) rfl (by omega) (by simp)).mono ?_; rintro e w8 ⟨v8, rfl, S8⟩; obtain ⟨q0, q1, q2, q3, q4, q5, q6⟩ := HND.out _ _ S8 (by simp)))
      all_goals
        go_wp2_with fail
        go_roundw
        case rel =>
          refine ⟨k + 1, by omega, by go_num, ?_⟩
          rw [HT.out, ← List.append_assoc]
          have S9 := S8.p1.drop
          simp only [nodB, List.append_assoc] at S9 ⊢
          exact S9
        case measure => simp [RowKit.intOf]; omega
    · obtain rfl : k = T.length := by omega
      rw [← hnt, List.take_length] at S4
      have HF : Hid (N ++ NT.flatMap nodB = l ++ layN T) := by
        show _ = _
        rw [HE.out, ← HN.out, List.append_assoc]
      rw [HF.out, hnt] at S4
      have HS := hide (S4.p1.drop.b2.treeShut.p1)
      clear S4
      go_wp2_with fail
      go_ret
      exact ⟨_, rfl, HS.out⟩
end Go.Proofs.YthgiamofndhehaaGreatDoor
