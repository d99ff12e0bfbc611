/- Contracts of the package tree: at, Check, Set. No condition. -/
import Derived.Test.YtecpfnobnpddaaaDoorTreeC
set_option linter.unusedVariables false
set_option linter.unusedSimpArgs false
namespace Go.Proofs.YtecpfnobnpddaaaDoor
open Go.RowKit

section
variable {g w : World} {L : List Asn} {b mb x : Nat} {T : TreeT}
set_option maxHeartbeats 2000000 in
theorem at_tree (S0 : Sat g w (treeA b T :: L)) (hG : GL w) (s : List UInt8) (v : Int) (hs : s.length ≤ 9223372036854775807) :
    Calls Tryd.prog 56 #[ptr b, .string (S s), .int .i64 v] w fun e w' => e = .returned (.tuple #[nodV (atF T s v).1, .int .i64 (atF T s v).2]) ∧ Sat g w' (treeA b T :: L) := by
  have HF : Hid (atF T s v = if (getF T s).2 = 0 ∧ 0 ≤ v ∧ (getF T s).1.version ≠ v then (zN, 14) else getF T s) := rfl
  have S1 := S0.box zC 30 rfl
  have hG1 : GL (w.alloc (.cells zC 30)) := hG.keep ((Keeps.refl (fun _ => False) w).alloc _) (fun h => h)
  have hget := get_tree S1.p1 hG1 s hs
  generalize getF T s = G at *
  generalize atF T s v = A at *
  obtain ⟨n, e0⟩ := G
  simp only at HF hget
  go_enter Tryd.func56, Tryd.ntmps56
  go_upto_region 1 with fail
  generalize w.alloc (.cells zC 30) = w1 at *
  generalize w.heap.size = rb at *
  go_wp2_with fail
  refine hget.mono ?_
  rintro e w2 ⟨rfl, S2⟩
  clear S0 S1 hG hG1 hget
  go_upto_region 2 with fail
  have S3 := S2.box (nodC n) 30 rfl
  generalize w2.alloc (.cells (nodC n) 30) = w3 at *
  generalize w2.heap.size = xb at *
  obtain ⟨a0, a1, a2, a3, a4, a5, a6⟩ := S3.nod
  clear S2
  by_cases h : e0 = 0 ∧ 0 ≤ v ∧ n.version ≠ v
  · have e : A = (zN, 14) := by rw [HF.out, if_pos h]
    subst e
    obtain ⟨rfl, h1, h2⟩ := h
    have h3 : (n.version != v) = true := by simpa using h2
    have h4 : (n.version == v) = false := by simpa using h2
    clear HF
    go_wp2_with ((show Go.wpList _ _ _ (Oper.mk none (Op.store _ _ _) _ _ _ _ :: _) _ _); refine wpList_sstore rfl _ (.tmp 6) (.tmp 28) rfl S3.p2 _ rfl rfl (by kernel_rfl) rfl (by simp [Value.oneCell']) ?_; intro S8)
    refine bodyPost_ret (results_row_tmp Tryd.results56 _ _ rb _ _ _ _ rfl S8.cells_get Tryd.underlying30 rfl (by kernel_rfl)) rfl ?_
    exact ⟨rfl, S8.drop.drop⟩
  · have e : A = (n, e0) := by rw [HF.out, if_neg h]
    subst e
    clear HF
    have hq : ∀ r : Bool, r = (decide (e0 = 0) && decide (0 ≤ v) && (n.version != v)) → r = false := by
      intro r hr
      rw [hr, Bool.eq_false_iff]
      intro hc
      simp only [Bool.and_eq_true, decide_eq_true_eq, bne_iff_ne, ne_eq] at hc
      exact h ⟨hc.1.1, hc.1.2, hc.2⟩
    by_cases h0 : e0 = 0
    · subst h0
      by_cases h1 : 0 ≤ v
      · have h2 : n.version = v := by
          apply Classical.byContradiction
          intro h3
          exact h ⟨rfl, h1, h3⟩
        subst h2
        have h3 : (n.version != n.version) = false := by simp
        clear h hq
        go_wp2_with ((show Go.wpList _ _ _ (Oper.mk none (Op.store _ _ _) _ _ _ _ :: _) _ _); refine wpList_sstore rfl _ (.tmp 6) (.tmp 29) rfl S3.p2 _ rfl rfl (by kernel_rfl) rfl (by simp [Value.oneCell']) ?_; intro S8)
        refine bodyPost_ret (results_row_tmp Tryd.results56 _ _ rb _ _ _ _ rfl S8.cells_get Tryd.underlying30 rfl (by kernel_rfl)) rfl ?_
        exact ⟨rfl, S8.drop.drop⟩
      · have h2 : decide (0 ≤ v) = false := by simpa using h1
        clear h hq
        go_wp2_with ((show Go.wpList _ _ _ (Oper.mk none (Op.store _ _ _) _ _ _ _ :: _) _ _); refine wpList_sstore rfl _ (.tmp 6) (.tmp 29) rfl S3.p2 _ rfl rfl (by kernel_rfl) rfl (by simp [Value.oneCell']) ?_; intro S8)
        refine bodyPost_ret (results_row_tmp Tryd.results56 _ _ rb _ _ _ _ rfl S8.cells_get Tryd.underlying30 rfl (by kernel_rfl)) rfl ?_
        exact ⟨rfl, S8.drop.drop⟩
    · have h0b : (e0 == 0) = false := by simpa using h0
      clear h hq
      go_wp2_with ((show Go.wpList _ _ _ (Oper.mk none (Op.store _ _ _) _ _ _ _ :: _) _ _); refine wpList_sstore rfl _ (.tmp 6) (.tmp 29) rfl S3.p2 _ rfl rfl (by kernel_rfl) rfl (by simp [Value.oneCell']) ?_; intro S8)
      refine bodyPost_ret (results_row_tmp Tryd.results56 _ _ rb _ _ _ _ rfl S8.cells_get Tryd.underlying30 rfl (by kernel_rfl)) rfl ?_
      exact ⟨rfl, S8.drop.drop⟩

theorem check_tree (S0 : Sat g w (treeA b T :: L)) (hG : GL w) (s : List UInt8) (v : Int) (hs : s.length ≤ 9223372036854775807) :
    Calls Tryd.prog 25 #[ptr b, .string (S s), .int .i64 v] w fun e w' => e = .returned (.int .i64 (atF T s v).2) ∧ Sat g w' (treeA b T :: L) := by
  have hat := at_tree S0 hG s v hs
  generalize atF T s v = A at *
  obtain ⟨n, e0⟩ := A
  simp only at hat ⊢
  go_enter Tryd.func25, Tryd.ntmps25
  go_wp2_with fail
  refine hat.mono ?_
  rintro e w2 ⟨rfl, S2⟩
  go_upto_region 2 with fail
  have HS := hide (S2.box (nodC n) 30 rfl).drop
  generalize w2.alloc (.cells (nodC n) 30) = w3 at *
  clear S2 hat S0
  go_wp2_with fail
  go_ret
  exact ⟨rfl, HS.out⟩

set_option maxRecDepth 100000 in
set_option maxHeartbeats 4000000 in
theorem set_tree (S0 : Sat g w (treeA b T :: L)) (hG : GL w) (s data : List UInt8) (v when_ : Int) (hs : s.length ≤ 9223372036854775807) (hd : data.length ≤ 140737488350000) (hv : 0 ≤ (atF T s v).1.version ∧ (atF T s v).1.version ≤ 1000000) :
    Calls Tryd.prog 24 #[ptr b, .string (S s), .string (S data), .int .i64 v, .int .i64 when_] w fun e w' =>
      e = .returned (.tuple #[.int .i64 (setF T s data v when_).1, .int .i64 (setF T s data v when_).2.1]) ∧ Sat g w' (treeA b (setF T s data v when_).2.2 :: L) := by
  have HR : Hid (∀ r, setF T s data v when_ = r → ∀ w', Sat g w' (treeA b r.2.2 :: L) → Ending.returned (.tuple #[.int .i64 r.1, .int .i64 r.2.1]) = Ending.returned (.tuple #[.int .i64 (setF T s data v when_).1, .int .i64 (setF T s data v when_).2.1]) ∧ Sat g w' (treeA b (setF T s data v when_).2.2 :: L)) :=
    hide fun r h w' S' => by subst h; exact ⟨rfl, S'⟩
  have HF : Hid (setF T s data v when_ = if (atF T s v).2 ≠ 0 then (0, (atF T s v).2, T) else if 60 < data.length then (0, 3, T) else
    ((atF T s v).1.version + 1, 0, mput T s ⟨data, (atF T s v).1.version + 1, (atF T s v).1.below, (atF T s v).1.owner, (atF T s v).1.made, when_, (atF T s v).1.serial⟩)) := rfl
  have hat := at_tree S0 hG s v hs
  generalize setF T s data v when_ = R at *
  generalize atF T s v = A at *
  obtain ⟨n, e0⟩ := A
  simp only at hat HF hv
  go_enter Tryd.func24, Tryd.ntmps24
  go_wp2_with fail
  refine hat.mono ?_
  rintro e w2 ⟨rfl, S2⟩
  clear hat S0 hG
  go_upto_region 2 with fail
  have S3 := S2.box (nodC n) 30 rfl
  generalize w2.alloc (.cells (nodC n) 30) = w3 at *
  generalize w2.heap.size = xb at *
  clear S2
  by_cases h0 : e0 = 0
  · subst h0
    by_cases h60 : 60 < data.length
    · have e : R = (0, 3, T) := by rw [HF.out, if_neg (by simp), if_pos h60]
      have HE := hide e
      clear e HF
      go_wp2_with fail
      go_ret2
      exact HR.out (0, 3, T) HE.out _ S3.drop
    · have e : R = (n.version + 1, 0, mput T s ⟨data, n.version + 1, n.below, n.owner, n.made, when_, n.serial⟩) := by rw [HF.out, if_neg (by simp), if_neg h60]
      have HE := hide e
      clear e HF
      obtain ⟨d, ve, bl, ow, md, st, sr⟩ := n
      simp only at HE hv
      obtain ⟨hv1, hv2⟩ := hv
      obtain ⟨a0, a1, a2, a3, a4, a5, a6⟩ := S3.nod
      simp only at a0 a1 a2 a3 a4 a5 a6
      have f0 := S3.cells_fz 0
      have f1 := S3.cells_fz 1
      have f5 := S3.cells_fz 5
      go_upto_region 7 with fail
      have S4 : Sat g (((w3.setCell ⟨xb, 0, none⟩ (.string (S data))).setCell ⟨xb, 1, none⟩ (.int .i64 (ve + 1))).setCell ⟨xb, 5, none⟩ (.int .i64 when_)) (cellsA xb 30 (nodC ⟨data, ve + 1, bl, ow, md, when_, sr⟩) :: treeA b T :: L) := ((S3.setc 0 _).setc 1 _).setc 5 _
      generalize ((w3.setCell ⟨xb, 0, none⟩ (.string (S data))).setCell ⟨xb, 1, none⟩ (.int .i64 (ve + 1))).setCell ⟨xb, 5, none⟩ (.int .i64 when_) = w4 at *
      clear S3 a0 a1 a2 a3 a4 a5 a6 f0 f1 f5
      obtain ⟨mb, S5⟩ := S4.p1.treeOpen
      clear S4
      have S6 := S5.p2
      have S9 := S6.drew
      obtain ⟨a0, a1, a2, a3, a4, a5, a6⟩ := S6.nod
      obtain ⟨b0, b1, b2, b3, b4, b5, b6⟩ := S9.nod
      have c0 := S6.p1.cell 0 _ rfl
      have c0' := S9.p1.cell 0 _ rfl
      obtain ⟨w10, hup, S10⟩ := put_node S9.p2 s ⟨data, ve + 1, bl, ow, md, when_, sr⟩
      simp only at a0 a1 a2 a3 a4 a5 a6 b0 b1 b2 b3 b4 b5 b6
      clear S5 S6 S9
      go_still_tail 6, (by kernel_rfl)
      change wpList _ _ _ _ _ w4.drew
      go_upto_region 8 with fail
      clear hup c0 c0' a0 a1 a2 a3 a4 a5 a6 b0 b1 b2 b3 b4 b5 b6
      obtain ⟨a0, a1, a2, a3, a4, a5, a6⟩ := S10.p1.nod
      go_wp2_with fail
      go_ret2
      exact HR.out (ve + 1, 0, mput T s ⟨data, ve + 1, bl, ow, md, when_, sr⟩) HE.out _ (S10.p1.drop.p1.treeShut)
  · have h0b : (e0 != 0) = true := by simpa using h0
    have e : R = (0, e0, T) := by rw [HF.out, if_pos h0]
    have HE := hide e
    clear e HF
    go_wp2_with fail
    go_ret2
    exact HR.out (0, e0, T) HE.out _ S3.drop
end
end Go.Proofs.YtecpfnobnpddaaaDoor
