/- slices.Insert of one watch: all cases. No condition. -/
import Derived.Test.YtbfogieeiobpdaaGreatDoorInsG
import Derived.Laws.Externs
set_option linter.unusedVariables false
set_option linter.unusedSimpArgs false
namespace Go.Proofs.YtbfogieeiobpdaaGreatDoor
open Go.RowKit


theorem ovl_watch {g w : World} {L : List Asn} {cx cur : List Value} {b vb : Nat} (S : Sat g w (cellsA vb 96 cx.toArray :: cellsA b 96 cur.toArray :: L)) (h0 : cur.length ≠ 0) (k lb cb : Nat) :
    (callFunc 115 #[.slice (some ⟨vb, 0, none⟩) 1 1, .slice (some ⟨b, k, none⟩) lb cb]).run Tryz.prog w = .ok (.value (.bool false)) w := by
  rw [run_callFunc_extern Tryz.func115 (by kernel_rfl) (by kernel_rfl) (by kernel_rfl) (e := Extern.SlicesOverlaps.overlaps #[28, 28] #[4]) (by kernel_rfl),
    Lib.run_overlaps_apart w 28 4 96 Tryz.underlying28 4 Tryz.sizeOf96 ⟨vb, 0, none⟩ ⟨b, k, none⟩ 1 1 lb cb S.own_ne 96 96 cx.toArray.size cur.toArray.size
      (by unfold World.shape?; rw [show w.heap[vb]? = _ from S.cells_get]) (by unfold World.shape?; rw [show w.heap[b]? = _ from S.p1.cells_get]) (by simpa using h0) (S.cells_fz 0) (S.cells_fz _)]
  rfl

set_option maxRecDepth 100000 in
set_option maxHeartbeats 4000000 in
theorem ins_mid_room {g w : World} {L : List Asn} {xs cx : List Value} {ad : Addr} {n c i vb : Nat} (S : Sat g w (cellsA vb 96 cx.toArray :: rowA 96 4 (.slice (some ad) n c) n xs :: L)) (hx : xs.length = n * 4) (hc4 : cx.length = 4) (h1 : ∀ u ∈ xs, u.oneCell' = true) (h2 : ∀ u ∈ cx, u.oneCell' = true) (hnc : n ≤ c) (hcm : c ≤ 9223372036854775807) (hl : n ≤ 1000) (hin : i < n) (hroom : n + 1 ≤ c) :
    Calls Tryz.prog 81 #[.slice (some ad) n c, .int .i64 i, .slice (some ⟨vb, 0, none⟩) 1 1] w fun e w' =>
      ∃ v', e = .returned v' ∧ Sat g w' (rowA 96 4 v' (n + 1) (xs.take (i * 4) ++ cx ++ xs.drop (i * 4)) :: L) := by
  have HX1 := hide h1
  have HW1 := hide h2
  have HW := hide hc4
  have HM := hide hx
  clear h1 h2
  have hsv : Src w 4 (some ⟨vb, 0, none⟩) 1 cx := Src.block S.cells_get 4 1 (by simpa using hc4)
  clear hx hc4
  have hi0 : (0 : Int) ≤ (i : Int) := by omega
  have hi1 : (i : Int) ≤ (n : Int) := by omega
  have hnc' : (n : Int) ≤ (c : Int) := by omega
  have hic : (i : Int) ≤ (c : Int) := by omega
  have hlt : i < n := by omega
  have hnc1 : ¬ (n + 1 = i) := by omega
  have hinb : ((i : Int) == (n : Int)) = false := by simpa using (show ¬ (i : Int) = (n : Int) by omega)
  have hinp : ¬ ((i : Int) = (n : Int)) := by omega
  have hci : ¬ (c = i) := by omega
  have hci2 : ¬ (c - i = 0) := by omega
  have hsrc := S.p1.srcR
  obtain ⟨b, cur, had, q1, q2, q3, q4, S1⟩ := S.p1.rowOpen
  have HAD := hide had
  have HQ4 := hide q4
  clear had q4
  have hbig : (n : Int) + 1 ≤ (c : Int) := by omega
  have hbig0 : (0 : Int) ≤ (n : Int) + 1 := by omega
  have hbig1 : ((n : Int) + 1).toNat = n + 1 := by omega
  have hv1 : (0 : Int) ≤ (i : Int) + 1 := by omega
  have hv2 : ((i : Int) + 1).toNat = i + 1 := by omega
  have hv3 : (i : Int) + 1 ≤ (n : Int) + 1 := by omega
  have hv3' : (i : Int) ≤ (n : Int) + 1 := by omega
  have hv4 : (i : Int) + 1 ≤ (c : Int) := by omega
  have hv5 : IntKind.i64.wrap ((i : Int) + 1) = (i : Int) + 1 := IntWalk.i64_in _ ⟨by omega, by omega⟩
  have hv6 : ¬ (c = i + 1) := by omega
  have hv7 : ¬ (c - (i + 1) = 0) := by omega
  have hdl : (xs.drop (i * 4)).length = (n - i) * 4 := by rw [List.length_drop, HM.out, Nat.sub_mul]
  have HDL := hide hdl
  clear hdl hsrc
  have hss : ∀ j v, (xs.drop (i * 4))[j]? = some v → w.drew.cell? ((⟨b, i * 4, none⟩ : Addr).add j) = some v := fun j v hj => by
    rw [show (⟨b, i * 4, none⟩ : Addr).add j = ⟨b, i * 4 + j, none⟩ from by unfold Addr.add; split <;> simp_all]
    refine S1.drew.cellL _ v ?_
    rw [← HQ4.out, List.getElem?_drop, List.getElem?_take] at hj
    split at hj
    · exact hj
    · cases hj
  have hov := fun lb cb => ovl_watch (L := L) (w := w) (cx := cx) (cur := cur) (b := b) (vb := vb) (S := S1.p1) (by omega) ((i + 1) * 4) lb cb
  rw [HAD.out]
  go_enter Tryz.func81, Tryz.ntmps81
  go_upto_region 15 with (simp only [hov])
  go_region_law (refine step_scopy rfl (.tmp 73) (.tmp 76) _ _ _ rfl Tryz.underlying28 (k := 4) (by kernel_rfl) (g := g) (S := S1.drew) (off := (i + 1) * 4) (dd := ⟨b, (i + 1) * 4, none⟩) (dLen := n - i) (dCap := c - (i + 1)) (ad := ⟨b, i * 4, none⟩) (sLen := n + 1 - i) (sCap := c - i) rfl (by go_simp) (by go_simp) (xs.drop (i * 4)) (by rw [HDL.out]; exact (show _ = min _ _ * 4 by rw [Nat.min_eq_right (by omega)])) hss (by rw [HDL.out]; omega) (fun u hu => HX1.out u (List.mem_of_mem_drop hu)) ?_; intro w4 S4)
  all_goals
    have HL3 := hide ((lay_length cur ((i + 1) * 4) (xs.drop (i * 4)) (by rw [HDL.out]; omega)).trans q3)
    obtain ⟨Z, hZ⟩ : ∃ Z, lay cur ((i + 1) * 4) (xs.drop (i * 4)) = Z := ⟨_, rfl⟩
    rw [hZ] at S4 HL3
    have HZ := hide hZ
    clear hZ hov hss
    have hs4 : Src w4 4 (some ⟨vb, 0, none⟩) 1 cx := Src.block S4.p1.cells_get 4 1 (by simpa using HW.out)
    have hcx := HW.out
    go_wp2_with ((show Go.wpList _ _ _ (Oper.mk (some 82) (Op.call _) _ _ _ _ :: _) _ _); refine wpList_scopy rfl (.tmp 80) (.tmp 81) _ _ _ rfl Tryz.underlying28 (k := 4) (by kernel_rfl) (g := g) (S := S4) (off := i * 4) rfl rfl rfl cx (by rw [hcx]; exact (show 4 = min _ _ * 4 by omega)) hs4.cells (by rw [HL3.out]; omega) HW1.out ?_; intro w5 S5)
    go_ret
    refine ⟨_, rfl, ?_⟩
    refine (S5.p1.drop.rowShut hroom q2 ?_ ?_)
    · rw [lay_length _ _ _ (by rw [HL3.out]; omega), HL3.out]
    · have e1 := ins_room cur xs cx (i * 4) (n * 4) HQ4.out (by omega) (by rw [HW.out]; omega)
      rw [HW.out, ← Nat.succ_mul, ← Nat.succ_mul] at e1
      rw [← HZ.out]
      exact e1

end Go.Proofs.YtbfogieeiobpdaaGreatDoor
