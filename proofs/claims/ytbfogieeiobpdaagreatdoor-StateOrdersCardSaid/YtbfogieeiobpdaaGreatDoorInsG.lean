/- slices.Insert of one watch. No condition. -/
import Derived.Test.YtbfogieeiobpdaaGreatDoorInsE
set_option linter.unusedVariables false
set_option linter.unusedSimpArgs false
namespace Go.Proofs.YtbfogieeiobpdaaGreatDoor
open Go.RowKit

set_option maxRecDepth 100000 in
set_option maxHeartbeats 4000000 in
theorem ins_mid_grow {g w : World} {L : List Asn} {xs cx : List Value} {ad : Addr} {n c i vb : Nat} (S : Sat g w (cellsA vb 96 cx.toArray :: rowA 96 4 (.slice (some ad) n c) n xs :: L)) (hx : xs.length = n * 4) (hc4 : cx.length = 4) (h1 : ∀ u ∈ xs, u.oneCell' = true) (h2 : ∀ u ∈ cx, u.oneCell' = true) (hnc : n ≤ c) (hcm : c ≤ 9223372036854775807) (hl : n ≤ 1000) (hin : i < n) (hroom : c < n + 1) :
    Calls Tryz.prog 81 #[.slice (some ad) n c, .int .i64 i, .slice (some ⟨vb, 0, none⟩) 1 1] w fun e w' =>
      ∃ v', e = .returned v' ∧ Sat g w' (rowA 96 4 v' (n + 1) (xs.take (i * 4) ++ cx ++ xs.drop (i * 4)) :: L) := by
  have HX1 := hide h1
  have HW1 := hide h2
  have HW := hide hc4
  have HM := hide hx
  clear h1 h2
  have hsv : Src w 4 (some ⟨vb, 0, none⟩) 1 cx := Src.block S.cells_get 4 1 (by simpa using hc4)
  clear hx hc4
  have hi0 : (0 : Int) ≤ (i : Int) := by omega
  have hi1 : (i : Int) ≤ (n : Int) := by omega
  have hnc' : (n : Int) ≤ (c : Int) := by omega
  have hic : (i : Int) ≤ (c : Int) := by omega
  have hlt : i < n := by omega
  have hinb : ((i : Int) == (n : Int)) = false := by simpa using (show ¬ (i : Int) = (n : Int) by omega)
  have hinp : ¬ ((i : Int) = (n : Int)) := by omega
  have hci : ¬ (c = i) := by omega
  have hci2 : ¬ (c - i = 0) := by omega
  have hsrc := S.p1.srcR
  obtain ⟨b, cur, had, q1, q2, q3, q4, S1⟩ := S.p1.rowOpen
  have HAD := hide had
  have HQ4 := hide q4
  clear had q4
  obtain rfl : c = n := by omega
  have hbig : (c : Int) < (c : Int) + 1 := by omega
  have HK : Hid (((c : Int) + 1 - (i : Int)) = ((c + 1 - i : Nat) : Int)) := by show _ = _; omega
  have hsi := hsrc.pre i (by omega)
  have hss := hsrc.suf i (by omega)
  clear hsrc
  go_enter Tryz.func81, Tryz.ntmps81
  go_upto_region 10 with (at_builtin; refine wpList_szeros slW Tryz.underlying3 rfl (.tmp 34) (.tmp 39) rfl (g := g) (S := S) (k := c + 1 - i) hsi rfl HK.out rfl (N := c + 1) (by omega) (by omega) (by omega) (by unfold maxLen; omega) (by omega) ?_; intro b2 G ad2 zs w2 had2 hG1 hG2 hzs S2)
  have hs2 : Src w2 4 (some ⟨vb, 0, none⟩) 1 cx := Src.block S2.p1.cells_get 4 1 (by simpa using HW.out)
  have hl2 : (xs.take (i * 4) ++ zs).length = G * 4 := by rw [List.length_append, List.length_take, hzs, HM.out, Nat.min_eq_left (by omega), ← Nat.add_mul]; congr 1; omega
  have HL2 := hide hl2
  have HZS := hide hzs
  clear hl2 hzs hsi hss S1
  have hg1 : (i : Int) ≤ (G : Int) := by omega
  have hg2 : ¬ (G = i) := by omega
  have hg3 : ¬ (G - i = 0) := by omega
  have hg4 : (i : Int) ≤ (c : Int) + 1 := by omega
  simp only [maxLen] at hG2
  have hcx := HW.out
  obtain ⟨Y, hY⟩ : ∃ Y, xs.take (i * 4) ++ zs = Y := ⟨_, rfl⟩
  rw [hY] at S2 HL2
  have HY := hide hY
  clear hY
  go_upto_region 11 with ((show Go.wpList _ _ _ (Oper.mk (some 45) (Op.call _) _ _ _ _ :: _) _ _); refine wpList_scopy rfl (.tmp 43) (.tmp 44) _ _ _ rfl Tryz.underlying28 (k := 4) (by kernel_rfl) S2 (off := i * 4) (by rw [had2.out, addr_blk]) rfl rfl cx (by rw [hcx]; exact (show 4 = min _ _ * 4 by omega)) hs2.cells (by rw [HL2.out]; omega) HW1.out ?_; intro w3 S3)
  have hs3 := S3.p2.srcR.suf i (by omega)
  have HL3 := hide ((lay_length Y (i * 4) cx (by rw [HL2.out]; omega)).trans HL2.out)
  obtain ⟨Z, hZ⟩ : ∃ Z, lay Y (i * 4) cx = Z := ⟨_, rfl⟩
  rw [hZ] at S3 HL3
  have HZ := hide hZ
  clear hZ S2 hs2 S
  have hv1 : (0 : Int) ≤ (i : Int) + 1 := by omega
  have hv2 : ((i : Int) + 1).toNat = i + 1 := by omega
  have hv3 : (i : Int) + 1 ≤ (c : Int) + 1 := by omega
  have hv4 : (i : Int) + 1 ≤ (G : Int) := by omega
  have hv5 : IntKind.i64.wrap ((i : Int) + 1) = (i : Int) + 1 := IntWalk.i64_in _ ⟨by omega, by omega⟩
  have hv6 : ¬ (G = i + 1) := by omega
  have hv7 : ¬ (G - (i + 1) = 0) := by omega
  have hdl : (xs.drop (i * 4)).length = (c - i) * 4 := by rw [List.length_drop, HM.out, Nat.sub_mul]
  have HDL := hide hdl
  clear hdl

  go_region_law (refine step_scopy rfl (.tmp 50) (.tmp 53) _ _ _ rfl Tryz.underlying28 (k := 4) (by kernel_rfl) (g := g) (S := by first | exact S3 | exact S3.drew | exact S3.drewN _) (off := (i + 1) * 4) (dd := ad2.add ((i + 1) * 4)) (dLen := c - i) (dCap := G - (i + 1)) (ad := ad.add (i * 4)) (sLen := c - i) (sCap := c - i) (by rw [had2.out, addr_blk]) (by go_simp) (by go_simp) (xs.drop (i * 4)) (by rw [HDL.out]; exact (show _ = min _ _ * 4 by rw [Nat.min_self])) (by first | exact hs3.cells | exact (hs3.keep (Keeps.refl (fun _ => False) _).drew (fun _ _ h => h)).cells | exact (hs3.keep ((Keeps.refl (fun _ => False) _).drewN _) (fun _ _ h => h)).cells) (by rw [HL3.out, HDL.out]; omega) (fun u hu => HX1.out u (List.mem_of_mem_drop hu)) ?_; intro w4 S4)
  all_goals
    go_wp2_with fail
    go_ret
    refine ⟨_, rfl, ?_⟩
    rw [had2.out]
    refine (S4.p2.drop.p1.drop.rowShut hG1 hG2 ?_ ?_)
    · rw [lay_length _ _ _ (by rw [HL3.out, HDL.out]; omega), HL3.out]
    · have e1 := ins_grow xs zs cx (i * 4) (by rw [HM.out]; omega) (by rw [HM.out, HW.out, HZS.out]; omega)
      rw [HM.out, HW.out, ← Nat.succ_mul, ← Nat.succ_mul] at e1
      rw [← HZ.out, ← HY.out]
      exact e1

end Go.Proofs.YtbfogieeiobpdaaGreatDoor
