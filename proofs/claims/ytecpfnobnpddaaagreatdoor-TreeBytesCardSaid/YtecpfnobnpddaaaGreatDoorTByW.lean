/- The law TreeBytes, walked. No condition. -/
import Derived.Test.YtecpfnobnpddaaaGreatDoorTCut
import Derived.Shelf.SlMaps.Clone
import Derived.Deep.RegionHeld3
set_option linter.unusedVariables false
set_option linter.unusedSimpArgs false
namespace Go.Proofs.YtecpfnobnpddaaaGreatDoor
open Go.RowKit

theorem t_mclone {g w : World} {L : List Asn} {mb : Nat} {m : TreeT} (S0 : Sat g w (mapA kS nodV mb m :: L)) :
    Calls Tryz.prog 71 #[.map (some mb)] w fun e w' => ∃ mb2, e = .returned (.map (some mb2)) ∧ Sat g w' (mapA kS nodV mb2 m :: mapA kS nodV mb m :: L) := by
  obtain ⟨es, clock, hb, hs, he⟩ := S0.mapOf
  refine (AnyW.maps_Clone Tryz.cloneT mb es clock w hb).mono ?_
  rintro e w' ⟨rfl, rfl⟩
  exact ⟨_, rfl, S0.mapNew ((Keeps.refl _ w).alloc _) (Nat.le_refl _) ⟨es, clock, heap_alloc_new w _, hs, he⟩⟩
theorem tclone_tree {g w : World} {L : List Asn} {t : Nat} {m : TreeT} (S0 : Sat g w (treeA t m :: L)) :
    Calls Tryz.prog 32 #[ptr t] w fun e w' => ∃ t2, e = .returned (ptr t2) ∧ Sat g w' (treeA t2 m :: treeA t m :: L) := by
  obtain ⟨mb, S1⟩ := S0.treeOpen
  have c0 : w.cell? ⟨t, 0, none⟩ = some (.map (some mb)) := S1.cell 0 _ rfl
  clear S0
  go_enter Tryz.func32, Tryz.ntmps32
  go_wp2_with fail
  refine (t_mclone S1.p1).mono ?_
  rintro e w1 ⟨mb2, rfl, S2⟩
  clear S1 c0
  have HS : Hid (Sat g (w1.alloc (.cells #[.map (some mb2)] 109)) (treeA w1.heap.size m :: treeA t m :: L)) := hide (by
    have S3 := (S2.box #[.map (some mb2)] 109 rfl).treeShut
    exact (S3.b2.p1.treeShut).p1)
  clear S2
  go_wp2_with fail
  go_ret
  exact ⟨_, rfl, HS.out⟩
theorem is_at {ks : List Int} {j : Nat} {x : Int} (h : ks[j]? = some x) : (Is ks).toArray[j]? = some (.int .i64 x) := by simp [Is, h]
theorem nums_succ {ks : List Int} {j : Nat} {x : Int} (h : ks[j]? = some x) : nums (ks.take (j + 1)) = nums (ks.take j) ++ nums [x] := by
  obtain ⟨hk, e⟩ := List.getElem?_eq_some_iff.1 h
  rw [List.take_succ_eq_append_getElem hk, e]
  simp [nums]

set_option maxRecDepth 100000 in
set_option maxHeartbeats 16000000 in
theorem tbytes_walk (W : World) (hG : GL W) (A0 A1 : Option Addr) (acts more : List ActT) (c0 c1 : Nat) (cut : Int) (hs : ActsT W A0 acts) (hl : acts.length ≤ 9223372036854775807) (hg : ∀ x ∈ acts, x.raw.length ≤ 9223372036854775807 ∧ x.data.length ≤ 9223372036854775807)
    (hs2 : ActsT W A1 more) (hl2 : more.length ≤ 9223372036854775807) (hg2 : ∀ x ∈ more, x.raw.length ≤ 9223372036854775807 ∧ x.data.length ≤ 9223372036854775807) :
    Calls Tryz.prog 5 #[.slice A0 acts.length c0, .slice A1 more.length c1, .int .i64 cut] W fun e w' => e = .returned (.bool true) ∧ Keeps (fun _ => False) W w' := by
  have HSRC : Hid (∀ {w : World} {L : List Asn}, Sat W w L → oldA W ∈ L → ActsT w A0 acts) := fun S hm => hs.of S hm
  have HSRC2 : Hid (∀ {w : World} {L : List Asn}, Sat W w L → oldA W ∈ L → ActsT w A1 more) := fun S hm => hs2.of S hm
  have HS0 := hide hs
  have HS2 := hide hs2
  have HFEW := hide (fun h => fewT_out (xs := acts) h)
  have HFEW2 := hide (fun h => fewT_out (xs := more) h)
  have HF : Hid (∀ w, ActsT w A0 acts → Calls Tryz.prog 19 #[.slice A0 acts.length c0] w fun e w' => e = .returned (.bool (fewT acts)) ∧ Keeps (fun _ => False) w w') := fun w h => few_tacts w A0 c0 acts h hl hg
  have HF2 : Hid (∀ w, ActsT w A1 more → Calls Tryz.prog 19 #[.slice A1 more.length c1] w fun e w' => e = .returned (.bool (fewT more)) ∧ Keeps (fun _ => False) w w') := fun w h => few_tacts w A1 c1 more h hl2 hg2
  have HGL : Hid (GL W) := hG
  generalize fewT acts = fw at *
  generalize fewT more = fw2 at *
  clear hs hg hs2 hg2
  go_enter Tryz.func5, Tryz.ntmps5
  go_wp2_with fail
  refine (head_tree (Sat.start W) hG (by simp)).mono ?_
  rintro e w0 ⟨rfl, S0⟩
  clear hG
  go_wp2_with fail
  refine (HF.out _ (HSRC.out S0 (by simp))).mono ?_
  rintro e w1 ⟨rfl, hk1⟩
  have S1 := S0.keep hk1
  clear S0 hk1 HF
  cases fw
  · have HK := hide S1.keep_all
    clear S1
    go_wp2_with fail
    go_ret
    exact ⟨rfl, HK.out⟩
  obtain ⟨hall, h40⟩ := HFEW.out rfl
  have HALL := hide hall
  clear hall HFEW
  go_wp2_with fail
  refine (HF2.out _ (HSRC2.out S1 (by simp))).mono ?_
  rintro e w1b ⟨rfl, hk1⟩
  have S1b := S1.keep hk1
  clear S1 hk1 HF2
  cases fw2
  · have HK := hide S1b.keep_all
    clear S1b
    go_wp2_with fail
    go_ret
    exact ⟨rfl, HK.out⟩
  obtain ⟨hall2, h402⟩ := HFEW2.out rfl
  have HALL2 := hide hall2
  clear hall2 HFEW2
  go_wp2_with fail
  refine (new_tree S1b).mono ?_
  rintro e w2 ⟨t, rfl, S2⟩
  go_wp2_with fail
  refine (new_mod S2).mono ?_
  rintro e w3 ⟨mb, rfl, S3⟩
  have S4 : Sat W w3 (treeA t rootT :: modA mb rootT :: [oldA W]) := S3.p1
  clear S1b S2 S3
  go_wp2_with fail
  go_loopw [39] (fun i wr => ∃ k : Nat, k ≤ acts.length ∧ i = .int .i64 k ∧ ∃ T M, Mod T M k ∧ Sat W wr (treeA t T :: modA mb M :: [oldA W])) (fun i _ => acts.length - (RowKit.intOf i).toNat)
  case atStart => exact ⟨0, by omega, rfl, _, _, Mod.start, S4⟩
  case round =>
    obtain ⟨k, hk, rfl, T, M, hmod, S5⟩ := hrel
    clear S4
    by_cases hlt : k < acts.length
    · have hk0 : (0 : Int) ≤ (k : Int) := by omega
      have hk1 : (k : Int) < (acts.length : Int) := by omega
      obtain ⟨ad, x, rfl, hx, d0, d1, d2, d3, d4, d5, d6⟩ := tact_at (HSRC.out S5 (by simp)).1 hlt
      have hmem := List.mem_of_getElem? hx
      have hps := HS0.out.2 x hmem
      have hsm := HALL.out x hmem
      obtain ⟨hans, hmod2⟩ := hmod.do_ (by omega) x ((k : Int) + 1) (by omega)
      have HDO : Hid (∀ (w' : World) (L' : List Asn), Sat W w' (treeA t T :: modA mb M :: L') → oldA W ∈ L' → Calls Tryz.prog 22 #[ptr t, ptr mb, actTV x, .int .i64 ((k : Int) + 1)] w' fun e w2 => e = .returned (.bool true) ∧ Sat W w2 (treeA t (doT T x ((k : Int) + 1)) :: modA mb (doM M x ((k : Int) + 1)) :: L')) := hide fun w' L' S' hm => by
        have := do_tree S' HGL.out hm hmod hmod (by omega) (by omega) x hps hsm ((k : Int) + 1)
        rwa [hans, decide_eq_true rfl] at this
      clear hans hmod hx hmem hps
      generalize doT T x ((k : Int) + 1) = T2 at *
      generalize doM M x ((k : Int) + 1) = M2 at *
      have HMOD := hide hmod2
      clear hmod2
      obtain ⟨a0, a1, a2, xa, xc, xp, xr, xd, xs⟩ := x
      simp only at d0 d1 d2 d3 d4 d5 d6 hsm HDO
      go_upto_region 10 with fail
      have S6 := S5.box (actTA ⟨a0, a1, a2, xa, xc, xp, xr, xd, xs⟩) 54 rfl
      generalize wr.alloc (.cells (actTA ⟨a0, a1, a2, xa, xc, xp, xr, xd, xs⟩) 54) = w6 at *
      generalize wr.heap.size = xb at *
      have S7 := S6.b2
      have q0 := S6.cell 0 _ rfl
      have q1 := S6.cell 1 _ rfl
      have q2 := S6.cell 2 _ rfl
      have q3 := S6.cell 3 _ rfl
      have q4 := S6.cell 4 _ rfl
      have q5 := S6.cell 5 _ rfl
      have q6 := S6.cell 6 _ rfl
      clear S5 S6 d0 d1 d2 d3 d4 d5 d6
      go_wp2_with fail
      refine (HDO.out _ _ S7 (by simp)).mono ?_
      rintro e w7 ⟨rfl, S8⟩
      have S9 := S8.p2.drop
      clear S7 S8 q0 q1 q2 q3 q4 q5 q6 HDO
      go_wp2_with fail
      go_roundw
      case rel => exact ⟨k + 1, by omega, by go_num, T2, M2, HMOD.out, S9⟩
      case measure => simp [RowKit.intOf]; omega
    · obtain rfl : k = acts.length := by omega
      have hgood := hmod.good (by omega)
      have hlT := hmod.len_eq
      have hlM := hmod.len
      have HMOD := hide hmod
      have hlay := lay_tree S5.bytesNil hmod.pathsT (by omega) (by simp)
      rw [hmod.layN_eq, List.nil_append] at hlay
      have HTD : Hid (layN M = nums [(M.length : Int)] ++ M.flatMap nodB) := hgood.asc.layN
      have HR0 : Hid (readTr (layN M, false) = (M, ([], false))) := hide (by
        have h := readTr_tail hgood []
        rwa [List.append_nil] at h)
      have HRC : Hid (∀ r, r < (layN M).length → readTr ((layN M).take r, false) = (rootT, ((readTr ((layN M).take r, false)).2.1, true))) := hide fun r hr => by
        have h := readTr_cut hgood r hr
        exact Prod.ext ((readTr_asc _).2 h) (Prod.ext rfl h)
      have hTl := layN_pos M
      have hTu : (layN M).length ≤ 8000000 := by
        have := nods_le M
        rw [HTD.out, List.length_append, nums_length]
        simp only [List.length_cons, List.length_nil]
        omega
      have HLE : Hid (∀ k, ((M.take k).flatMap nodB).length ≤ 8000000) := hide fun k => by
        have h1 := nods_le (M.take k)
        have h2 : (M.take k).length ≤ M.length := by simp; omega
        omega
      clear hmod hgood
      generalize layN M = TB at *
      go_wp2_with fail
      refine hlay.mono ?_
      rintro e w6 ⟨v6, rfl, S6⟩
      obtain ⟨B6, n6, cb6, rfl, hsrc⟩ := S6.bytesForm
      have hconv := run_ofBytes (P := Tryz.prog) (dst := 9) Tryz.underlying37 Tryz.underlying5 Tryz.underlying9 hsrc cb6
      obtain ⟨A, c, S7⟩ := S6.drop.p1.modOpen
      have m0 := S7.cell 0 _ rfl
      clear S5 S6 hsrc hlay
      go_wp2_with fail
      refine (s_num [(M.length : Int)] ((S7.bytesNil).box _ _ rfl) rfl (by simp) (by simp)).mono ?_
      rintro e w8 ⟨v8, rfl, S8⟩
      rw [List.nil_append] at S8
      have m0 := S8.p1.cell 0 _ rfl
      clear hconv S7
      generalize hN : nums [(M.length : Int)] = N at *
      have hNl : N.length = 6 := by rw [← hN]; rfl
      clear hN
      go_wp2_with fail
      clear m0
      go_loopw [12, 66] (fun v i wr => ∃ k : Nat, k ≤ M.length ∧ i = .int .i64 k ∧ Sat W wr (bytesA v (N ++ (M.take k).flatMap nodB) :: cellsA mb 69 #[.slice A M.length c] :: rowA 71 8 (.slice A M.length c) M.length (M.flatMap entC) :: treeA t T :: [oldA W])) (fun _ i _ => M.length - (RowKit.intOf i).toNat)
      case atStart => exact ⟨0, by omega, rfl, by simpa using S8⟩
      case round =>
        obtain ⟨k, hk, rfl, S9⟩ := hrel
        clear S8
        have hle := HLE.out k
        by_cases hlt2 : k < M.length
        · have hk0 : (0 : Int) ≤ (k : Int) := by omega
          have hk1 : (k : Int) < (M.length : Int) := by omega
          obtain ⟨ad, p, rfl, hp, d0, d1, d2, d3, d4, d5, d6, d7⟩ := ent_at S9.p2.srcT rfl hlt2
          have HT := hide (take_flatN M k p hp)
          clear hp
          obtain ⟨s, ⟨d, ve, bl, ow, md, st, sr⟩⟩ := p
          generalize hLL : (M.take k).flatMap nodB = LL at *
          have HLL := hide hLL
          clear hLL
          have hb1 : (N ++ LL).length ≤ 9000000 := by rw [List.length_append]; omega
          have ht1 := txts_le [s]
          have ht2 := txts_le [d]
          simp only [List.length_cons, List.length_nil] at ht1 ht2
          have hb2 : (N ++ LL ++ txts [s]).length ≤ 10000000 := by rw [List.length_append]; omega
          have hb3 : (N ++ LL ++ txts [s] ++ txts [d]).length ≤ 11000000 := by rw [List.length_append]; omega
          clear hle ht1 ht2
          go_upto_region 17 with fail
          have S10 := S9.box (entA (s, ⟨d, ve, bl, ow, md, st, sr⟩)) 71 rfl
          generalize wr.alloc (.cells (entA (s, ⟨d, ve, bl, ow, md, st, sr⟩)) 71) = w10 at *
          generalize wr.heap.size = xb at *
          have e1 := S10.cell 1 _ rfl
          have e2 := S10.cell 2 _ rfl
          have e3 := S10.cell 3 _ rfl
          have e4 := S10.cell 4 _ rfl
          have e5 := S10.cell 5 _ rfl
          have e6 := S10.cell 6 _ rfl
          have e7 := S10.cell 7 _ rfl
          clear S9 d0 d1 d2 d3 d4 d5 d6 d7
          go_upto_region 18 with fail
          have S11 := (S10.box (nodC ⟨d, ve, bl, ow, md, st, sr⟩) 62 rfl).p2
          generalize w10.alloc (.cells (nodC ⟨d, ve, bl, ow, md, st, sr⟩) 62) = w11 at *
          generalize w10.heap.size = nb at *
          clear S10 e1 e2 e3 e4 e5 e6 e7
          have HE : Hid (∀ (w' : World) (L' : List Asn), Sat W w' L' → cellsA xb 71 (entA (s, ⟨d, ve, bl, ow, md, st, sr⟩)) ∈ L' → cellsA nb 62 (nodC ⟨d, ve, bl, ow, md, st, sr⟩) ∈ L' → w'.cell? ⟨xb, 0, none⟩ = some (.string (S s)) ∧ w'.cell? ⟨nb, 0, none⟩ = some (.string (S d))) := hide fun w' L' S' h1 h2 => ⟨S'.cell_of h1 0 _ rfl, S'.cell_of h2 0 _ rfl⟩
          obtain ⟨q0, q1⟩ := HE.out _ _ S11 (by simp) (by simp)
          go_region_held3 (fun w' => w'.cell? ⟨xb, 0, none⟩ = some (.string (S s)) ∧ w'.cell? ⟨nb, 0, none⟩ = some (.string (S d))) (first
            | (go_keep; done)
            | exact HE.out _ _ (Sat.keep S13 (by (repeat (first | exact Keeps.refl _ _ | refine Keeps.alloc ?_ _ | refine Keeps.drew ?_ | refine Keeps.drewN ?_ _)))) (by simp) (by simp)
            | exact HE.out _ _ (Sat.keep S12 (by (repeat (first | exact Keeps.refl _ _ | refine Keeps.alloc ?_ _ | refine Keeps.drew ?_ | refine Keeps.drewN ?_ _)))) (by simp) (by simp)
            | exact HE.out _ _ (Sat.keep S11 (by (repeat (first | exact Keeps.refl _ _ | refine Keeps.alloc ?_ _ | refine Keeps.drew ?_ | refine Keeps.drewN ?_ _)))) (by simp) (by simp)) (first
            | (go_at_call 35; refine (s_text [d] (g := W) (l := N ++ LL ++ txts [s]) (by (repeat (first | refine Sat.drew ?_ | refine Sat.drewN ?_ _)); first | exact S12.p1 | exact S12.p2 | exact S12.box _ _ rfl) rfl (by omega) (by simp)).mono ?_; rintro e w13 ⟨v13, rfl, S13⟩; obtain ⟨q0, q1⟩ := HE.out _ _ S13 (by simp) (by simp))
            | (go_at_call 35; refine (s_text [s] (g := W) (l := N ++ LL) (by (repeat (first | refine Sat.drew ?_ | refine Sat.drewN ?_ _)); first | exact S11.box _ _ rfl | exact ((S11.box _ _ rfl).box _ _ (b := w11.heap.size + 1) (by simp)).b2 | exact ((S11.box _ _ rfl).p1).box _ _ (b := w11.heap.size + 1) (by simp)) rfl (by omega) (by simp)).mono ?_; rintro e w12 ⟨v12, rfl, S12⟩; obtain ⟨q0, q1⟩ := HE.out _ _ S12 (by simp) (by simp)))
          all_goals
            have hb4 : (N ++ LL ++ txts [s] ++ txts [d]).length ≤ 11000000 := hb3
            generalize hBB : N ++ LL ++ txts [s] ++ txts [d] = BB at *
            have HBB := hide hBB
            clear hBB S11 S12 q0 q1 HE
            have z1 := S13.p1.cell 1 _ rfl
            have z2 := S13.p1.cell 2 _ rfl
            have z3 := S13.p1.cell 3 _ rfl
            have z4 := S13.p1.cell 4 _ rfl
            have z5 := S13.p1.cell 5 _ rfl
            have z6 := S13.p1.cell 6 _ rfl
            go_wp2_with fail
            have S14 := S13.box #[.int .i64 ve, .int .i64 bl, .int .i64 ow, .int .i64 md, .int .i64 st, .int .i64 sr] 3 rfl
            generalize w13.alloc (.cells #[.int .i64 ve, .int .i64 bl, .int .i64 ow, .int .i64 md, .int .i64 st, .int .i64 sr] 3) = w14 at *
            generalize w13.heap.size = lb at *
            have S15 : Sat W w14 (bytesA v13 BB :: cellsA lb 3 (Is [ve, bl, ow, md, st, sr]).toArray :: cellsA nb 62 (nodC ⟨d, ve, bl, ow, md, st, sr⟩) :: cellsA xb 71 (entA (s, ⟨d, ve, bl, ow, md, st, sr⟩)) :: cellsA mb 69 #[.slice (some ad) M.length c] :: rowA 71 8 (.slice (some ad) M.length c) M.length (M.flatMap entC) :: treeA t T :: [oldA W]) := S14.p1
            clear S13 S14 z1 z2 z3 z4 z5 z6
            go_loopw [12, 95] (fun v i wr => ∃ j : Nat, j ≤ 6 ∧ i = .int .i64 j ∧ Sat W wr (bytesA v (BB ++ nums ([ve, bl, ow, md, st, sr].take j)) :: cellsA lb 3 (Is [ve, bl, ow, md, st, sr]).toArray :: cellsA nb 62 (nodC ⟨d, ve, bl, ow, md, st, sr⟩) :: cellsA xb 71 (entA (s, ⟨d, ve, bl, ow, md, st, sr⟩)) :: cellsA mb 69 #[.slice (some ad) M.length c] :: rowA 71 8 (.slice (some ad) M.length c) M.length (M.flatMap entC) :: treeA t T :: [oldA W])) (fun _ i _ => 6 - (RowKit.intOf i).toNat)
            case atStart => exact ⟨0, by omega, rfl, by simpa [nums] using S15⟩
            case round =>
              obtain ⟨j, hj, rfl, S16⟩ := hrel
              clear S15
              by_cases hlt3 : j < 6
              · have hj0 : (0 : Int) ≤ (j : Int) := by omega
                have hj1 : (j : Int) < 6 := by omega
                obtain ⟨y, hy⟩ : ∃ y, [ve, bl, ow, md, st, sr][j]? = some y := ⟨_, List.getElem?_eq_getElem (by simpa using hlt3)⟩
                have cj := S16.p1.cell j _ (is_at hy)
                have HNS := hide (nums_succ hy)
                have hnl := nums_length ([ve, bl, ow, md, st, sr].take j)
                have hnl2 : ([ve, bl, ow, md, st, sr].take j).length ≤ j := List.length_take_le _ _
                have hbn : (BB ++ nums ([ve, bl, ow, md, st, sr].take j)).length ≤ 12000000 := by rw [List.length_append]; omega
                clear hy hnl hnl2
                generalize nums ([ve, bl, ow, md, st, sr].take j) = NJ at *
                go_wp2_with fail
                refine (s_num [y] (S16.box _ _ rfl) rfl (by omega) (by simp)).mono ?_
                rintro e w17 ⟨v17, rfl, S17⟩
                clear S16 cj
                go_wp2_with fail
                go_roundw
                case rel => exact ⟨j + 1, by omega, by go_num, by rw [HNS.out, ← List.append_assoc]; exact S17⟩
                case measure => simp [RowKit.intOf]; omega
              · obtain rfl : j = 6 := by omega
                have HEND : Hid (BB ++ nums ([ve, bl, ow, md, st, sr].take 6) = N ++ (M.take (k + 1)).flatMap nodB) := hide (by
                  rw [HT.out, ← HBB.out]
                  simp [nodB, txts, List.append_assoc])
                have S17 := S16.p1.drop.p1.drop.p1.drop
                rw [HEND.out] at S17
                clear S16
                go_wp2_with fail
                go_roundw
                case rel => exact ⟨k + 1, by omega, by go_num, S17⟩
                case measure => simp [RowKit.intOf]; omega
        · obtain rfl : k = M.length := by omega
          rw [List.take_length, ← HTD.out] at S9
          have hTl2 : TB.length ≤ 9223372036854775807 := by omega
          clear hle
          go_wp2_with fail
          refine (s_read S9 TB hTl2).mono ?_
          rintro e w14 ⟨r, rfl, S14⟩
          have hrd := read_tree S14 HGL.out (by simp)
          rw [HR0.out] at hrd
          go_wp2_with fail
          refine hrd.mono ?_
          rintro e w15 ⟨u, rfl, S15⟩
          obtain ⟨B7, n7, cb7, hv7, hsrc7⟩ := S15.p2.bytesForm
          subst hv7
          have hconv2 := run_ofBytes (P := Tryz.prog) (dst := 9) Tryz.underlying37 Tryz.underlying5 Tryz.underlying9 hsrc7 cb7
          have S16 : Sat W w15 (rdA r ([], false) :: treeA u M :: cellsA mb 69 #[.slice A M.length c] :: rowA 71 8 (.slice A M.length c) M.length (M.flatMap entC) :: treeA t T :: [oldA W]) := S15.p2.drop.p1
          have e0 : rdone ([], false) = 0 := rfl
          clear S9 S14 S15 hsrc7 hrd
          go_wp2_with fail
          refine (s_rdone S16).mono ?_
          rintro e w17 ⟨rfl, S17⟩
          have S18 : Sat W w17 (treeA u M :: treeA t T :: modA mb M :: [oldA W]) := S17.drop.b2.modShut.b2
          clear S16 S17 hconv2
          have hsame := same_tree S18
          rw [HMOD.out.same] at hsame
          go_wp2_with fail
          refine hsame.mono ?_
          rintro e w18 ⟨rfl, S19⟩
          clear S18 hsame
          go_wp2_with fail
          refine (same_tm S19.p2.p1 HGL.out (by simp) HMOD.out.self).mono ?_
          rintro e w19 ⟨rfl, S20⟩
          clear S19
          have hK : 0 ≤ bits .and .i64 cut 65535 ∧ bits .and .i64 cut 65535 ≤ 65535 := and_le cut 65535 (by decide)
          have hK1 := hK.1
          obtain ⟨q, hq⟩ : ∃ q : Nat, (bits .and .i64 cut 65535).tmod (TB.length : Int) = (q : Int) := ⟨(bits .and .i64 cut 65535 % (TB.length : Int)).toNat, by
            rw [Int.tmod_eq_emod_of_nonneg hK.1]
            have := Int.emod_nonneg (bits .and .i64 cut 65535) (b := (TB.length : Int)) (by omega)
            omega⟩
          have hq2 : q < TB.length := by
            have := Int.emod_lt_of_pos (bits .and .i64 cut 65535) (b := (TB.length : Int)) (by omega)
            rw [← Int.tmod_eq_emod_of_nonneg hK.1, hq] at this
            omega
          have hext : (S TB).extract 0 q = S (TB.take q) := by rw [S_extract]; rfl
          have hcl : (TB.take q).length ≤ 9223372036854775807 := by have := List.length_take_le q TB; omega
          have HRQ := hide (HRC.out q hq2)
          go_wp2_with fail
          refine (s_read S20 (TB.take q) hcl).mono ?_
          rintro e w20 ⟨r2, rfl, S21⟩
          clear hq hK hK1 hext hcl S20
          have hrd2 := read_tree S21 HGL.out (by simp)
          rw [HRQ.out] at hrd2
          generalize (readTr (TB.take q, false)).2.1 = YL at *
          go_wp2_with fail
          refine hrd2.mono ?_
          rintro e w21 ⟨tv, rfl, S22⟩
          clear S21 hrd2
          go_wp2_with fail
          refine (s_rok S22.p1).mono ?_
          rintro e w22 ⟨rfl, S23⟩
          clear S22
          go_wp2_with fail
          refine (new_tree S23.drop).mono ?_
          rintro e w23 ⟨tn, rfl, S24⟩
          clear S23
          have hsame2 := same_tree S24.p1
          rw [show sameT rootT [([47], zN)] = true from by decide] at hsame2
          go_wp2_with fail
          refine hsame2.mono ?_
          rintro e w24 ⟨rfl, S25⟩
          have S26 : Sat W w24 (treeA t T :: treeA u M :: modA mb M :: [oldA W]) := S25.drop.drop.p2
          clear S24 S25 hsame2
          go_wp2_with fail
          refine (tclone_tree S26).mono ?_
          rintro e w26 ⟨tc, rfl, S27⟩
          have S28 := S27.p1
          clear S26 S27
          go_wp2_with fail
          go_loopw [152] (fun i wr => ∃ k : Nat, k ≤ more.length ∧ i = .int .i64 k ∧ ∃ T' M', Mod T' M' (acts.length + k) ∧ Sat W wr (treeA t T' :: treeA tc T :: treeA u M :: modA mb M :: [oldA W])) (fun i _ => more.length - (RowKit.intOf i).toNat)
          case atStart => exact ⟨0, by omega, rfl, T, M, HMOD.out, S28⟩
          case round =>
            obtain ⟨k2, hk2, rfl, T', M', hmod, S29⟩ := hrel
            clear S28
            by_cases hlt2 : k2 < more.length
            · have hk0 : (0 : Int) ≤ (k2 : Int) := by omega
              have hk1 : (k2 : Int) < (more.length : Int) := by omega
              obtain ⟨ad, x, rfl, hx, d0, d1, d2, d3, d4, d5, d6⟩ := tact_at (HSRC2.out S29 (by simp)).1 hlt2
              have hmem := List.mem_of_getElem? hx
              have hps := HS2.out.2 x hmem
              have hsm := HALL2.out x hmem
              obtain ⟨-, hmod2⟩ := hmod.do_ (by omega) x (100 + (k2 : Int)) (by omega)
              have HDO : Hid (∀ (w' : World) (nb : Nat) (L' : List Asn), Sat W w' (treeA t T' :: modA nb rootT :: L') → oldA W ∈ L' → Calls Tryz.prog 22 #[ptr t, ptr nb, actTV x, .int .i64 (100 + (k2 : Int))] w' fun e w2 => ∃ b, e = .returned (.bool b) ∧ ∃ M3, Sat W w2 (treeA t (doT T' x (100 + (k2 : Int))) :: modA nb M3 :: L')) := hide fun w' nb L' S' hm => by
                refine (do_tree S' HGL.out hm hmod Mod.start (by omega) (by omega) x hps hsm (100 + (k2 : Int))).mono ?_
                rintro e w2 ⟨rfl, S''⟩
                exact ⟨_, rfl, _, S''⟩
              clear hmod hx hmem hps
              generalize doT T' x (100 + (k2 : Int)) = T2 at *
              generalize doM M' x (100 + (k2 : Int)) = M2 at *
              have HMOD2 := hide hmod2
              clear hmod2
              obtain ⟨a0, a1, a2, xa, xc, xp, xr, xd, xs⟩ := x
              simp only at d0 d1 d2 d3 d4 d5 d6 hsm HDO
              go_upto_region 37 with fail
              have S30 := S29.box (actTA ⟨a0, a1, a2, xa, xc, xp, xr, xd, xs⟩) 54 rfl
              generalize wr.alloc (.cells (actTA ⟨a0, a1, a2, xa, xc, xp, xr, xd, xs⟩) 54) = w30 at *
              generalize wr.heap.size = xb at *
              have HX : Hid (∀ (w' : World) (L' : List Asn), Sat W w' L' → cellsA xb 54 (actTA ⟨a0, a1, a2, xa, xc, xp, xr, xd, xs⟩) ∈ L' → w'.cell? ⟨xb, 0, none⟩ = some (.int .i64 a0) ∧ w'.cell? ⟨xb, 1, none⟩ = some (.int .i64 a1) ∧ w'.cell? ⟨xb, 2, none⟩ = some (.int .i64 a2) ∧ w'.cell? ⟨xb, 3, none⟩ = some (.slice xa xp.length xc) ∧ w'.cell? ⟨xb, 4, none⟩ = some (.string (S xr)) ∧ w'.cell? ⟨xb, 5, none⟩ = some (.string (S xd)) ∧ w'.cell? ⟨xb, 6, none⟩ = some (.bool xs)) := hide fun w' L' S' hm => by
                obtain ⟨L2, S2⟩ := S'.mem_ hm
                exact ⟨S2.cell 0 _ rfl, S2.cell 1 _ rfl, S2.cell 2 _ rfl, S2.cell 3 _ rfl, S2.cell 4 _ rfl, S2.cell 5 _ rfl, S2.cell 6 _ rfl⟩
              have hwr : IntKind.i64.wrap (100 + (k2 : Int)) = 100 + (k2 : Int) := IntWalk.i64_in _ ⟨by omega, by omega⟩
              obtain ⟨q0, q1, q2, q3, q4, q5, q6⟩ := HX.out _ _ S30 (by simp)
              clear S29 d0 d1 d2 d3 d4 d5 d6
              go_region_held3 (fun w' => w'.cell? ⟨xb, 0, none⟩ = some (.int .i64 a0) ∧ w'.cell? ⟨xb, 1, none⟩ = some (.int .i64 a1) ∧ w'.cell? ⟨xb, 2, none⟩ = some (.int .i64 a2) ∧ w'.cell? ⟨xb, 3, none⟩ = some (.slice xa xp.length xc) ∧ w'.cell? ⟨xb, 4, none⟩ = some (.string (S xr)) ∧ w'.cell? ⟨xb, 5, none⟩ = some (.string (S xd)) ∧ w'.cell? ⟨xb, 6, none⟩ = some (.bool xs)) (first
                | (go_keep; done)
                | exact HX.out _ _ S32 (by simp)
                | exact HX.out _ _ S31 (by simp)
                | exact HX.out _ _ S30 (by simp)) (first
                | (go_at_call 21; refine (new_mod S30.drew).mono ?_; rintro e w31 ⟨mn, rfl, S31⟩; obtain ⟨q0, q1, q2, q3, q4, q5, q6⟩ := HX.out _ _ S31 (by simp))
                | (go_at_call 22; refine (HDO.out _ _ _ S31.p2 (by simp)).mono ?_; rintro e w32 ⟨bb, rfl, M3, S32⟩; obtain ⟨q0, q1, q2, q3, q4, q5, q6⟩ := HX.out _ _ S32 (by simp)))
              have S33 : Sat W w32 (treeA t T2 :: treeA tc T :: treeA u M :: modA mb M :: [oldA W]) := S32.p1.drop.p1.drop
              clear S30 S31 S32 q0 q1 q2 q3 q4 q5 q6 HX HDO
              go_wp2_with fail
              go_roundw
              case rel => exact ⟨k2 + 1, by omega, by go_num, T2, M2, by have := HMOD2.out; rwa [show acts.length + k2 + 1 = acts.length + (k2 + 1) from by omega] at this, S33⟩
              case measure => simp [RowKit.intOf]; omega
            · obtain rfl : k2 = more.length := by omega
              have S30 : Sat W wr (treeA tc T :: modA mb M :: treeA u M :: [oldA W]) := S29.drop.p2.p1
              clear S29 hmod
              go_wp2_with fail
              refine (same_tm S30 HGL.out (by simp) HMOD.out).mono ?_
              rintro e w33 ⟨rfl, S34⟩
              have S35 : Sat W w33 (treeA u M :: modA mb M :: [oldA W]) := S34.drop.p1
              clear S30 S34
              go_wp2_with fail
              refine (same_tm S35 HGL.out (by simp) HMOD.out.self).mono ?_
              rintro e w35 ⟨rfl, S36⟩
              have HK := hide S36.drop.drop.keep_all
              clear S35 S36
              go_wp2_with fail
              go_ret
              exact ⟨rfl, HK.out⟩
end Go.Proofs.YtecpfnobnpddaaaGreatDoor
