/- The law TreeVersions, walked. No condition. -/
import Derived.Test.YtecpfnobnpddaaaDoorTSerW
import Derived.Test.YtecpfnobnpddaaaDoorTVer
set_option linter.unusedVariables false
set_option linter.unusedSimpArgs false
namespace Go.Proofs.YtecpfnobnpddaaaDoor
open Go.RowKit

theorem vT_ok (d : List UInt8) (h st : Int) : NodesOk (vT d h st) := by
  intro p hp
  simp [vT] at hp
  rcases hp with rfl | rfl
  · simp
  · simp [vN]
theorem vT_paths (d : List UInt8) (h st : Int) : PathsOk (vT d h st) := by
  intro p hp
  simp [vT] at hp
  rcases hp with rfl | rfl
  · simp
  · simp [hA]
theorem check_eq {g w : World} {L : List Asn} {b : Nat} {T : TreeT} (S0 : Sat g w (treeA b T :: L)) (hG : GL w) (s : List UInt8) (v : Int) {r : Int} (h : (atF T s v).2 = r) (hs : s.length ≤ 140737488350000) :
    Calls Tryd.prog 25 #[ptr b, .string (S s), .int .i64 v] w fun e w' => e = .returned (.int .i64 r) ∧ Sat g w' (treeA b T :: L) := by
  subst h
  exact check_tree S0 hG s v (by omega)
theorem set_eq {g w : World} {L : List Asn} {b : Nat} {T : TreeT} (S0 : Sat g w (treeA b T :: L)) (hG : GL w) (s data : List UInt8) (v when_ : Int) {n r : Int} {T' : TreeT} (h : setF T s data v when_ = (n, r, T')) (hs : s.length ≤ 140737488350000) (hd : data.length ≤ 140737488350000)
    (hv : 0 ≤ (atF T s v).1.version ∧ (atF T s v).1.version ≤ 1000000) :
    Calls Tryd.prog 24 #[ptr b, .string (S s), .string (S data), .int .i64 v, .int .i64 when_] w fun e w' => e = .returned (.tuple #[.int .i64 n, .int .i64 r]) ∧ Sat g w' (treeA b T' :: L) := by
  have := set_tree S0 hG s data v when_ (by omega) hd hv
  rw [h] at this
  exact this
theorem vT_ver (d : List UInt8) (h st v : Int) (h0 : 0 ≤ h) (h1 : h ≤ 1000000) : 0 ≤ (atF (vT d h st) hA v).1.version ∧ (atF (vT d h st) hA v).1.version ≤ 1000000 := by
  rw [vT_at]
  split
  · exact ⟨by decide, by decide⟩
  · exact ⟨h0, h1⟩

set_option maxRecDepth 100000 in
set_option maxHeartbeats 8000000 in
theorem tver_walk (W : World) (hG : GL W) (A : Option Addr) (a : List Int) (c : Nat) (ha : Src W 1 A a.length (Is a)) (hl : a.length ≤ 9223372036854775807) :
    Calls Tryd.prog 6 #[.slice A a.length c] W fun e w' => e = .returned (.bool true) ∧ Keeps (fun _ => False) W w' := by
  have HGL : Hid (GL W) := hG
  have HSRC : Hid (∀ {w : World} {L : List Asn}, Sat W w L → oldA W ∈ L → Src w 1 A a.length (Is a)) := fun S0 hm => ha.keepB (by decide) (S0.keepsOf hm) (fun k hk h => by omega)
  clear ha
  go_enter Tryd.func6, Tryd.ntmps6
  go_wp2_with fail
  refine (head_tree (Sat.start W) hG (by simp)).mono ?_
  rintro e w0 ⟨rfl, S0⟩
  clear hG
  by_cases h30 : 30 < a.length
  · have h30b : (30 : Int) < (a.length : Int) := by omega
    have HK := hide S0.keep_all
    clear S0
    go_wp2_with fail
    go_ret
    exact ⟨rfl, HK.out⟩
  · have h30b : (a.length : Int) ≤ 30 := by omega
    go_wp2_with fail
    refine (new_tree S0).mono ?_
    rintro e w1 ⟨t, rfl, S1⟩
    clear S0
    go_wp2_with fail
    refine (create_eq S1 (HGL.out.at S1 (by simp)) (by intro p hp; simp at hp; subst hp; decide) hA [] 0 1 false vT_start (by decide) (by decide) (by decide)).mono ?_
    rintro e w2 ⟨rfl, S2⟩
    clear S1
    go_wp2_with fail
    go_loopw [6, 27] (fun hv i wr => ∃ (k : Nat) (d : List UInt8) (h st : Int), k ≤ a.length ∧ 0 ≤ h ∧ h ≤ k ∧ hv = .int .i64 h ∧ i = .int .i64 k ∧ Sat W wr (treeA t (vT d h st) :: [oldA W])) (fun _ i _ => a.length + 1 - (RowKit.intOf i).toNat)
    case atStart => exact ⟨0, [], 0, 1, by omega, by omega, by omega, rfl, rfl, S2⟩
    case round =>
      obtain ⟨k, d, h, st, hk, hh0, hh1, rfl, rfl, S3⟩ := hrel
      clear S2
      by_cases hlt : k < a.length
      · have hk0 : (0 : Int) ≤ (k : Int) := by omega
        have hk1 : (k : Int) < (a.length : Int) := by omega
        obtain ⟨ad, u, hAd, hu, hc⟩ := (HSRC.out S3 (by simp)).at_ hlt
        unfold Is at hu
        rw [List.getElem?_map, List.getElem?_eq_getElem hlt] at hu
        simp only [Option.map_some, Option.some.injEq] at hu
        subst hu
        generalize a[k] = x at *
        obtain ⟨q0, q1⟩ : 0 ≤ bits .and .i64 x 15 ∧ bits .and .i64 x 15 ≤ 15 := and_le x 15 (by decide)
        subst hAd
        go_upto_region 14 with fail
        obtain ⟨v, hv⟩ : ∃ v : Int, bits .and .i64 x 15 - 1 = v := ⟨_, rfl⟩
        rw [hv]
        have hv0 : -1 ≤ v := by omega
        have hv1 : v ≤ 14 := by omega
        have hkc : (UInt8.ofNat k).toNat = k := by
          rw [UInt8.toNat_ofNat']
          omega
        have hbs : Bs [UInt8.ofNat k] = [Value.int .u8 k] := by simp [Bs, B, hkc]
        have hsrc : Src (wr.alloc (.cells #[.int .u8 k] 5)) 1 (some ⟨wr.heap.size, 0, none⟩) 1 (Bs [UInt8.ofNat k]) := by
          rw [hbs]
          exact Src.block (heap_alloc_new wr (.cells #[.int .u8 k] 5)) 1 1 rfl
        have hconv := run_ofBytes (P := Tryd.prog) (dst := 9) Tryd.underlying42 Tryd.underlying5 Tryd.underlying9 hsrc 1
        have S4 := (S3.box #[.int .u8 k] 5 rfl).drop
        clear hsrc S3 hc
        go_wp2_with fail
        have HST : Hid (setF (vT d h st) hA [UInt8.ofNat k] v (2 + k) = if 0 ≤ v ∧ v ≠ h then (0, 14, vT d h st) else (h + 1, 0, vT [UInt8.ofNat k] (h + 1) (2 + k))) := hide (vT_set d _ h st v _ (by simp))
        clear hconv hbs hkc
        generalize wr.alloc (.cells #[.int .u8 k] 5) = w3 at *
        clear hv q0 q1
        by_cases hbad : 0 ≤ v ∧ v ≠ h
        · have e : setF (vT d h st) hA [UInt8.ofNat k] v (2 + k) = (0, 14, vT d h st) := by rw [HST.out, if_pos hbad]
          have HE := hide e
          obtain ⟨hv2, hv3⟩ := hbad
          have hv4 : (v == h) = false := by simpa using hv3
          have hv5 : decide (v < 0) = false := by simpa using hv2
          clear e HST hv3
          refine (set_eq S4 (HGL.out.at S4 (by simp)) hA [UInt8.ofNat k] v (2 + k) HE.out (by decide) (by simp) (vT_ver _ _ _ _ hh0 (by omega))).mono ?_
          rintro e w4 ⟨rfl, S5⟩
          clear S4 HE
          have hc1 : (atF (vT d (h) (st)) hA (h)).2 = 0 := by rw [vT_at, if_neg (by simp)]
          have hc2 : (atF (vT d (h) (st)) hA (h + 1)).2 = 14 := by rw [vT_at, if_pos ⟨by omega, by omega⟩]
          have hc3 : (atF (vT d (h) (st)) hA (-1)).2 = 0 := by rw [vT_at, if_neg (by simp)]
          have HC1 := hide hc1
          have HC2 := hide hc2
          have HC3 := hide hc3
          clear hc1 hc2 hc3
          go_wp2_with fail
          refine (check_eq S5 (HGL.out.at S5 (by simp)) hA (h) HC1.out (by decide)).mono ?_
          rintro e w5 ⟨rfl, S6⟩
          clear S5
          go_wp2_with fail
          refine (check_eq S6 (HGL.out.at S6 (by simp)) hA (h + 1) HC2.out (by decide)).mono ?_
          rintro e w6 ⟨rfl, S7⟩
          clear S6
          go_wp2_with fail
          refine (check_eq S7 (HGL.out.at S7 (by simp)) hA (-1) HC3.out (by decide)).mono ?_
          rintro e w7 ⟨rfl, S8⟩
          clear S7
          go_wp2_with fail
          go_roundw
          case rel => exact ⟨k + 1, d, h, st, by omega, hh0, by omega, rfl, by go_num, S8⟩
          case measure => simp [RowKit.intOf]; omega
        · have e : setF (vT d h st) hA [UInt8.ofNat k] v (2 + k) = (h + 1, 0, vT [UInt8.ofNat k] (h + 1) (2 + k)) := by rw [HST.out, if_neg hbad]
          have HE := hide e
          clear e HST
          have HD : Hid ([UInt8.ofNat k].length ≤ 1) := hide (by simp)
          generalize [UInt8.ofNat k] = d2 at *
          by_cases hneg : v < 0
          · clear hbad
            refine (set_eq S4 (HGL.out.at S4 (by simp)) hA d2 v (2 + k) HE.out (by decide) (by have := HD.out; omega) (vT_ver _ _ _ _ hh0 (by omega))).mono ?_
            rintro e w4 ⟨rfl, S5⟩
            clear S4 HE
            have hc1 : (atF (vT d2 (h + 1) (2 + k)) hA (h + 1)).2 = 0 := by rw [vT_at, if_neg (by simp)]
            have hc2 : (atF (vT d2 (h + 1) (2 + k)) hA (h + 1 + 1)).2 = 14 := by rw [vT_at, if_pos ⟨by omega, by omega⟩]
            have hc3 : (atF (vT d2 (h + 1) (2 + k)) hA (-1)).2 = 0 := by rw [vT_at, if_neg (by simp)]
            have HC1 := hide hc1
            have HC2 := hide hc2
            have HC3 := hide hc3
            clear hc1 hc2 hc3
            go_wp2_with fail
            refine (check_eq S5 (HGL.out.at S5 (by simp)) hA (h + 1) HC1.out (by decide)).mono ?_
            rintro e w5 ⟨rfl, S6⟩
            clear S5
            go_wp2_with fail
            refine (check_eq S6 (HGL.out.at S6 (by simp)) hA (h + 1 + 1) HC2.out (by decide)).mono ?_
            rintro e w6 ⟨rfl, S7⟩
            clear S6
            go_wp2_with fail
            refine (check_eq S7 (HGL.out.at S7 (by simp)) hA (-1) HC3.out (by decide)).mono ?_
            rintro e w7 ⟨rfl, S8⟩
            clear S7
            go_wp2_with fail
            go_roundw
            case rel => exact ⟨k + 1, d2, h + 1, 2 + k, by omega, by omega, by omega, rfl, by go_num, S8⟩
            case measure => simp [RowKit.intOf]; omega
          · have hvh : v = h := by
              apply Classical.byContradiction
              intro hne
              exact hbad ⟨by omega, hne⟩
            subst hvh
            have hv4 : (v == v) = true := by simp
            have hv5 : decide (v < 0) = false := by simpa using hneg
            clear hbad
            refine (set_eq S4 (HGL.out.at S4 (by simp)) hA d2 v (2 + k) HE.out (by decide) (by have := HD.out; omega) (vT_ver _ _ _ _ hh0 (by omega))).mono ?_
            rintro e w4 ⟨rfl, S5⟩
            clear S4 HE
            have hc1 : (atF (vT d2 (v + 1) (2 + k)) hA (v + 1)).2 = 0 := by rw [vT_at, if_neg (by simp)]
            have hc2 : (atF (vT d2 (v + 1) (2 + k)) hA (v + 1 + 1)).2 = 14 := by rw [vT_at, if_pos ⟨by omega, by omega⟩]
            have hc3 : (atF (vT d2 (v + 1) (2 + k)) hA (-1)).2 = 0 := by rw [vT_at, if_neg (by simp)]
            have HC1 := hide hc1
            have HC2 := hide hc2
            have HC3 := hide hc3
            clear hc1 hc2 hc3
            go_wp2_with fail
            refine (check_eq S5 (HGL.out.at S5 (by simp)) hA (v + 1) HC1.out (by decide)).mono ?_
            rintro e w5 ⟨rfl, S6⟩
            clear S5
            go_wp2_with fail
            refine (check_eq S6 (HGL.out.at S6 (by simp)) hA (v + 1 + 1) HC2.out (by decide)).mono ?_
            rintro e w6 ⟨rfl, S7⟩
            clear S6
            go_wp2_with fail
            refine (check_eq S7 (HGL.out.at S7 (by simp)) hA (-1) HC3.out (by decide)).mono ?_
            rintro e w7 ⟨rfl, S8⟩
            clear S7
            go_wp2_with fail
            go_roundw
            case rel => exact ⟨k + 1, d2, v + 1, 2 + k, by omega, by omega, by omega, rfl, by go_num, S8⟩
            case measure => simp [RowKit.intOf]; omega
      · obtain rfl : k = a.length := by omega
        have hc1 := vT_del d h st (h + 1)
        rw [if_pos ⟨by omega, by omega⟩] at hc1
        have hc2 := vT_del d h st h
        rw [if_neg (by simp)] at hc2
        have hc3 : (atF vE hA (-1)).2 = 11 := by rw [vE_at]
        have HC1 := hide hc1
        have HC2 := hide hc2
        have HC3 := hide hc3
        clear hc1 hc2 hc3
        go_wp2_with fail
        refine (delete_eq S3 HGL.out (by simp) (vT_paths _ _ _) (vT_ok _ _ _) hA (h + 1) HC1.out (by decide) (by simp [vT])).mono ?_
        rintro e w5 ⟨rfl, S6⟩
        clear S3
        go_wp2_with fail
        refine (delete_eq S6 HGL.out (by simp) (vT_paths _ _ _) (vT_ok _ _ _) hA h HC2.out (by decide) (by simp [vT])).mono ?_
        rintro e w6 ⟨rfl, S7⟩
        clear S6
        go_wp2_with fail
        refine (check_eq S7 (HGL.out.at S7 (by simp)) hA (-1) HC3.out (by decide)).mono ?_
        rintro e w7 ⟨rfl, S8⟩
        have HK := hide S8.drop.keep_all
        clear S7 S8
        go_wp2_with fail
        go_ret
        exact ⟨rfl, HK.out⟩
end Go.Proofs.YtecpfnobnpddaaaDoor
