/- The law TreeOwners, walked. No condition. -/
import Derived.Test.YtecpfnobnpddaaaDoorTOwn
set_option linter.unusedVariables false
set_option linter.unusedSimpArgs false
namespace Go.Proofs.YtecpfnobnpddaaaDoor
open Go.RowKit

abbrev cntC (os : List Int) : Array Value := #[.int .i64 (cnt os 0 : Nat), .int .i64 (cnt os 1 : Nat), .int .i64 (cnt os 2 : Nat), .int .i64 (cnt os 3 : Nat)]
theorem cnt_le (os : List Int) (j : Nat) : cnt os j ≤ os.length := List.length_filter_le _ _
theorem snoc_len {α : Type} (l : List α) (x : α) : (l ++ [x]).length = l.length + 1 := by simp

theorem sub_paths {m : TreeT} {k : Nat} {n n' : NodeT} {os : List Int} (h : OwnT (m ++ [(numN k, n)]) os) : PathsOk (m ++ [(numN k, n)] ++ [(subN k, n')]) := by
  intro p hp
  rcases List.mem_append.1 hp with hp | hp
  · exact h.paths p hp
  · obtain rfl : p = (subN k, n') := by simpa using hp
    rw [subN_len]
    decide
theorem sub_nodes {m : TreeT} {k : Nat} {n : NodeT} {o w : Int} {os : List Int} (h : OwnT (m ++ [(numN k, n)]) os) (hk : os.length ≤ 60) : NodesOk (m ++ [(numN k, n)] ++ [(subN k, newN [] o w)]) := by
  intro p hp
  rcases List.mem_append.1 hp with hp | hp
  · exact h.nodes hk p hp
  · obtain rfl : p = (subN k, newN [] o w) := by simpa using hp
    simp [newN]
theorem sub_str (k : Nat) : S (numN k) ++ (⟨#[47, 120]⟩ : ByteArray) = S (subN k) := S_append (numN k) [47, 120]

set_option maxRecDepth 100000 in
set_option maxHeartbeats 16000000 in
theorem town_walk (W : World) (hG : GL W) (A : Option Addr) (a : List Int) (c : Nat) (ha : Src W 1 A a.length (Is a)) (hl : a.length ≤ 9223372036854775807) :
    Calls Tryd.prog 8 #[.slice A a.length c] W fun e w' => e = .returned (.bool true) ∧ Keeps (fun _ => False) W w' := by
  have HGL : Hid (GL W) := hG
  have HSRC : Hid (∀ {w : World} {L : List Asn}, Sat W w L → oldA W ∈ L → Src w 1 A a.length (Is a)) := fun S0 hm => ha.keepB (by decide) (S0.keepsOf hm) (fun k hk h => by omega)
  clear ha
  go_enter Tryd.func8, Tryd.ntmps8
  go_wp2_with fail
  refine (head_tree (Sat.start W) hG (by simp)).mono ?_
  rintro e w0 ⟨rfl, S0⟩
  clear hG
  by_cases h40 : 40 < a.length
  · have h40b : (40 : Int) < (a.length : Int) := by omega
    have HK := hide S0.keep_all
    clear S0
    go_wp2_with fail
    go_ret
    exact ⟨rfl, HK.out⟩
  · have h40b : (a.length : Int) ≤ 40 := by omega
    go_wp2_with fail
    refine (new_tree S0).mono ?_
    rintro e w1 ⟨t, rfl, S1⟩
    clear S0
    go_upto_region 7 with fail
    have S2 := S1.box (cntC []) 3 rfl
    have hw2 : w1.alloc (.cells #[.int .i64 0, .int .i64 0, .int .i64 0, .int .i64 0] 3) = w1.alloc (.cells (cntC []) 3) := rfl
    rw [hw2]
    clear hw2
    generalize w1.alloc (.cells (cntC []) 3) = w2 at *
    generalize w1.heap.size = cb at *
    clear S1
    go_wp2_with fail
    go_loopw [26] (fun i wr => ∃ (os : List Int) (T : TreeT), os.length ≤ a.length ∧ OwnT T os ∧ i = .int .i64 os.length ∧ Sat W wr (cellsA cb 3 (cntC os) :: treeA t T :: [oldA W])) (fun i _ => a.length + 1 - (RowKit.intOf i).toNat)
    case atStart => exact ⟨[], _, by simp, own_start, rfl, S2⟩
    case round =>
      obtain ⟨os, T, hk, hT, rfl, S3⟩ := hrel
      clear S2
      by_cases hlt : os.length < a.length
      · have hk0 : (0 : Int) ≤ (os.length : Int) := by omega
        have hk1 : (os.length : Int) < (a.length : Int) := by omega
        obtain ⟨ad, u, hAd, hu, hc⟩ := (HSRC.out S3 (by simp)).at_ hlt
        unfold Is at hu
        rw [List.getElem?_map, List.getElem?_eq_getElem hlt] at hu
        simp only [Option.map_some, Option.some.injEq] at hu
        subst hu
        generalize a[os.length] = x at *
        obtain ⟨q0, q1⟩ : 0 ≤ bits .and .i64 x 3 ∧ bits .and .i64 x 3 ≤ 3 := and_le x 3 (by decide)
        subst hAd
        go_upto_region 11 with fail
        obtain ⟨o, ho⟩ : ∃ o : Int, bits .and .i64 x 3 = o := ⟨_, rfl⟩
        rw [ho]
        have HQ : Hid (o = 0 ∨ o = 1 ∨ o = 2 ∨ o = 3) := hide (by omega)
        clear ho q0 q1 hc
        go_wp2_with fail
        rcases HQ.out with ho | ho | ho | ho
        · subst ho
          clear HQ
          obtain ⟨m, hcr, hmk, hmT⟩ := hT.create 0 (by omega)
          have HCR := hide hcr
          have HMK := hide hmk
          have HMT := hide hmT
          have HT := hide hT
          clear hcr hmk hmT hT
          refine (create_eq S3.p1 (HGL.out.at S3 (by simp)) (HT.out.nodes (by omega)) [47, 110] [] 0 ((os.length : Int) + 1) true HCR.out (by decide) (by decide) (by rw [HT.out.len]; omega)).mono ?_
          rintro e w3 ⟨rfl, S4⟩
          have S5 := S4.p1
          clear S3 S4
          have hcl := cnt_le os 0
          have b0 := S5.cell 0 _ rfl
          have f0 := S5.cells_fz 0
          have hnl := numN_len os.length
          go_upto_region 15 with fail
          have hset : Sat W (w3.setCell ⟨cb, 0, none⟩ (.int .i64 ((cnt os 0 : Nat) + 1))) (cellsA cb 3 (cntC (os ++ [0])) :: treeA t (m ++ [(numN os.length, newN [] 0 ((os.length : Int) + 1))]) :: [oldA W]) := by
            have h1 := S5.setc 0 (.int .i64 ((cnt os 0 : Nat) + 1))
            have h2 : (cntC os).setIfInBounds 0 (.int .i64 ((cnt os 0 : Nat) + 1)) = cntC (os ++ [0]) := by simp [cnt_snoc]
            rwa [h2] at h1
          have S6 := hset
          clear S5 b0 f0 hset hcl
          generalize w3.setCell ⟨cb, 0, none⟩ (.int .i64 ((cnt os 0 : Nat) + 1)) = w4 at *
          have HT1 := hide (HMT.out (newN [] 0 ((os.length : Int) + 1)) rfl rfl (by simp [newN, moreN]) (by simp [newN, moreN]))
          go_wp2_with fail
          rw [sub_str]
          have hsn := sub_new (w := (os.length : Int) + 1) HMK.out (fun h => HT1.out.subOut os.length (by simp only [keys, List.map_append, List.mem_append]; exact .inl h)) (by have := HT1.out.len; rw [snoc_len, snoc_len] at this; omega)
          have HT2 := hide (HMT.out (moreN (newN [] 0 ((os.length : Int) + 1)) false) rfl rfl (by simp [newN, moreN]) (by simp [newN, moreN]))
          have HT3 := hide (HMT.out (moreN (moreN (newN [] 0 ((os.length : Int) + 1)) false) false) rfl rfl (by simp [newN, moreN]) (by simp [newN, moreN]))
          rw [if_pos (sub_kids HT2.out)] at hsn
          have HSN := hide hsn
          clear hsn
          refine (create_eq S6.p1 (HGL.out.at S6 (by simp)) (HT1.out.nodes (by rw [snoc_len]; omega)) (subN os.length) [] 0 ((os.length : Int) + 1) false HSN.out.1 (by rw [subN_len]; decide) (by decide) (by rw [HT1.out.len, snoc_len]; omega)).mono ?_
          rintro e w5 ⟨rfl, S7⟩
          clear S6
          go_wp2_with fail
          rw [sub_str]
          refine (delete_eq S7 HGL.out (by simp) (sub_paths HT2.out) (sub_nodes HT2.out (by rw [snoc_len]; omega)) (subN os.length) (-1) HSN.out.2 (by rw [subN_len]; decide) (by rw [snoc_len, HT2.out.len, snoc_len]; omega)).mono ?_
          rintro e w6 ⟨rfl, S8⟩
          have S9 := S8.p1
          clear S7 S8
          go_wp2_with fail
          go_roundw
          case rel => exact ⟨os ++ [0], _, by rw [snoc_len]; omega, HT3.out, by rw [snoc_len]; go_num, S9⟩
          case measure => simp [RowKit.intOf]; omega
        · subst ho
          clear HQ
          obtain ⟨m, hcr, hmk, hmT⟩ := hT.create 1 (by omega)
          have HCR := hide hcr
          have HMK := hide hmk
          have HMT := hide hmT
          have HT := hide hT
          clear hcr hmk hmT hT
          refine (create_eq S3.p1 (HGL.out.at S3 (by simp)) (HT.out.nodes (by omega)) [47, 110] [] 1 ((os.length : Int) + 1) true HCR.out (by decide) (by decide) (by rw [HT.out.len]; omega)).mono ?_
          rintro e w3 ⟨rfl, S4⟩
          have S5 := S4.p1
          clear S3 S4
          have hcl := cnt_le os 1
          have b0 := S5.cell 1 _ rfl
          have f0 := S5.cells_fz 1
          have hnl := numN_len os.length
          go_upto_region 15 with fail
          have hset : Sat W (w3.setCell ⟨cb, 1, none⟩ (.int .i64 ((cnt os 1 : Nat) + 1))) (cellsA cb 3 (cntC (os ++ [1])) :: treeA t (m ++ [(numN os.length, newN [] 1 ((os.length : Int) + 1))]) :: [oldA W]) := by
            have h1 := S5.setc 1 (.int .i64 ((cnt os 1 : Nat) + 1))
            have h2 : (cntC os).setIfInBounds 1 (.int .i64 ((cnt os 1 : Nat) + 1)) = cntC (os ++ [1]) := by simp [cnt_snoc]
            rwa [h2] at h1
          have S6 := hset
          clear S5 b0 f0 hset hcl
          generalize w3.setCell ⟨cb, 1, none⟩ (.int .i64 ((cnt os 1 : Nat) + 1)) = w4 at *
          have HT1 := hide (HMT.out (newN [] 1 ((os.length : Int) + 1)) rfl rfl (by simp [newN, moreN]) (by simp [newN, moreN]))
          go_wp2_with fail
          rw [sub_str]
          refine (create_eq S6.p1 (HGL.out.at S6 (by simp)) (HT1.out.nodes (by rw [snoc_len]; omega)) (subN os.length) [] 0 ((os.length : Int) + 1) false (sub_eph HMK.out (by decide)) (by rw [subN_len]; decide) (by decide) (by rw [HT1.out.len, snoc_len]; omega)).mono ?_
          rintro e w5 ⟨rfl, S7⟩
          have S8 := S7.p1
          clear S6 S7
          go_wp2_with fail
          go_roundw
          case rel => exact ⟨os ++ [1], _, by rw [snoc_len]; omega, HT1.out, by rw [snoc_len]; go_num, S8⟩
          case measure => simp [RowKit.intOf]; omega
        · subst ho
          clear HQ
          obtain ⟨m, hcr, hmk, hmT⟩ := hT.create 2 (by omega)
          have HCR := hide hcr
          have HMK := hide hmk
          have HMT := hide hmT
          have HT := hide hT
          clear hcr hmk hmT hT
          refine (create_eq S3.p1 (HGL.out.at S3 (by simp)) (HT.out.nodes (by omega)) [47, 110] [] 2 ((os.length : Int) + 1) true HCR.out (by decide) (by decide) (by rw [HT.out.len]; omega)).mono ?_
          rintro e w3 ⟨rfl, S4⟩
          have S5 := S4.p1
          clear S3 S4
          have hcl := cnt_le os 2
          have b0 := S5.cell 2 _ rfl
          have f0 := S5.cells_fz 2
          have hnl := numN_len os.length
          go_upto_region 15 with fail
          have hset : Sat W (w3.setCell ⟨cb, 2, none⟩ (.int .i64 ((cnt os 2 : Nat) + 1))) (cellsA cb 3 (cntC (os ++ [2])) :: treeA t (m ++ [(numN os.length, newN [] 2 ((os.length : Int) + 1))]) :: [oldA W]) := by
            have h1 := S5.setc 2 (.int .i64 ((cnt os 2 : Nat) + 1))
            have h2 : (cntC os).setIfInBounds 2 (.int .i64 ((cnt os 2 : Nat) + 1)) = cntC (os ++ [2]) := by simp [cnt_snoc]
            rwa [h2] at h1
          have S6 := hset
          clear S5 b0 f0 hset hcl
          generalize w3.setCell ⟨cb, 2, none⟩ (.int .i64 ((cnt os 2 : Nat) + 1)) = w4 at *
          have HT1 := hide (HMT.out (newN [] 2 ((os.length : Int) + 1)) rfl rfl (by simp [newN, moreN]) (by simp [newN, moreN]))
          go_wp2_with fail
          rw [sub_str]
          refine (create_eq S6.p1 (HGL.out.at S6 (by simp)) (HT1.out.nodes (by rw [snoc_len]; omega)) (subN os.length) [] 0 ((os.length : Int) + 1) false (sub_eph HMK.out (by decide)) (by rw [subN_len]; decide) (by decide) (by rw [HT1.out.len, snoc_len]; omega)).mono ?_
          rintro e w5 ⟨rfl, S7⟩
          have S8 := S7.p1
          clear S6 S7
          go_wp2_with fail
          go_roundw
          case rel => exact ⟨os ++ [2], _, by rw [snoc_len]; omega, HT1.out, by rw [snoc_len]; go_num, S8⟩
          case measure => simp [RowKit.intOf]; omega
        · subst ho
          clear HQ
          obtain ⟨m, hcr, hmk, hmT⟩ := hT.create 3 (by omega)
          have HCR := hide hcr
          have HMK := hide hmk
          have HMT := hide hmT
          have HT := hide hT
          clear hcr hmk hmT hT
          refine (create_eq S3.p1 (HGL.out.at S3 (by simp)) (HT.out.nodes (by omega)) [47, 110] [] 3 ((os.length : Int) + 1) true HCR.out (by decide) (by decide) (by rw [HT.out.len]; omega)).mono ?_
          rintro e w3 ⟨rfl, S4⟩
          have S5 := S4.p1
          clear S3 S4
          have hcl := cnt_le os 3
          have b0 := S5.cell 3 _ rfl
          have f0 := S5.cells_fz 3
          have hnl := numN_len os.length
          go_upto_region 15 with fail
          have hset : Sat W (w3.setCell ⟨cb, 3, none⟩ (.int .i64 ((cnt os 3 : Nat) + 1))) (cellsA cb 3 (cntC (os ++ [3])) :: treeA t (m ++ [(numN os.length, newN [] 3 ((os.length : Int) + 1))]) :: [oldA W]) := by
            have h1 := S5.setc 3 (.int .i64 ((cnt os 3 : Nat) + 1))
            have h2 : (cntC os).setIfInBounds 3 (.int .i64 ((cnt os 3 : Nat) + 1)) = cntC (os ++ [3]) := by simp [cnt_snoc]
            rwa [h2] at h1
          have S6 := hset
          clear S5 b0 f0 hset hcl
          generalize w3.setCell ⟨cb, 3, none⟩ (.int .i64 ((cnt os 3 : Nat) + 1)) = w4 at *
          have HT1 := hide (HMT.out (newN [] 3 ((os.length : Int) + 1)) rfl rfl (by simp [newN, moreN]) (by simp [newN, moreN]))
          go_wp2_with fail
          rw [sub_str]
          refine (create_eq S6.p1 (HGL.out.at S6 (by simp)) (HT1.out.nodes (by rw [snoc_len]; omega)) (subN os.length) [] 0 ((os.length : Int) + 1) false (sub_eph HMK.out (by decide)) (by rw [subN_len]; decide) (by decide) (by rw [HT1.out.len, snoc_len]; omega)).mono ?_
          rintro e w5 ⟨rfl, S7⟩
          have S8 := S7.p1
          clear S6 S7
          go_wp2_with fail
          go_roundw
          case rel => exact ⟨os ++ [3], _, by rw [snoc_len]; omega, HT1.out, by rw [snoc_len]; go_num, S8⟩
          case measure => simp [RowKit.intOf]; omega
      · have hke : os.length = a.length := by omega
        have hnd := S3.p1.treeNodup
        have HT := hide hT
        have HND := hide hnd
        clear hT hnd
        have hcnt : ∀ j, cnt os j ≤ 40 := fun j => Nat.le_trans (cnt_le os j) (by omega)
        have HCN := hide hcnt
        clear hcnt
        have hnlt : (a.length : Int) ≤ (os.length : Int) := by omega
        have hd : decide (os.length < a.length) = false := by simp; omega
        have hd2 : decide ((os.length : Int) < (a.length : Int)) = false := by simp; omega
        have HKE := hide hke
        have hos : os.length ≤ 40 := by omega
        clear hke hk hlt
        go_wp2_with fail
        try simp only [hd]
        clear hd hd2 hnlt
        go_loopw [11] (fun i wr2 => ∃ j : Nat, 1 ≤ j ∧ j ≤ 4 ∧ i = .int .i64 j ∧ Sat W wr2 (cellsA cb 3 (cntC os) :: treeA t T :: [oldA W])) (fun i _ => 5 - (RowKit.intOf i).toNat)
        case atStart => exact ⟨1, by omega, by omega, rfl, S3⟩
        case round =>
          obtain ⟨j, hj1, hj4, rfl, S4⟩ := hrel
          clear S3
          by_cases hlt2 : j < 4
          · have hj3 : (j : Int) < 4 := by omega
            have hj0 : (0 : Int) ≤ (j : Int) := by omega
            have hg : (cntC os)[j]? = some (.int .i64 (cnt os j : Nat)) := by
              have : j = 1 ∨ j = 2 ∨ j = 3 := by omega
              rcases this with rfl | rfl | rfl <;> rfl
            have HG := hide hg
            have hcj := HCN.out j
            clear hg
            go_wp2_with fail
            refine (owned_tree S4.p1 HT.out.paths (by rw [HT.out.len]; omega) (j : Int)).mono ?_
            rintro e w3 ⟨v, rfl, S5⟩
            clear S4
            obtain ⟨A2, c2, rfl, -⟩ := S5.row.form
            have hol := own_len HT.out HND.out hj1
            have HI : Hid (∀ s ∈ ownedF T (j : Int), ∃ n, getF T s = (n, 0) ∧ n.owner = (j : Int)) := hide fun s hs => own_get_ HT.out HND.out hs
            have HN : Hid (∀ {k : Nat} {a b : List UInt8}, (ownedF T (j : Int))[k]? = some a → (ownedF T (j : Int))[k + 1]? = some b → Op.bytesLess a b = true) := hide fun h1 h2 => own_next HND.out _ h1 h2
            generalize ownedF T (j : Int) = OF at *
            have cj := S5.p2.cell j _ HG.out
            rw [← hol] at cj hcj
            clear hol
            go_wp2_with fail
            go_loopw [102] (fun i wr3 => ∃ k : Nat, k ≤ OF.length ∧ i = .int .i64 k ∧ Sat W wr3 (rowA 9 1 (.slice A2 OF.length c2) OF.length (Ss OF) :: treeA t T :: cellsA cb 3 (cntC os) :: [oldA W])) (fun i _ => OF.length + 1 - (RowKit.intOf i).toNat)
            case atStart => exact ⟨0, by omega, rfl, S5⟩
            case round =>
              obtain ⟨k, hkk, rfl, S6⟩ := hrel
              clear S5 cj
              by_cases hlt3 : k < OF.length
              · have hk0 : (0 : Int) ≤ (k : Int) := by omega
                have hk1 : (k : Int) < (OF.length : Int) := by omega
                obtain ⟨ad2, s, hA2, hs, hc⟩ := str_at S6.srcT hlt3
                subst hA2
                obtain ⟨n, hgn, hno⟩ := HI.out s (List.mem_of_getElem? hs)
                obtain ⟨d, ve, bl, ow, md, st, sr⟩ := n
                simp only at hno
                subst hno
                have HGN := hide hgn
                have HSK := hide hs
                have hsl : s.length ≤ 1000000 := by
                  have h0 : (getF T s).2 = 0 := by rw [hgn]
                  unfold getF at h0
                  split at h0
                  · rename_i hc0
                    have := (HT.out.paths)
                    have hk3 : s ∈ keys T := by
                      cases hm : mget T s with
                      | none => rw [hm] at h0; simp at h0
                      | some n => exact mem_keys_mget.2 ⟨n, hm⟩
                    obtain ⟨p, hp, e⟩ := List.mem_map.1 hk3
                    have := this p hp
                    rw [e] at this
                    omega
                  · rename_i hc0
                    exact absurd h0 hc0
                clear hgn hs
                go_wp2_with fail
                have hget := get_tree S6.p1 (HGL.out.at S6 (by simp)) s (by omega)
                rw [HGN.out] at hget
                refine hget.mono ?_
                rintro e w5 ⟨rfl, S7⟩
                clear hget S6 hc
                go_upto_region 31 with fail
                have S8 := S7.box (nodC ⟨d, ve, bl, j, md, st, sr⟩) 30 rfl
                generalize w5.alloc (.cells (nodC ⟨d, ve, bl, j, md, st, sr⟩) 30) = w6 at *
                generalize w5.heap.size = xb at *
                clear S7
                obtain ⟨a0, a1, a2, a3, a4, a5, a6⟩ := S8.nod
                simp only at a0 a1 a2 a3 a4 a5 a6
                have hjj : ((j : Int) == (j : Int)) = true := by simp
                by_cases hk00 : k = 0
                · subst hk00
                  go_wp2_with fail
                  go_roundw
                  case rel => exact ⟨1, by omega, rfl, S8.drop.p1⟩
                  case measure => simp [RowKit.intOf] <;> omega
                · obtain ⟨k', rfl⟩ : ∃ k', k = k' + 1 := ⟨k - 1, by omega⟩
                  obtain ⟨ad3, s3, hA3, hs3, hc3⟩ := str_at S8.p2.srcT (k := k') (by omega)
                  obtain rfl := Option.some.inj hA3
                  have hless := HN.out hs3 HSK.out
                  have hsub : ((k' + 1 : Nat) : Int) - 1 = (k' : Int) := by omega
                  have hpos : (0 : Int) < ((k' + 1 : Nat) : Int) := by omega
                  have hk2 : (k' : Int) < (OF.length : Int) := by omega
                  clear hs3
                  go_wp2_with fail
                  go_roundw
                  case rel => exact ⟨k' + 1 + 1, by omega, by go_num, S8.drop.p1⟩
                  case measure => simp [RowKit.intOf]; omega
              · obtain rfl : k = OF.length := by omega
                go_wp2_with fail
                go_roundw
                case rel => exact ⟨j + 1, by omega, by omega, by go_num, S6.drop.p1⟩
                case measure => simp [RowKit.intOf]; omega
          · obtain rfl : j = 4 := by omega
            have HZ := hide (own_zero T)
            go_wp2_with fail
            refine (owned_tree S4.p1 HT.out.paths (by rw [HT.out.len]; omega) 0).mono ?_
            rw [HZ.out]
            rintro e w3 ⟨v, rfl, S5⟩
            obtain ⟨A2, c2, rfl, -⟩ := S5.row.form
            have HK := hide S5.p3.keep_all
            clear S4 S5
            go_wp2_with fail
            go_ret
            exact ⟨rfl, HK.out⟩
end Go.Proofs.YtecpfnobnpddaaaDoor
