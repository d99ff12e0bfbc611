/- Contracts of the package tree: Read. No condition. -/
import Derived.Test.YthgiamofndhehaaGreatDoorTRd
import Derived.StillTailTactics
set_option linter.unusedVariables false
set_option linter.unusedSimpArgs false
namespace Go.Proofs.YthgiamofndhehaaGreatDoor
open Go.RowKit

theorem look_any {g w : World} {L : List Asn} {mb : Nat} {T : TreeT} (S0 : Sat g w (mapA kS nodV mb T :: L)) (k : List UInt8) :
    (Instr.lookup 94 (.map (some mb)) (.string (S k)) true).run Tryz.prog w = .ok (.tuple #[nodV ((mget T k).getD zN), .bool (mget T k).isSome]) w := by
  cases h : mget T k with
  | none => exact look_non S0 h true
  | some n => exact look_node S0 h true

set_option maxRecDepth 100000 in
set_option maxHeartbeats 8000000 in
theorem read_tree {g w : World} {L : List Asn} {r : Nat} {x : RS} (S0 : Sat g w (rdA r x :: L)) (hG : GL g) (hm : oldA g ∈ L) :
    Calls Tryz.prog 64 #[ptr r] w fun e w' => ∃ t, e = .returned (ptr t) ∧ Sat g w' (treeA t (readTr x).1 :: rdA r (readTr x).2 :: L) := by
  have HGL : Hid (∀ {w : World} {L' : List Asn}, Sat g w L' → oldA g ∈ L' → GL w) := fun S h => hG.at S h
  have HRT : Hid (readTr x = match treR (rn x 60).2 (rn x 60).1.toNat with
    | none => (rootT, fl)
    | some (m, y) => if y.2 = true ∨ m = [] then (rootT, fl) else (m, y)) := rfl
  have hn1 := rn_lo x 60
  have hn2 := rn_hi x 60 (by decide)
  generalize readTr x = RT at *
  have hmm := @run_makeMap Tryz.prog
  go_enter Tryz.func64, Tryz.ntmps64
  go_upto_region 2 with fail
  have S1 : Sat g (w.alloc (.map #[] 0)) (mapA kS nodV w.heap.size [] :: rdA r x :: L) := S0.mapNew ((Keeps.refl _ w).alloc _) (Nat.le_refl _) (MapOf.made kS nodV w)
  have S2 := S1.box #[.map (some w.heap.size)] 96 rfl
  generalize (w.alloc (.map #[] 0)).alloc (.cells #[.map (some w.heap.size)] 96) = w2 at *
  have hsz : (w.alloc (.map #[] 0)).heap.size = w.heap.size + 1 := by simp
  rw [hsz] at S2
  generalize w.heap.size + 1 = t at *
  generalize w.heap.size = mb at *
  clear S0 S1 hmm hsz
  go_wp2_with fail
  refine (s_rnum 60 S2.p2).mono ?_
  rintro e w3 ⟨rfl, S3⟩
  generalize rn x 60 = a0 at *
  obtain ⟨n, x0⟩ := a0
  simp only at HRT hn1 hn2 S3 ⊢
  obtain ⟨N, rfl⟩ := Int.eq_ofNat_of_zero_le hn1
  simp only [Int.toNat_natCast] at HRT
  clear S2
  go_wp2_with fail
  go_loopw [4, 16] (fun la i wr => ∃ k : Nat, k ≤ N ∧ i = .int .i64 k ∧ ∃ (m : TreeT) (y : RS), treR x0 k = some (m, y) ∧ la = .string (S (lastP m)) ∧ Sat g wr (cellsA t 96 #[.map (some mb)] :: mapA kS nodV mb m :: rdA r y :: L)) (fun _ i _ => N + 1 - (RowKit.intOf i).toNat)
  case atStart => exact ⟨0, by omega, rfl, [], x0, rfl, rfl, S3.b2⟩
  case round =>
    obtain ⟨k, hk, rfl, m, y, hst, rfl, S4⟩ := hrel
    clear S3
    have HST := hide hst
    have HASC := hide (treR_len _ _ _ _ hst).2
    have hml := (treR_len _ _ _ _ hst).1
    clear hst
    by_cases hlt : k < N
    · have HE : Hid (nodR y = (((rt y 60).1, ⟨(rt (rt y 60).2 60).1, (rn (rt (rt y 60).2 60).2 281474976710655).1, (rn (rn (rt (rt y 60).2 60).2 281474976710655).2 281474976710655).1, (rn (rn (rn (rt (rt y 60).2 60).2 281474976710655).2 281474976710655).2 281474976710655).1, (rn (rn (rn (rn (rt (rt y 60).2 60).2 281474976710655).2 281474976710655).2 281474976710655).2 281474976710655).1, (rn (rn (rn (rn (rn (rt (rt y 60).2 60).2 281474976710655).2 281474976710655).2 281474976710655).2 281474976710655).2 281474976710655).1, (rn (rn (rn (rn (rn (rn (rt (rt y 60).2 60).2 281474976710655).2 281474976710655).2 281474976710655).2 281474976710655).2 281474976710655).2 281474976710655).1⟩), (rn (rn (rn (rn (rn (rn (rt (rt y 60).2 60).2 281474976710655).2 281474976710655).2 281474976710655).2 281474976710655).2 281474976710655).2 281474976710655).2)) := rfl
      go_wp2_with fail
      refine (s_rtext 60 S4.p2).mono ?_
      rintro e w5 ⟨rfl, S5⟩
      have hl5 := rt_len y 60 (by decide)
      generalize rt y 60 = a5 at *
      obtain ⟨t5, y5⟩ := a5
      simp only at HE S5 hl5 ⊢
      clear S4
      go_wp2_with fail
      refine (s_rtext 60 S5).mono ?_
      rintro e w6 ⟨rfl, S6⟩
      have hl6 := rt_len y5 60 (by decide)
      generalize rt y5 60 = a6 at *
      obtain ⟨t6, y6⟩ := a6
      simp only at HE S6 hl6 ⊢
      clear S5
      go_wp2_with fail
      refine (s_rnum 281474976710655 S6).mono ?_
      rintro e w7 ⟨rfl, S7⟩
      generalize rn y6 281474976710655 = a7 at *
      obtain ⟨t7, y7⟩ := a7
      simp only at HE S7 ⊢
      clear S6
      go_wp2_with fail
      refine (s_rnum 281474976710655 S7).mono ?_
      rintro e w8 ⟨rfl, S8⟩
      generalize rn y7 281474976710655 = a8 at *
      obtain ⟨t8, y8⟩ := a8
      simp only at HE S8 ⊢
      clear S7
      go_wp2_with fail
      refine (s_rnum 281474976710655 S8).mono ?_
      rintro e w9 ⟨rfl, S9⟩
      generalize rn y8 281474976710655 = a9 at *
      obtain ⟨t9, y9⟩ := a9
      simp only at HE S9 ⊢
      clear S8
      go_wp2_with fail
      refine (s_rnum 281474976710655 S9).mono ?_
      rintro e w10 ⟨rfl, S10⟩
      generalize rn y9 281474976710655 = a10 at *
      obtain ⟨t10, y10⟩ := a10
      simp only at HE S10 ⊢
      clear S9
      go_wp2_with fail
      refine (s_rnum 281474976710655 S10).mono ?_
      rintro e w11 ⟨rfl, S11⟩
      generalize rn y10 281474976710655 = a11 at *
      obtain ⟨t11, y11⟩ := a11
      simp only at HE S11 ⊢
      clear S10
      go_wp2_with fail
      refine (s_rnum 281474976710655 S11).mono ?_
      rintro e w12 ⟨rfl, S12⟩
      generalize rn y11 281474976710655 = a12 at *
      obtain ⟨t12, y12⟩ := a12
      simp only at HE S12 ⊢
      clear S11
      have HS : Hid (treR x0 (k + 1) = if badN m t5 = true then none else some (m ++ [(t5, ⟨t6, t7, t8, t9, t10, t11, t12⟩)], y12)) := by
        show _ = _
        simp only [treR, HST.out, HE.out]
      have HB : Hid (badN m t5 = (decide (checkF t5 ≠ 0) || (Op.bytesLess t5 (lastP m) || t5 == lastP m) || ((mget m (upF t5).1).isNone && decide (t5 ≠ [47])))) := rfl
      have HPT : Hid (badN m t5 = false → mput m t5 ⟨t6, t7, t8, t9, t10, t11, t12⟩ = m ++ [(t5, ⟨t6, t7, t8, t9, t10, t11, t12⟩)]) := hide fun h => HASC.out.put (t5, ⟨t6, t7, t8, t9, t10, t11, t12⟩) (by rw [h]; decide)
      go_upto_region 7 with fail
      have S13 := S12.box (nodC ⟨t6, t7, t8, t9, t10, t11, t12⟩) 39 rfl
      generalize w12.alloc (.cells (nodC ⟨t6, t7, t8, t9, t10, t11, t12⟩) 39) = w13 at *
      generalize w12.heap.size = nb at *
      clear S12
      have hch := fun w hG => check_path w t5 (by omega) hG
      have hup := up_path w13 t5 (by omega)
      have hcc := check_cases t5
      generalize badN m t5 = BD at *
      generalize checkF t5 = C at *
      generalize (upF t5).1 = up at *
      generalize (upF t5).2 = ul at *
      go_wp2_with fail
      refine hup.mono ?_
      rintro e w14 ⟨rfl, hk14⟩
      have S14 := S13.keep hk14
      clear S13 hup hk14
      have c0 := S14.p2.cell 0 _ rfl
      have hl := look_any S14.p3 up
      have HBI : Hid ((mget m up).isNone = !(mget m up).isSome) := by
        show _ = _
        cases mget m up <;> rfl
      go_upto_region 9 with fail
      have S15 := (S14.box (nodC ((mget m up).getD zN)) 39 rfl).drop
      generalize w14.alloc (.cells (nodC ((mget m up).getD zN)) 39) = w15 at *
      generalize w14.heap.size = ob at *
      clear S14 c0 hl
      generalize (mget m up).isNone = BN at *
      generalize (mget m up).isSome = BS at *
      generalize (mget m up).getD zN = on at *
      go_wp2_with fail
      refine (hch w15 (HGL.out S15 (by simp [hm]))).mono ?_
      rintro e w16 ⟨rfl, hk16⟩
      have S16 := S15.keep hk16
      clear S15 hk16 hch
      obtain ⟨la, hla⟩ : ∃ la, lastP m = la := ⟨_, rfl⟩
      rw [hla] at HB ⊢
      clear hla
      rcases hcc with rfl | rfl
      · cases h1 : Op.bytesLess t5 la
        · cases h2 : (t5 == la)
          · cases BS
            · by_cases h3 : t5 = [47]
              · have h3b : (t5 == [47]) = true := by simpa using h3
                have HBT : Hid (BD = false) := hide (by rw [HB.out, h1, h2]; simp [h3])
                clear HB HBI h3
                have hst2 : treR x0 (k + 1) = some (m ++ [(t5, ⟨t6, t7, t8, t9, t10, t11, t12⟩)], y12) := by rw [HS.out, if_neg (by rw [HBT.out]; decide)]
                have hput : mput m t5 ⟨t6, t7, t8, t9, t10, t11, t12⟩ = m ++ [(t5, ⟨t6, t7, t8, t9, t10, t11, t12⟩)] := HPT.out HBT.out
                have HST2 := hide hst2
                have HPUT := hide hput
                clear hst2 hput HS HE HST HBT
                go_upto_region 11 with fail
                obtain ⟨a0, a1, a2, a3, a4, a5, a6⟩ := S16.nod
                have S17 := S16.drew
                obtain ⟨b0, b1, b2, b3, b4, b5, b6⟩ := S17.nod
                have c0 := S16.p2.cell 0 _ rfl
                have c0' := S17.p2.cell 0 _ rfl
                obtain ⟨w18, hup, S18⟩ := put_node S17.p3 t5 ⟨t6, t7, t8, t9, t10, t11, t12⟩
                rw [HPUT.out] at S18
                simp only at a0 a1 a2 a3 a4 a5 a6 b0 b1 b2 b3 b4 b5 b6
                clear S16 S17
                go_still_tail 6, (by kernel_rfl)
                change wpList _ _ _ _ _ w16.drew
                go_upto_region 12 with fail
                clear hup c0 c0' a0 a1 a2 a3 a4 a5 a6 b0 b1 b2 b3 b4 b5 b6
                go_wp2_with fail
                go_roundw
                case rel => exact ⟨k + 1, by omega, by go_num, _, _, HST2.out, by rw [lastP_snoc], S18.p1.drop.p2⟩
                case measure => simp [RowKit.intOf]; omega
              · have h3b : (t5 == [47]) = false := by simpa using h3
                have HBT : Hid (BD = true) := hide (by rw [HB.out, h1, h2, HBI.out]; simp [h3])
                clear HB HBI h3
                have e : RT = (rootT, fl) := by
                  have h := HS.out
                  rw [if_pos HBT.out] at h
                  rw [HRT.out, treR_none _ _ _ h (by omega)]
                subst e
                clear HS HRT HE HST HBT
                go_wp2_with fail
                refine (s_rfail S16.p1).mono ?_
                rintro e wf ⟨rfl, S17⟩
                clear S16
                go_wp2_with fail
                refine (s_rok S17).mono ?_
                rintro e wg ⟨rfl, S18⟩
                clear S17
                go_wp2_with fail
                refine (s_rfail S18).mono ?_
                rintro e wh ⟨rfl, S19⟩
                clear S18
                go_wp2_with fail
                refine (new_tree S19).mono ?_
                rintro e wi ⟨t2, rfl, S20⟩
                have HFIN := hide (S20.p2.drop.p2.drop.p2.drop)
                clear S19 S20
                go_wp2_with fail
                go_ret
                exact ⟨t2, rfl, HFIN.out⟩
            · have HBT : Hid (BD = false) := hide (by rw [HB.out, h1, h2, HBI.out]; simp)
              clear HB HBI
              have hst2 : treR x0 (k + 1) = some (m ++ [(t5, ⟨t6, t7, t8, t9, t10, t11, t12⟩)], y12) := by rw [HS.out, if_neg (by rw [HBT.out]; decide)]
              have hput : mput m t5 ⟨t6, t7, t8, t9, t10, t11, t12⟩ = m ++ [(t5, ⟨t6, t7, t8, t9, t10, t11, t12⟩)] := HPT.out HBT.out
              have HST2 := hide hst2
              have HPUT := hide hput
              clear hst2 hput HS HE HST HBT
              go_upto_region 11 with fail
              obtain ⟨a0, a1, a2, a3, a4, a5, a6⟩ := S16.nod
              have S17 := S16.drew
              obtain ⟨b0, b1, b2, b3, b4, b5, b6⟩ := S17.nod
              have c0 := S16.p2.cell 0 _ rfl
              have c0' := S17.p2.cell 0 _ rfl
              obtain ⟨w18, hup, S18⟩ := put_node S17.p3 t5 ⟨t6, t7, t8, t9, t10, t11, t12⟩
              rw [HPUT.out] at S18
              simp only at a0 a1 a2 a3 a4 a5 a6 b0 b1 b2 b3 b4 b5 b6
              clear S16 S17
              go_still_tail 6, (by kernel_rfl)
              change wpList _ _ _ _ _ w16.drew
              go_upto_region 12 with fail
              clear hup c0 c0' a0 a1 a2 a3 a4 a5 a6 b0 b1 b2 b3 b4 b5 b6
              go_wp2_with fail
              go_roundw
              case rel => exact ⟨k + 1, by omega, by go_num, _, _, HST2.out, by rw [lastP_snoc], S18.p1.drop.p2⟩
              case measure => simp [RowKit.intOf]; omega
          · have HBT : Hid (BD = true) := hide (by rw [HB.out, h1, h2]; simp)
            clear HB HBI
            have e : RT = (rootT, fl) := by
              have h := HS.out
              rw [if_pos HBT.out] at h
              rw [HRT.out, treR_none _ _ _ h (by omega)]
            subst e
            clear HS HRT HE HST HBT
            go_wp2_with fail
            refine (s_rfail S16.p1).mono ?_
            rintro e wf ⟨rfl, S17⟩
            clear S16
            go_wp2_with fail
            refine (s_rok S17).mono ?_
            rintro e wg ⟨rfl, S18⟩
            clear S17
            go_wp2_with fail
            refine (s_rfail S18).mono ?_
            rintro e wh ⟨rfl, S19⟩
            clear S18
            go_wp2_with fail
            refine (new_tree S19).mono ?_
            rintro e wi ⟨t2, rfl, S20⟩
            have HFIN := hide (S20.p2.drop.p2.drop.p2.drop)
            clear S19 S20
            go_wp2_with fail
            go_ret
            exact ⟨t2, rfl, HFIN.out⟩
        · have HBT : Hid (BD = true) := hide (by rw [HB.out, h1]; simp)
          clear HB HBI
          have e : RT = (rootT, fl) := by
            have h := HS.out
            rw [if_pos HBT.out] at h
            rw [HRT.out, treR_none _ _ _ h (by omega)]
          subst e
          clear HS HRT HE HST HBT
          go_wp2_with fail
          refine (s_rfail S16.p1).mono ?_
          rintro e wf ⟨rfl, S17⟩
          clear S16
          go_wp2_with fail
          refine (s_rok S17).mono ?_
          rintro e wg ⟨rfl, S18⟩
          clear S17
          go_wp2_with fail
          refine (s_rfail S18).mono ?_
          rintro e wh ⟨rfl, S19⟩
          clear S18
          go_wp2_with fail
          refine (new_tree S19).mono ?_
          rintro e wi ⟨t2, rfl, S20⟩
          have HFIN := hide (S20.p2.drop.p2.drop.p2.drop)
          clear S19 S20
          go_wp2_with fail
          go_ret
          exact ⟨t2, rfl, HFIN.out⟩
      · have HBT : Hid (BD = true) := hide (by rw [HB.out]; simp)
        clear HB HBI
        have e : RT = (rootT, fl) := by
          have h := HS.out
          rw [if_pos HBT.out] at h
          rw [HRT.out, treR_none _ _ _ h (by omega)]
        subst e
        clear HS HRT HE HST HBT
        go_wp2_with fail
        refine (s_rfail S16.p1).mono ?_
        rintro e wf ⟨rfl, S17⟩
        clear S16
        go_wp2_with fail
        refine (s_rok S17).mono ?_
        rintro e wg ⟨rfl, S18⟩
        clear S17
        go_wp2_with fail
        refine (s_rfail S18).mono ?_
        rintro e wh ⟨rfl, S19⟩
        clear S18
        go_wp2_with fail
        refine (new_tree S19).mono ?_
        rintro e wi ⟨t2, rfl, S20⟩
        have HFIN := hide (S20.p2.drop.p2.drop.p2.drop)
        clear S19 S20
        go_wp2_with fail
        go_ret
        exact ⟨t2, rfl, HFIN.out⟩
    · obtain rfl : k = N := by omega
      rw [HST.out] at HRT
      obtain ⟨yl, yf⟩ := y
      go_wp2_with fail
      refine (s_rok S4.p2).mono ?_
      rintro e w4 ⟨rfl, S5⟩
      clear S4
      cases yf
      · have c0 := S5.p1.cell 0 _ rfl
        have hlen := len_node S5.p2
        by_cases hk0 : m = []
        · have e : RT = (rootT, fl) := by rw [HRT.out]; simp [hk0]
          subst e
          subst hk0
          clear HRT hml
          have hlen0 : ∀ ty, (Builtin.len_ #[94] ty #[.map (some mb)]).run Tryz.prog w4 = .ok (.int .i64 0) w4 := hlen
          clear hlen
          go_wp2_with fail
          refine (s_rfail S5).mono ?_
          rintro e wh ⟨rfl, S19⟩
          clear S5 c0 hlen0
          go_wp2_with fail
          refine (new_tree S19).mono ?_
          rintro e wi ⟨t2, rfl, S20⟩
          have HFIN := hide (S20.p2.drop.p2.drop)
          clear S19 S20
          go_wp2_with fail
          go_ret
          exact ⟨t2, rfl, HFIN.out⟩
        · have e : RT = (m, (yl, false)) := by rw [HRT.out]; simp [hk0]
          subst e
          have hlp : 1 ≤ m.length := by cases m with | nil => exact absurd rfl hk0 | cons a r => simp
          have hlp2 : ((m.length : Int) == 0) = false := by simp; omega
          have hlp3 : decide ((m.length : Int) = 0) = false := by simp; omega
          clear HRT hk0
          have HFIN := hide (S5.b2.treeShut)
          go_wp2_with fail
          go_ret
          exact ⟨t, rfl, HFIN.out⟩
      · have e : RT = (rootT, fl) := by rw [HRT.out]; simp
        subst e
        clear HRT
        go_wp2_with fail
        refine (s_rfail S5).mono ?_
        rintro e wh ⟨rfl, S19⟩
        clear S5
        go_wp2_with fail
        refine (new_tree S19).mono ?_
        rintro e wi ⟨t2, rfl, S20⟩
        have HFIN := hide (S20.p2.drop.p2.drop)
        clear S19 S20
        go_wp2_with fail
        go_ret
        exact ⟨t2, rfl, HFIN.out⟩
end Go.Proofs.YthgiamofndhehaaGreatDoor
