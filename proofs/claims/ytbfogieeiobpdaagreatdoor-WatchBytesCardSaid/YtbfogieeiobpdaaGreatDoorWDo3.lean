/- Do of a book and a model whose numbers lie in another order. No condition. -/
import Derived.Test.YtbfogieeiobpdaaGreatDoorWSame2
set_option linter.unusedVariables false
set_option linter.unusedSimpArgs false
namespace Go.Proofs.YtbfogieeiobpdaaGreatDoor
open Go.RowKit

set_option maxRecDepth 100000 in
set_option maxHeartbeats 16000000 in
theorem do_watch3 {g w : World} {L : List Asn} {b mb : Nat} {B C : BookT} (S : Sat g w (bookA b B :: modelA mb C :: L)) (hG : GL g) (hm : oldA g ∈ L) (a : ActW) (hsrc : Src g 1 a.pa a.path.length (Is a.path)) (hp : a.path.length ≤ 12) {m : Nat} (hi : InvW B m) (hiC : InvW C m) (hmm : m ≤ 1000) (when_ : Int) :
    Calls Tryz.prog 12 #[ptr b, ptr mb, actWV a, .int .i64 when_] w fun e w' => ∃ bb, e = .returned (.bool bb) ∧ Sat g w' (bookA b (doW B a when_) :: modelA mb (doW C a when_) :: L) := by
  have HGL : Hid (∀ {w : World} {L : List Asn}, Sat g w L → oldA g ∈ L → GL w) := fun S hm => hG.of S hm
  have hso := hi.sorted
  have hl2 := hi.ws
  have hl := hi.es
  have hno := hi.nos
  have hlC2 := hiC.ws
  have hlC := hiC.es
  have hnoC := hiC.nos
  have hsoC := hiC.sorted
  have hmp := madeP_le a.path
  have HDO : Hid (doW B a when_ = if actI a.k ≤ 1 then (addF B ⟨sessF a, madeP a.path, a.kids, a.once⟩).2 else if actI a.k ≤ 4 then fireF B (madeP a.path) (actI a.k - 1) when_ else if actI a.k = 5 then notedF B (sessF a) (bits .and .i64 a.n 15) else dropF B (sessF a)) := rfl
  have HDOC : Hid (doW C a when_ = if actI a.k ≤ 1 then (addF C ⟨sessF a, madeP a.path, a.kids, a.once⟩).2 else if actI a.k ≤ 4 then fireF C (madeP a.path) (actI a.k - 1) when_ else if actI a.k = 5 then notedF C (sessF a) (bits .and .i64 a.n 15) else dropF C (sessF a)) := rfl
  have hact := actI_at a.k
  obtain ⟨hk0, hk7⟩ := actI_lt a.k
  obtain ⟨hs0, hs7⟩ := sess_le a
  have hse : bits .and .i64 a.session 7 = sessF a := rfl
  generalize doW B a when_ = B2 at *
  generalize doW C a when_ = C2 at *
  generalize actI a.k = kk at *
  generalize sessF a = sn at *
  have HSR := hide hsrc
  have HNO := hide hno
  have HSO := hide hso
  have HNOC := hide hnoC
  have HSOC := hide hsoC
  have HM := hide hm
  clear hi hno hso hsrc hm hiC hnoC hsoC
  have hml : (madeP a.path).length ≤ 140737488355328 := by omega
  have HMP : Hid (∀ w, Src w 1 a.pa a.path.length (Is a.path) → Calls Tryz.prog 45 #[.slice a.pa a.path.length a.pc] w fun e w' => e = .returned (.string (Go.Proofs.YtbfogieeiobpdaaGreatDoor.S (madeP a.path))) ∧ Keeps (fun _ => False) w w') := fun w h => made_path w a.pa a.path a.pc h (by omega)
  generalize madeP a.path = sp at *
  obtain ⟨ak, as_, an, apa, apc, apath, akids, aonce⟩ := a
  simp only at HSR HMP HDO HDOC hact hse hp hmp
  clear hmp
  go_enter Tryz.func12, Tryz.ntmps12
  go_upto_region 1 with fail
  have S1 := S.box #[.int .i64 ak, .int .i64 as_, .int .i64 an, .slice apa apath.length apc, .bool akids, .bool aonce] 35 rfl
  generalize w.alloc (.cells #[.int .i64 ak, .int .i64 as_, .int .i64 an, .slice apa apath.length apc, .bool akids, .bool aonce] 35) = w1 at *
  generalize w.heap.size = ab at *
  have c3 := S1.cell 3 _ rfl
  clear S
  go_wp2_with fail
  refine (HMP.out _ (HSR.out.keepB (by decide) (S1.keepsOf (by simp [HM.out])) (fun k hk h => by omega))).mono ?_
  rintro e w2 ⟨rfl, hk2⟩
  have S2 := S1.keep hk2
  have c1 := S2.cell 1 _ rfl
  clear S1 c3 hk2 HMP HSR
  go_upto_region 3 with fail
  have S3 := S2.box #[.int .i64 sn] 3 rfl
  generalize w2.alloc (.cells #[.int .i64 sn] 3) = w3 at *
  generalize w2.heap.size = sb at *
  have a0 := S3.p1.cell 0 _ rfl
  have a2 := S3.p1.cell 2 _ rfl
  have a4 := S3.p1.cell 4 _ rfl
  have a5 := S3.p1.cell 5 _ rfl
  have s0 := S3.cell 0 _ rfl
  clear S2 c1
  have hkk : kk = 0 ∨ kk = 1 ∨ kk = 2 ∨ kk = 3 ∨ kk = 4 ∨ kk = 5 ∨ kk = 6 := by omega
  rcases hkk with rfl | rfl | rfl | rfl | rfl | rfl | rfl
  iterate 2
    · rw [if_pos (by decide)] at HDO HDOC
      obtain ⟨AD, hAD⟩ : ∃ AD, addF B ⟨sn, sp, akids, aonce⟩ = AD := ⟨_, rfl⟩
      have HA : Hid (∀ (w' : World) (L' : List Asn), Sat g w' (bookA b B :: L') → oldA g ∈ L' → Calls Tryz.prog 42 #[ptr b, .agg #[.int .i64 sn, .string (Go.Proofs.YtbfogieeiobpdaaGreatDoor.S sp), .bool akids, .bool aonce]] w' fun e w2 => e = .returned (.int .i64 AD.1) ∧ Sat g w2 (bookA b AD.2 :: L')) := hide fun w' L' S' h => by
        have := add_book S' (HGL.out S' (by simp [h])) ⟨sn, sp, akids, aonce⟩ hml (HSO.out.parts _) (by omega)
        rwa [hAD] at this
      obtain ⟨AC, hAC⟩ : ∃ AC, addF C ⟨sn, sp, akids, aonce⟩ = AC := ⟨_, rfl⟩
      have HMA : Hid (∀ (w' : World) (L' : List Asn), Sat g w' (modelA mb C :: L') → oldA g ∈ L' → Calls Tryz.prog 46 #[ptr mb, .agg #[.int .i64 sn, .string (Go.Proofs.YtbfogieeiobpdaaGreatDoor.S sp), .bool akids, .bool aonce]] w' fun e w2 => e = .returned (.int .i64 AC.1) ∧ Sat g w2 (modelA mb AC.2 :: L')) := hide fun w' L' S' h => by
        have := madd_model S' (HGL.out S' (by simp [h])) ⟨sn, sp, akids, aonce⟩ hml (by dsimp only; omega) HSOC.out (by omega)
        rwa [hAC] at this
      rw [hAD] at HDO
      rw [hAC] at HDOC
      clear hAD hAC
      go_upto_region 10 with fail
      have S4 := S3.box #[.int .i64 sn, .string (Go.Proofs.YtbfogieeiobpdaaGreatDoor.S sp), .bool akids, .bool aonce] 96 rfl
      generalize w3.alloc (.cells #[.int .i64 sn, .string (Go.Proofs.YtbfogieeiobpdaaGreatDoor.S sp), .bool akids, .bool aonce] 96) = w4 at *
      generalize w3.heap.size = xb at *
      have x0 := S4.cell 0 _ rfl
      have x1 := S4.cell 1 _ rfl
      have x2 := S4.cell 2 _ rfl
      have x3 := S4.cell 3 _ rfl
      clear S3 a0 a2 a4 a5 s0
      go_region_held3 (fun w' => w'.cell? ⟨xb, 0, none⟩ = some (.int .i64 sn) ∧ w'.cell? ⟨xb, 1, none⟩ = some (.string (Go.Proofs.YtbfogieeiobpdaaGreatDoor.S sp)) ∧ w'.cell? ⟨xb, 2, none⟩ = some (.bool akids) ∧ w'.cell? ⟨xb, 3, none⟩ = some (.bool aonce)) (go_keep) (first
        | (go_at_call 42; refine (HA.out _ _ S4.drew.p3 (by simp [HM.out])).mono ?_; rintro e w5 ⟨rfl, S5⟩; have y0 := S5.p1.cell 0 _ rfl; have y1 := S5.p1.cell 1 _ rfl; have y2 := S5.p1.cell 2 _ rfl; have y3 := S5.p1.cell 3 _ rfl)
        | (go_at_call 46; refine (HMA.out _ _ S5.p4 (by simp [HM.out])).mono ?_; rintro e w6 ⟨rfl, S6⟩; have z0 := S6.p2.cell 0 _ rfl; have z1 := S6.p2.cell 1 _ rfl; have z2 := S6.p2.cell 2 _ rfl; have z3 := S6.p2.cell 3 _ rfl))
      all_goals
        have HS := hide ((((S6.p2.drop).p2.drop).p2.drop).p1)
        clear S4 S5 S6
        go_wp2_with fail
        go_ret
        refine ⟨_, rfl, ?_⟩
        rw [HDO.out, HDOC.out]
        exact HS.out
  iterate 3
    · rw [if_neg (by decide), if_pos (by decide)] at HDO HDOC
      go_wp2_with fail
      refine (fire_book S3.p2 (by omega) (by omega) (HNO.out.mono (by omega)) sp _ when_ hml).mono ?_
      rintro e w4 ⟨rfl, S4⟩
      have d0 := S4.p1.cell 0 _ rfl
      clear S3 a0 a2 a4 a5 s0
      go_wp2_with fail
      refine (mfire_model S4.p3 (by omega) (by omega) (HNOC.out.mono (by omega)) sp _ when_ hml (by decide)).mono ?_
      rintro e w5 ⟨rfl, S5⟩
      have HS := hide (((S5.p2.drop).p2.drop).p1)
      clear S4 S5
      go_wp2_with fail
      go_ret
      refine ⟨_, rfl, ?_⟩
      rw [HDO.out, HDOC.out]
      exact HS.out
  · rw [if_neg (by decide), if_neg (by decide), if_pos rfl] at HDO HDOC
    go_wp2_with fail
    refine (noted_book S3.p2 (by omega) sn _).mono ?_
    rintro e w4 ⟨rfl, S4⟩
    have hlet := mlet_model (p := fun x => decide (x.session = sn ∧ x.no ≤ bits .and .i64 an 15)) (gF := 50) (lb := #[ptr sb, ptr ab]) S4.p3 (by omega) eg_do (fun x w2 L2 S2 hm => do1_watch x sn an (S2.cell_of (t := 3) (cs := #[.int .i64 sn]) (hm _ (by simp)) 0 _ rfl) (S2.cell_of (t := 35) (cs := #[.int .i64 ak, .int .i64 as_, .int .i64 an, .slice apa apath.length apc, .bool akids, .bool aonce]) (hm _ (by simp)) 2 _ rfl))
    have HLE := hide hlet
    clear S3 a0 a2 a4 a5 s0 hlet
    go_wp2_with fail
    refine HLE.out.mono ?_
    rintro e w5 ⟨rfl, S5⟩
    have HS := hide (((S5.p2.drop).p2.drop).p1)
    clear S4 S5 HLE
    go_wp2_with fail
    go_ret
    refine ⟨_, rfl, ?_⟩
    rw [HDO.out, HDOC.out]
    exact HS.out
  · rw [if_neg (by decide), if_neg (by decide), if_neg (by decide)] at HDO HDOC
    go_wp2_with fail
    refine (drop_book S3.p2 (by omega) (by omega) sn).mono ?_
    rintro e w4 ⟨rfl, S4⟩
    have d0 := S4.p1.cell 0 _ rfl
    clear S3 a0 a2 a4 a5 s0
    go_wp2_with fail
    refine (mdrop_model S4.p3 (by omega) (by omega) sn).mono ?_
    rintro e w5 ⟨rfl, S5⟩
    have HS := hide (((S5.p2.drop).p2.drop).p1)
    clear S4 S5
    go_wp2_with fail
    go_ret
    refine ⟨_, rfl, ?_⟩
    rw [HDO.out, HDOC.out]
    exact HS.out

end Go.Proofs.YtbfogieeiobpdaaGreatDoor
