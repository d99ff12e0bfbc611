/- The model of the statements of layer 11: Add. No condition. -/
import Derived.Test.YtbfogieeiobpdaaGreatDoorWModA
set_option linter.unusedVariables false
set_option linter.unusedSimpArgs false
namespace Go.Proofs.YtbfogieeiobpdaaGreatDoor
open Go.RowKit

theorem checkF_val (s : List UInt8) : checkF s = 0 ∨ checkF s = 10 := by
  unfold checkF
  split
  · exact .inl rfl
  · split
    · exact .inr rfl
    · split
      · exact .inl rfl
      · exact .inr rfl

set_option maxRecDepth 100000 in
set_option maxHeartbeats 8000000 in
theorem madd_model {g w : World} {L : List Asn} {b : Nat} {B : BookT} (S : Sat g w (modelA b B :: L)) (hG : GL w) (x : WatT) (hx : x.path.length ≤ 140737488355328) (hx2 : x.session ≤ 281474976710655) (hp : SortedW B.ws) (hl : B.ws.length ≤ 1000) :
    Calls Tryz.prog 46 #[ptr b, watV x] w fun e w' => e = .returned (.int .i64 (addF B x).1) ∧ Sat g w' (modelA b (addF B x).2 :: L) := by
  obtain ⟨wv, S1⟩ := S.modelOpen
  obtain ⟨ws, es, nos⟩ := B
  simp only at hl hp S1
  obtain ⟨A, c, rfl, hnc, hcm, -, -⟩ := S1.p1.row.form
  obtain ⟨ev, nv, S1⟩ := S1.mnotesOpen
  clear S
  have HR : Hid (∀ r : Int × BookT, addF ⟨ws, es, nos⟩ x = r → ∀ w', Sat g w' (modelA b r.2 :: L) → Ending.returned (.int .i64 r.1) = Ending.returned (.int .i64 (addF ⟨ws, es, nos⟩ x).1) ∧ Sat g w' (modelA b (addF ⟨ws, es, nos⟩ x).2 :: L)) := hide fun r h w' S' => by rw [h]; exact ⟨rfl, S'⟩
  have HF : Hid (addF ⟨ws, es, nos⟩ x = if x.session < 1 then (1, ⟨ws, es, nos⟩) else if checkF x.path ≠ 0 then (10, ⟨ws, es, nos⟩) else if x ∈ ws then (0, ⟨ws, es, nos⟩) else if 40 ≤ ws.length then (16, ⟨ws, es, nos⟩) else
    (0, ⟨ws.take (lowF ws x) ++ [x] ++ ws.drop (lowF ws x), es, nos⟩)) := by
    show _ = _
    unfold addF
    dsimp only
    by_cases h1 : x.session < 1
    · rw [if_pos (.inl h1), if_pos h1]
    · rw [if_neg (by omega), if_neg h1]
      by_cases h2 : checkF x.path = 0
      · simp only [h2, ne_eq, not_true_eq_false, if_false]
        by_cases h3 : x ∈ ws
        · rw [if_pos ((there_iff hp x).2 h3), if_pos h3]
        · rw [if_neg (fun h => h3 ((there_iff hp x).1 h)), if_neg h3]
      · rw [if_pos h2, if_pos h2]
        have := checkF_val x.path
        rw [show checkF x.path = 10 by omega]
  have HBK : Hid (∀ w', Sat g w' (cellsA b 32 #[.slice A ws.length c, ev, nv] :: rowA 74 5 ev es.length (es.flatMap evC) :: nosA nv nos :: rowA 96 4 (.slice A ws.length c) ws.length (ws.flatMap watC) :: L) → Sat g w' (modelA b ⟨ws, es, nos⟩ :: L)) := hide fun w' S' => Sat.modelShut (B := ⟨ws, es, nos⟩) S'.mnotesShut
  have HCK : Hid (∀ w', GL w' → Calls Tryz.prog 60 #[.string (Go.Proofs.YtbfogieeiobpdaaGreatDoor.S x.path)] w' fun e w2 => e = .returned (.int .i64 (checkF x.path)) ∧ Keeps (fun _ => False) w' w2) := hide fun w' h => check_path w' x.path (by omega) h
  have HBF : Hid (∀ w' q, Calls Tryz.prog 85 #[watV q, watV x] w' fun e w2 => e = .returned (.bool (decide (ordF q x < 0))) ∧ Keeps (fun _ => False) w' w2) := hide fun w' q => before_watch w' q x
  have HEQ : Hid (∀ w' q, (binOp .eql 96 (watV q) (watV x)).run Tryz.prog w' = .ok (.bool (decide (q = x))) w') := hide fun w' q => eq_wat w' q x
  have HLO : Hid (∀ i, i ≤ ws.length → (∀ t q, t < i → ws[t]? = some q → ordF q x < 0) → (∀ q, ws[i]? = some q → 0 ≤ ordF q x) → lowF ws x = i) := hide fun i h0 h1 h2 => low_at h0 h1 (fun q hq => Int.not_lt.2 (h2 q hq))
  have HPA := hide (hp.parts x)
  have hlo := low_le ws x
  have HSC := hide (show Hid (∀ i, ∀ u ∈ ((ws.take i).flatMap watC), u.oneCell' = true) from fun i => flatK_one watC_one _).out
  have HFL : Hid (∀ i, (ws.take i ++ [x] ++ ws.drop i).flatMap watC = (ws.take i).flatMap watC ++ watC x ++ (ws.drop i).flatMap watC) := hide fun i => by simp
  have HLL : Hid (∀ i, i ≤ ws.length → (ws.take i ++ [x] ++ ws.drop i).length = ws.length + 1) := hide fun i hi => by simp; omega
  have HCX := hide (watC_one x)
  have HDC := hide (show ∀ i, ∀ u ∈ ((ws.drop i).flatMap watC), u.oneCell' = true from fun i => flatK_one watC_one _)
  generalize addF ⟨ws, es, nos⟩ x = AF at *
  generalize lowF ws x = lo at *
  generalize checkF x.path = ck at *
  obtain ⟨X0, hX0⟩ : ∃ X0, x = X0 := ⟨_, rfl⟩
  rw [hX0] at HF HBF HEQ HLO HPA HFL HLL
  have HX0 := hide hX0
  clear hX0
  obtain ⟨y0, y1, y2, y3⟩ := x
  simp only [watC] at HF HCK HFL HCX
  have HG := hide (hG.keep ((Keeps.refl (fun _ => False) w).alloc (.cells #[.int .i64 y0, .string (Go.Proofs.YtbfogieeiobpdaaGreatDoor.S y1), .bool y2, .bool y3] 96)) (fun h => h))
  clear hG hp
  have HX1 : Hid (X0.session = y0) := by show _ = _; rw [← HX0.out]
  rw [HX1.out] at HF
  go_enter Tryz.func46, Tryz.ntmps46
  go_upto_region 1 with fail
  have S2 := S1.box #[.int .i64 y0, .string (Go.Proofs.YtbfogieeiobpdaaGreatDoor.S y1), .bool y2, .bool y3] 96 rfl
  generalize w.alloc (.cells #[.int .i64 y0, .string (Go.Proofs.YtbfogieeiobpdaaGreatDoor.S y1), .bool y2, .bool y3] 96) = w2 at *
  generalize w.heap.size = xb at *
  have a0 := S2.cell 0 _ rfl
  have a1 := S2.cell 1 _ rfl
  clear S1
  by_cases h1 : y0 < 1
  · have e : AF = (1, ⟨ws, es, nos⟩) := by rw [HF.out, if_pos h1]
    have HE := hide e
    clear e HF
    go_wp2_with fail
    go_ret
    exact HR.out _ HE.out _ (HBK.out _ S2.drop)
  rw [if_neg h1] at HF
  have h1b : 1 ≤ y0 := by omega
  clear h1
  go_wp2_with fail
  refine (HCK.out _ HG.out).mono ?_
  rintro e w3 ⟨rfl, hk3⟩
  have S3 := S2.keep hk3
  clear S2 hk3 HG HCK a0 a1
  by_cases h3 : ck = 0
  case neg =>
    have h3b : (ck == 0) = false := by simpa using h3
    have e : AF = (10, ⟨ws, es, nos⟩) := by rw [HF.out, if_pos h3]
    have HE := hide e
    clear e HF
    go_wp2_with fail
    go_ret
    exact HR.out _ HE.out _ (HBK.out _ S3.drop)
  subst h3
  rw [if_neg (by simp)] at HF
  have c0 := S3.p1.cell 0 _ rfl
  go_wp2_with fail
  go_loopw [5, 21] (fun av i wr => ∃ a k : Nat, a ≤ k ∧ k ≤ ws.length ∧ av = .int .i64 a ∧ i = .int .i64 k ∧ Hid ((∀ t q, t < a → ws[t]? = some q → ordF q X0 < 0) ∧ (∀ t q, a ≤ t → t < k → ws[t]? = some q → 0 ≤ ordF q X0) ∧ (∀ t q, t < k → ws[t]? = some q → q ≠ X0)) ∧ Sat g wr (cellsA xb 96 #[.int .i64 y0, .string (Go.Proofs.YtbfogieeiobpdaaGreatDoor.S y1), .bool y2, .bool y3] :: cellsA b 32 #[.slice A ws.length c, ev, nv] :: rowA 74 5 ev es.length (es.flatMap evC) :: nosA nv nos :: rowA 96 4 (.slice A ws.length c) ws.length (ws.flatMap watC) :: L)) (fun _ i _ => ws.length - (RowKit.intOf i).toNat)
  case atStart => exact ⟨0, 0, Nat.le_refl _, by omega, rfl, rfl, hide ⟨fun t q h => by omega, fun t q _ h => by omega, fun t q h => by omega⟩, S3⟩
  case round =>
    obtain ⟨a, k, hak, hk, rfl, rfl, HI, S4⟩ := hrel
    clear S3 c0
    by_cases hlt : k < ws.length
    · have hk0 : (0 : Int) ≤ (k : Int) := by omega
      have hk1 : (k : Int) < (ws.length : Int) := by omega
      obtain ⟨ad, q, rfl, hq, d0, d1, d2, d3⟩ := wat_at S4.p4.srcR hlt
      have HQ := hide hq
      clear hq
      have heq := HEQ.out
      have HBQ : Hid (∀ w', Calls Tryz.prog 85 #[watV q, watV X0] w' fun e w2 => e = .returned (.bool (decide (ordF q X0 < 0))) ∧ Keeps (fun _ => False) w' w2) := hide fun w' => HBF.out w' q
      have HEQ2 : Hid (∀ w', (binOp .eql 96 (watV q) (watV X0)).run Tryz.prog w' = .ok (.bool (decide (q = X0))) w') := hide fun w' => HEQ.out w' q
      clear heq
      by_cases hqx : q = X0
      · have e : AF = (0, ⟨ws, es, nos⟩) := by rw [HF.out, if_pos (hqx ▸ List.mem_of_getElem? HQ.out)]
        have HE := hide e
        have hqd : decide (q = X0) = true := by simpa using hqx
        rw [hqd] at HEQ2
        have HQX := hide hqx
        clear e hqd hqx
        rw [← HX0.out] at HEQ2
        obtain ⟨f0, f1, f2, f3⟩ := q
        have he := HEQ2.out
        simp only [watV] at he
        simp only at d0 d1 d2 d3
        go_upto_region 9 with fail
        have S5 := S4.box #[.int .i64 f0, .string (Go.Proofs.YtbfogieeiobpdaaGreatDoor.S f1), .bool f2, .bool f3] 96 rfl
        generalize wr.alloc (.cells #[.int .i64 f0, .string (Go.Proofs.YtbfogieeiobpdaaGreatDoor.S f1), .bool f2, .bool f3] 96) = w5 at *
        generalize wr.heap.size = qb at *
        have q0 := S5.cell 0 _ rfl
        have q1 := S5.cell 1 _ rfl
        have q2 := S5.cell 2 _ rfl
        have q3 := S5.cell 3 _ rfl
        have x0 := S5.p1.cell 0 _ rfl
        have x1 := S5.p1.cell 1 _ rfl
        have x2 := S5.p1.cell 2 _ rfl
        have x3 := S5.p1.cell 3 _ rfl
        have HS5 := hide S5
        clear S4 S5 d0 d1 d2 d3
        go_wp2_with fail
        go_ret
        exact HR.out _ HE.out _ (HBK.out _ HS5.out.drop.drop)
      · have hqd : decide (q = X0) = false := by simpa using hqx
        rw [hqd] at HEQ2
        have HQX := hide hqx
        clear hqd hqx
        rw [← HX0.out] at HEQ2
        obtain ⟨R, hR⟩ : ∃ R, decide (ordF q X0 < 0) = R := ⟨_, rfl⟩
        rw [hR, ← HX0.out] at HBQ
        have HRR := hide hR
        clear hR
        have HQQ := hide (show ∃ q', q' = q from ⟨q, rfl⟩)
        obtain ⟨qq, hqq⟩ : ∃ qq, qq = q := ⟨q, rfl⟩
        rw [← hqq] at HQ HQX HRR
        have HQE := hide hqq
        clear hqq HQQ
        obtain ⟨f0, f1, f2, f3⟩ := q
        have he := HEQ2.out
        simp only [watV] at he
        simp only at d0 d1 d2 d3
        go_upto_region 9 with fail
        have S5 := S4.box #[.int .i64 f0, .string (Go.Proofs.YtbfogieeiobpdaaGreatDoor.S f1), .bool f2, .bool f3] 96 rfl
        generalize wr.alloc (.cells #[.int .i64 f0, .string (Go.Proofs.YtbfogieeiobpdaaGreatDoor.S f1), .bool f2, .bool f3] 96) = w5 at *
        generalize wr.heap.size = qb at *
        have q0 := S5.cell 0 _ rfl
        have q1 := S5.cell 1 _ rfl
        have q2 := S5.cell 2 _ rfl
        have q3 := S5.cell 3 _ rfl
        have x0 := S5.p1.cell 0 _ rfl
        have x1 := S5.p1.cell 1 _ rfl
        have x2 := S5.p1.cell 2 _ rfl
        have x3 := S5.p1.cell 3 _ rfl
        have HS5 := hide S5
        clear S4 S5 d0 d1 d2 d3
        go_wp2_with fail
        refine (HBQ.out _).mono ?_
        rintro e w6 ⟨rfl, hk6⟩
        have HS6 := hide ((HS5.out.keep hk6).drop)
        clear hk6 HS5 q0 q1 q2 q3 x0 x1 x2 x3 he
        have HNX : Hid (∀ t q, t < k + 1 → ws[t]? = some q → q ≠ X0) := hide fun t q ht hq => by
          rcases Nat.eq_or_lt_of_le (Nat.le_of_lt_succ ht) with rfl | h
          · rw [HQ.out] at hq
            injection hq with hq
            rw [← hq]
            exact HQX.out
          · exact HI.out.2.2 t q h hq
        cases R
        · go_wp2_with fail
          go_roundw
          case rel =>
            refine ⟨a, k + 1, by omega, by omega, rfl, by go_num, hide ⟨HI.out.1, fun t q h1 h2 hq => ?_, HNX.out⟩, HS6.out⟩
            rcases Nat.eq_or_lt_of_le (Nat.le_of_lt_succ h2) with rfl | h
            · rw [HQ.out] at hq
              injection hq with hq
              rw [← hq]
              exact Int.not_lt.1 (of_decide_eq_false HRR.out)
            · exact HI.out.2.1 t q h1 h hq
          case measure => simp [RowKit.intOf]; omega
        · go_wp2_with fail
          go_roundw
          case rel =>
            refine ⟨k + 1, k + 1, Nat.le_refl _, by omega, by go_num, by go_num, hide ⟨fun t q h1 hq => HPA.out t k q qq (by omega) hq HQ.out (of_decide_eq_true HRR.out), fun t q h1 h2 hq => by omega, HNX.out⟩, HS6.out⟩
          case measure => simp [RowKit.intOf]; omega
    · obtain rfl : k = ws.length := by omega
      have hla : lo = a := HLO.out a (by omega) HI.out.1 (fun q hq => HI.out.2.1 a q (Nat.le_refl _) (by
        rcases Nat.lt_or_ge a ws.length with h | h
        · exact h
        · rw [List.getElem?_eq_none h] at hq; cases hq) hq)
      subst hla
      have hni : X0 ∉ ws := fun h => by
        obtain ⟨t, ht⟩ := List.getElem?_of_mem h
        exact HI.out.2.2 t X0 (List.getElem?_eq_some_iff.1 ht).1 ht rfl
      rw [if_neg hni] at HF
      clear HI hni HLO HPA HBF HEQ
      obtain rfl := HX0.out
      clear HX0 HX1
      have c0 := S4.p1.cell 0 _ rfl
      by_cases h4 : 40 ≤ ws.length
      · have e : AF = (16, ⟨ws, es, nos⟩) := by rw [HF.out, if_pos h4]
        have HE := hide e
        clear e HF
        have h4b : (40 : Int) ≤ (ws.length : Int) := by omega
        go_wp2_with fail
        go_ret
        exact HR.out _ HE.out _ (HBK.out _ S4.drop)
      have e : AF = (0, ⟨ws.take lo ++ [⟨y0, y1, y2, y3⟩] ++ ws.drop lo, es, nos⟩) := by rw [HF.out, if_neg h4]
      have HE := hide e
      clear e HF c0
      have h4b : (ws.length : Int) < 40 := by omega
      have a0 : (0 : Int) ≤ (lo : Int) := by omega
      have a1 : (lo : Int) ≤ (ws.length : Int) := by omega
      have a2 : (lo : Int) ≤ (c : Int) := by omega
      have a3 : (ws.length : Int) ≤ (c : Int) := by omega
      obtain ⟨a, ha⟩ : ∃ a, a = lo := ⟨_, rfl⟩
      subst ha
      by_cases hca : c = a
      · have hA : a = ws.length := by omega
        have hdn : ws.drop a = [] := List.drop_eq_nil_of_le (by omega)
        cases A with
        | none =>
          have hn0 : ws.length = 0 := by
            rcases S4.p4.row.2 with h | h
            · omega
            · obtain ⟨_, _, _, h, _⟩ := h
              cases h
          obtain rfl : ws = [] := by simpa using hn0
          obtain rfl : a = 0 := by omega
          obtain rfl : c = 0 := by omega
          simp only [List.length_nil, List.flatMap_nil] at *
          have c0 := S4.p1.cell 0 _ rfl
          have c0a : (wr.alloc (.cells #[] 96)).cell? ⟨b, 0, none⟩ = some (.slice none 0 0) := (S4.box #[] 96 rfl).p2.cell 0 _ rfl
          have hsD := (fun B => (Src.nil wr 4 B : Src wr 4 B 0 []))
          go_upto_region 17 with (at_builtin; refine wpList_sapp slW rfl (.tmp 41) (.tmp 47) rfl (g := g) (S := (S4.box #[] 96 rfl).rowOf 4 0 rfl (Nat.zero_le _)) rfl ((hsD _).keep ((Keeps.refl (fun _ => False) _).alloc _) (fun _ _ h => h)) rfl (by simp) (by unfold maxLen; omega) (by omega) ?_; intro A5 c5 w5 S5)
          simp only [Nat.zero_add, List.nil_append, List.toList_toArray] at S5
          clear c0 c0a hsD S4
          have q0 : w5.drew.cell? ⟨b, 0, none⟩ = some (.slice none 0 0) := S5.drew.p2.cell 0 _ rfl
          have q1 : (w5.alloc (.cells #[.int .i64 y0, .string (Go.Proofs.YtbfogieeiobpdaaGreatDoor.S y1), .bool y2, .bool y3] 96)).drew.cell? ⟨b, 0, none⟩ = some (.slice none 0 0) := (S5.box #[.int .i64 y0, .string (Go.Proofs.YtbfogieeiobpdaaGreatDoor.S y1), .bool y2, .bool y3] 96 rfl).drew.p3.cell 0 _ rfl
          refine wp_region_held_drew (S := fun w' => w'.cell? ⟨xb, 0, none⟩ = some (.int .i64 y0) ∧ w'.cell? ⟨xb, 1, none⟩ = some (.string (Go.Proofs.YtbfogieeiobpdaaGreatDoor.S y1)) ∧ w'.cell? ⟨xb, 2, none⟩ = some (.bool y2) ∧ w'.cell? ⟨xb, 3, none⟩ = some (.bool y3)) (by kernel_rfl) ?_ (fun hHeld => ?_)
          · exact ⟨S5.drew.p1.cell 0 _ rfl, S5.drew.p1.cell 1 _ rfl, S5.drew.p1.cell 2 _ rfl, S5.drew.p1.cell 3 _ rfl⟩
          refine wpAnyH_take (i := 0) (oi := _) (v := ?_) rfl (by kernel_rfl) (by kernel_rfl) (by kernel_rfl) (fun _ _ _ h => h) (Or.inl ⟨by rfl, ?_⟩) hHeld ?_
          rotate_left
          · intro w' hSw
            (try dsimp only at hSw)
            go_simp
            try with_reducible rfl
          try simp only [Act.put, List.setIfInBounds_toArray, List.set_cons_zero, List.set_cons_succ]
          refine wpAnyH_take (i := 1) (oi := _) (v := ?_) rfl (by kernel_rfl) (by kernel_rfl) (by kernel_rfl) (fun _ _ _ h => h) (Or.inl ⟨by rfl, ?_⟩) hHeld ?_
          rotate_left
          · intro w' hSw
            (try dsimp only at hSw)
            go_simp
            try with_reducible rfl
          try simp only [Act.put, List.setIfInBounds_toArray, List.set_cons_zero, List.set_cons_succ]
          refine wpAnyH_take (i := 2) (oi := _) (v := ?_) rfl (by kernel_rfl) (by kernel_rfl) (by kernel_rfl) (fun _ _ _ h => h) (Or.inl ⟨by rfl, ?_⟩) hHeld ?_
          rotate_left
          · intro w' hSw
            (try dsimp only at hSw)
            go_simp
            try with_reducible rfl
          try simp only [Act.put, List.setIfInBounds_toArray, List.set_cons_zero, List.set_cons_succ]
          refine wpAnyH_take (i := 3) (oi := _) (v := ?_) rfl (by kernel_rfl) (by kernel_rfl) (by kernel_rfl) (fun _ _ _ h => h) (Or.inl ⟨by rfl, ?_⟩) hHeld ?_
          rotate_left
          · intro w' hSw
            (try dsimp only at hSw)
            go_simp
            try with_reducible rfl
          try simp only [Act.put, List.setIfInBounds_toArray, List.set_cons_zero, List.set_cons_succ]
          refine wpAnyH_take (i := 5) (oi := _) (v := ?_) rfl (by kernel_rfl) (by kernel_rfl) (by kernel_rfl) (fun _ _ _ h => h) (Or.inl ⟨by rfl, ?_⟩) hHeld ?_
          rotate_left
          · intro w' hSw
            (try dsimp only at hSw)
            go_simp
            try with_reducible rfl
          try simp only [Act.put, List.setIfInBounds_toArray, List.set_cons_zero, List.set_cons_succ]
          refine wpAnyH_take (i := 6) (oi := _) (v := ?_) rfl (by kernel_rfl) (by kernel_rfl) (by kernel_rfl) (fun _ _ _ h => h) (Or.inl ⟨by rfl, ?_⟩) hHeld ?_
          rotate_left
          · intro w' hSw
            (try dsimp only at hSw)
            go_simp
            try with_reducible rfl
          try simp only [Act.put, List.setIfInBounds_toArray, List.set_cons_zero, List.set_cons_succ]
          refine wpAnyH_take (i := 8) (oi := _) (v := ?_) rfl (by kernel_rfl) (by kernel_rfl) (by kernel_rfl) (fun _ _ _ h => h) (Or.inl ⟨by rfl, ?_⟩) hHeld ?_
          rotate_left
          · intro w' hSw
            (try dsimp only at hSw)
            go_simp
            try with_reducible rfl
          try simp only [Act.put, List.setIfInBounds_toArray, List.set_cons_zero, List.set_cons_succ]
          refine wpAnyH_take (i := 11) (oi := _) (v := ?_) rfl (by kernel_rfl) (by kernel_rfl) (by kernel_rfl) (fun _ _ _ h => h) (Or.inl ⟨by rfl, ?_⟩) hHeld ?_
          rotate_left
          · intro w' hSw
            (try dsimp only at hSw)
            go_simp
            try with_reducible rfl
          try simp only [Act.put, List.setIfInBounds_toArray, List.set_cons_zero, List.set_cons_succ]
          refine wpAnyH_ready (rs := [4, 9]) (by kernel_rfl) (by simp) ?_
          refine AllReadyH.cons rfl (fun K hK => ?_) ?_
          · go_simp
            refine hK.out _ _ ?_ (fun hHeld => ?_)
            · exact ⟨S5.drew.p1.cell 0 _ rfl, S5.drew.p1.cell 1 _ rfl, S5.drew.p1.cell 2 _ rfl, S5.drew.p1.cell 3 _ rfl⟩
            clear hK K
            try simp only [Act.put, List.setIfInBounds_toArray, List.set_cons_zero, List.set_cons_succ]
            refine wpAnyH_take (i := 7) (oi := _) (v := ?_) rfl (by kernel_rfl) (by kernel_rfl) (by kernel_rfl) (fun _ _ _ h => h) (Or.inl ⟨by rfl, ?_⟩) hHeld ?_
            rotate_left
            · intro w' hSw
              (try dsimp only at hSw)
              go_simp
              try with_reducible rfl
            try simp only [Act.put, List.setIfInBounds_toArray, List.set_cons_zero, List.set_cons_succ]
            refine wpAnyH_ready (rs := [9]) (by kernel_rfl) (by simp) ?_
            refine AllReadyH.cons rfl (fun K hK => ?_) ?_
            · go_simp
              refine hK.out _ _ ?_ (fun hHeld => ?_)
              · exact ⟨(S5.box _ _ rfl).drew.p2.cell 0 _ rfl, (S5.box _ _ rfl).drew.p2.cell 1 _ rfl, (S5.box _ _ rfl).drew.p2.cell 2 _ rfl, (S5.box _ _ rfl).drew.p2.cell 3 _ rfl⟩
              clear hK K
              try simp only [Act.put, List.setIfInBounds_toArray, List.set_cons_zero, List.set_cons_succ]
              refine wpAnyH_ready (rs := [10]) (by kernel_rfl) (by simp) ?_
              refine AllReadyH.cons rfl (fun K hK => ?_) ?_
              · refine step_full slW rfl (.tmp 56) (.tmp 58) rfl (g := g) (S := S5.drew.box #[.int .i64 y0, .string (Go.Proofs.YtbfogieeiobpdaaGreatDoor.S y1), .bool y2, .bool y3] 96 rfl) (Src.nil _ _ _) (fun _ => rfl) rfl (Src.block (heap_alloc_new _ _) 4 1 rfl) (by decide) rfl (by unfold maxLen; omega) (by omega) ?_
                intro A7 c7 w7 S7
                refine hK.out _ _ ?_ (fun hHeld => ?_)
                · exact ⟨S7.p3.cell 0 _ rfl, S7.p3.cell 1 _ rfl, S7.p3.cell 2 _ rfl, S7.p3.cell 3 _ rfl⟩
                clear hK K
                try simp only [Act.put, List.setIfInBounds_toArray, List.set_cons_zero, List.set_cons_succ]
                refine wpAnyH_ready (rs := [12]) (by kernel_rfl) (by simp) ?_
                refine AllReadyH.cons rfl (fun K hK => ?_) ?_
                · refine step_app slW rfl (.tmp 59) (.tmp 60) rfl (g := g) (S := S7) rfl (S7.p2.srcR) rfl (by simp) (by unfold maxLen; omega) (by omega) ?_
                  intro A8 c8 w8 S8
                  have z0 := S8.p4.cell 0 _ rfl
                  have z1 := S8.p4.cells_fz 0
                  refine hK.out _ _ ?_ (fun hHeld => ?_)
                  · exact ⟨S8.p3.cell 0 _ rfl, S8.p3.cell 1 _ rfl, S8.p3.cell 2 _ rfl, S8.p3.cell 3 _ rfl⟩
                  clear hK K
                  try simp only [Act.put, List.setIfInBounds_toArray, List.set_cons_zero, List.set_cons_succ]
                  refine wpAnyH_take (i := 13) (oi := _) (v := ?_) rfl (by kernel_rfl) (by kernel_rfl) (by kernel_rfl) (fun _ _ _ h => h) (Or.inl ⟨by rfl, ?_⟩) hHeld ?_
                  rotate_left
                  · intro w' hSw
                    (try dsimp only at hSw)
                    go_simp
                    try with_reducible rfl
                  try simp only [Act.put, List.setIfInBounds_toArray, List.set_cons_zero, List.set_cons_succ]
                  refine wpAnyH_take (i := 14) (oi := _) (v := ?_) rfl (by kernel_rfl) (by kernel_rfl) (by kernel_rfl) (fun _ _ _ h => h) (Or.inl ⟨by rfl, ?_⟩) hHeld ?_
                  rotate_left
                  · intro w' hSw
                    (try dsimp only at hSw)
                    go_simp
                    try with_reducible rfl
                  try simp only [Act.put, List.setIfInBounds_toArray, List.set_cons_zero, List.set_cons_succ]
                  refine wpAnyH_ready (rs := [15]) (by kernel_rfl) (by simp) ?_
                  refine AllReadyH.cons rfl (fun K hK => ?_) ?_
                  · go_simp
                    refine hK.out _ _ ?_ (fun hHeld => ?_)
                    · exact ⟨(S8.p4.setc 0 _).p4.cell 0 _ rfl, (S8.p4.setc 0 _).p4.cell 1 _ rfl, (S8.p4.setc 0 _).p4.cell 2 _ rfl, (S8.p4.setc 0 _).p4.cell 3 _ rfl⟩
                    clear hK K
                    try simp only [Act.put, List.setIfInBounds_toArray, List.set_cons_zero, List.set_cons_succ]
                    refine wpAnyH_done (by kernel_rfl) ?_ _
                    have S9 := S8.p4.setc 0 (.slice A8 (0 + 1 + 0) c8)
                    clear z0 z1
                    generalize w8.setCell ⟨b, 0, none⟩ (.slice A8 (0 + 1 + 0) c8) = w9 at *
                    have hfl : (([] : List WatT).take 0 ++ [(⟨y0, y1, y2, y3⟩ : WatT)] ++ ([] : List WatT).drop 0).flatMap watC = (([] : List WatT).take 0).flatMap watC ++ [.int .i64 y0, .string (Go.Proofs.YtbfogieeiobpdaaGreatDoor.S y1), .bool y2, .bool y3] ++ [] := by simp [watC]
                    have hln : (([] : List WatT).take 0 ++ [(⟨y0, y1, y2, y3⟩ : WatT)] ++ ([] : List WatT).drop 0).length = 0 + 1 + 0 := by simp
                    have S10 : Sat g w9 (cellsA b 32 #[.slice A8 (0 + 1 + 0) c8, ev, nv] :: rowA 74 5 ev es.length (es.flatMap evC) :: nosA nv nos :: rowA 96 4 (.slice A8 (0 + 1 + 0) c8) (([] : List WatT).take 0 ++ [(⟨y0, y1, y2, y3⟩ : WatT)] ++ ([] : List WatT).drop 0).length ((([] : List WatT).take 0 ++ [(⟨y0, y1, y2, y3⟩ : WatT)] ++ ([] : List WatT).drop 0).flatMap watC) :: L) := by
                      rw [hfl, hln]
                      exact ((((S9.p2.drop).p2.drop).p2.drop).p4.drop).p1.b3
                    have HS10 := hide (Sat.modelShut (B := ⟨([] : List WatT).take 0 ++ [(⟨y0, y1, y2, y3⟩ : WatT)] ++ ([] : List WatT).drop 0, es, nos⟩) S10.mnotesShut)
                    clear S10 S9 S8 S7 S5 hfl hln
                    go_wp2_with fail
                    go_ret
                    exact HR.out _ HE.out _ HS10.out
                  exact AllReadyH.nil
                exact AllReadyH.nil
              exact AllReadyH.nil
            exact AllReadyH.nil
          refine AllReadyH.cons rfl (fun K hK => ?_) ?_
          · go_simp
            refine hK.out _ _ ?_ (fun hHeld => ?_)
            · exact ⟨(S5.box _ _ rfl).drew.p2.cell 0 _ rfl, (S5.box _ _ rfl).drew.p2.cell 1 _ rfl, (S5.box _ _ rfl).drew.p2.cell 2 _ rfl, (S5.box _ _ rfl).drew.p2.cell 3 _ rfl⟩
            clear hK K
            try simp only [Act.put, List.setIfInBounds_toArray, List.set_cons_zero, List.set_cons_succ]
            refine wpAnyH_ready (rs := [4]) (by kernel_rfl) (by simp) ?_
            refine AllReadyH.cons rfl (fun K hK => ?_) ?_
            · go_simp
              refine hK.out _ _ ?_ (fun hHeld => ?_)
              · exact ⟨(S5.box _ _ rfl).drew.p2.cell 0 _ rfl, (S5.box _ _ rfl).drew.p2.cell 1 _ rfl, (S5.box _ _ rfl).drew.p2.cell 2 _ rfl, (S5.box _ _ rfl).drew.p2.cell 3 _ rfl⟩
              clear hK K
              try simp only [Act.put, List.setIfInBounds_toArray, List.set_cons_zero, List.set_cons_succ]
              refine wpAnyH_take (i := 7) (oi := _) (v := ?_) rfl (by kernel_rfl) (by kernel_rfl) (by kernel_rfl) (fun _ _ _ h => h) (Or.inl ⟨by rfl, ?_⟩) hHeld ?_
              rotate_left
              · intro w' hSw
                (try dsimp only at hSw)
                go_simp
                try with_reducible rfl
              try simp only [Act.put, List.setIfInBounds_toArray, List.set_cons_zero, List.set_cons_succ]
              refine wpAnyH_ready (rs := [10]) (by kernel_rfl) (by simp) ?_
              refine AllReadyH.cons rfl (fun K hK => ?_) ?_
              · refine step_full slW rfl (.tmp 56) (.tmp 58) rfl (g := g) (S := S5.drew.box #[.int .i64 y0, .string (Go.Proofs.YtbfogieeiobpdaaGreatDoor.S y1), .bool y2, .bool y3] 96 rfl) (Src.nil _ _ _) (fun _ => rfl) rfl (Src.block (heap_alloc_new _ _) 4 1 rfl) (by decide) rfl (by unfold maxLen; omega) (by omega) ?_
                intro A7 c7 w7 S7
                refine hK.out _ _ ?_ (fun hHeld => ?_)
                · exact ⟨S7.p3.cell 0 _ rfl, S7.p3.cell 1 _ rfl, S7.p3.cell 2 _ rfl, S7.p3.cell 3 _ rfl⟩
                clear hK K
                try simp only [Act.put, List.setIfInBounds_toArray, List.set_cons_zero, List.set_cons_succ]
                refine wpAnyH_ready (rs := [12]) (by kernel_rfl) (by simp) ?_
                refine AllReadyH.cons rfl (fun K hK => ?_) ?_
                · refine step_app slW rfl (.tmp 59) (.tmp 60) rfl (g := g) (S := S7) rfl (S7.p2.srcR) rfl (by simp) (by unfold maxLen; omega) (by omega) ?_
                  intro A8 c8 w8 S8
                  have z0 := S8.p4.cell 0 _ rfl
                  have z1 := S8.p4.cells_fz 0
                  refine hK.out _ _ ?_ (fun hHeld => ?_)
                  · exact ⟨S8.p3.cell 0 _ rfl, S8.p3.cell 1 _ rfl, S8.p3.cell 2 _ rfl, S8.p3.cell 3 _ rfl⟩
                  clear hK K
                  try simp only [Act.put, List.setIfInBounds_toArray, List.set_cons_zero, List.set_cons_succ]
                  refine wpAnyH_take (i := 13) (oi := _) (v := ?_) rfl (by kernel_rfl) (by kernel_rfl) (by kernel_rfl) (fun _ _ _ h => h) (Or.inl ⟨by rfl, ?_⟩) hHeld ?_
                  rotate_left
                  · intro w' hSw
                    (try dsimp only at hSw)
                    go_simp
                    try with_reducible rfl
                  try simp only [Act.put, List.setIfInBounds_toArray, List.set_cons_zero, List.set_cons_succ]
                  refine wpAnyH_take (i := 14) (oi := _) (v := ?_) rfl (by kernel_rfl) (by kernel_rfl) (by kernel_rfl) (fun _ _ _ h => h) (Or.inl ⟨by rfl, ?_⟩) hHeld ?_
                  rotate_left
                  · intro w' hSw
                    (try dsimp only at hSw)
                    go_simp
                    try with_reducible rfl
                  try simp only [Act.put, List.setIfInBounds_toArray, List.set_cons_zero, List.set_cons_succ]
                  refine wpAnyH_ready (rs := [15]) (by kernel_rfl) (by simp) ?_
                  refine AllReadyH.cons rfl (fun K hK => ?_) ?_
                  · go_simp
                    refine hK.out _ _ ?_ (fun hHeld => ?_)
                    · exact ⟨(S8.p4.setc 0 _).p4.cell 0 _ rfl, (S8.p4.setc 0 _).p4.cell 1 _ rfl, (S8.p4.setc 0 _).p4.cell 2 _ rfl, (S8.p4.setc 0 _).p4.cell 3 _ rfl⟩
                    clear hK K
                    try simp only [Act.put, List.setIfInBounds_toArray, List.set_cons_zero, List.set_cons_succ]
                    refine wpAnyH_done (by kernel_rfl) ?_ _
                    have S9 := S8.p4.setc 0 (.slice A8 (0 + 1 + 0) c8)
                    clear z0 z1
                    generalize w8.setCell ⟨b, 0, none⟩ (.slice A8 (0 + 1 + 0) c8) = w9 at *
                    have hfl : (([] : List WatT).take 0 ++ [(⟨y0, y1, y2, y3⟩ : WatT)] ++ ([] : List WatT).drop 0).flatMap watC = (([] : List WatT).take 0).flatMap watC ++ [.int .i64 y0, .string (Go.Proofs.YtbfogieeiobpdaaGreatDoor.S y1), .bool y2, .bool y3] ++ [] := by simp [watC]
                    have hln : (([] : List WatT).take 0 ++ [(⟨y0, y1, y2, y3⟩ : WatT)] ++ ([] : List WatT).drop 0).length = 0 + 1 + 0 := by simp
                    have S10 : Sat g w9 (cellsA b 32 #[.slice A8 (0 + 1 + 0) c8, ev, nv] :: rowA 74 5 ev es.length (es.flatMap evC) :: nosA nv nos :: rowA 96 4 (.slice A8 (0 + 1 + 0) c8) (([] : List WatT).take 0 ++ [(⟨y0, y1, y2, y3⟩ : WatT)] ++ ([] : List WatT).drop 0).length ((([] : List WatT).take 0 ++ [(⟨y0, y1, y2, y3⟩ : WatT)] ++ ([] : List WatT).drop 0).flatMap watC) :: L) := by
                      rw [hfl, hln]
                      exact ((((S9.p2.drop).p2.drop).p2.drop).p4.drop).p1.b3
                    have HS10 := hide (Sat.modelShut (B := ⟨([] : List WatT).take 0 ++ [(⟨y0, y1, y2, y3⟩ : WatT)] ++ ([] : List WatT).drop 0, es, nos⟩) S10.mnotesShut)
                    clear S10 S9 S8 S7 S5 hfl hln
                    go_wp2_with fail
                    go_ret
                    exact HR.out _ HE.out _ HS10.out
                  exact AllReadyH.nil
                exact AllReadyH.nil
              exact AllReadyH.nil
            exact AllReadyH.nil
          exact AllReadyH.nil
        | some ad =>
          obtain rfl : c = ws.length := by omega
          subst hA
          have c0 := S4.p1.cell 0 _ rfl
          have c0a : (wr.alloc (.cells #[] 96)).cell? ⟨b, 0, none⟩ = some (.slice (some ad) ws.length ws.length) := (S4.box #[] 96 rfl).p2.cell 0 _ rfl
          have hsD := (fun B => (Src.nil wr 4 B : Src wr 4 B 0 []))
          go_upto_region 17 with (at_builtin; refine wpList_sapp slW rfl (.tmp 41) (.tmp 47) rfl (g := g) (S := (S4.box #[] 96 rfl).rowOf 4 0 rfl (Nat.zero_le _)) rfl ((hsD _).keep ((Keeps.refl (fun _ => False) _).alloc _) (fun _ _ h => h)) rfl (by simp) (by unfold maxLen; omega) (by omega) ?_; intro A5 c5 w5 S5)
          simp only [Nat.zero_add, List.nil_append, List.toList_toArray] at S5
          clear c0 c0a hsD S4
          have q0 : w5.drew.cell? ⟨b, 0, none⟩ = some (.slice (some ad) ws.length ws.length) := S5.drew.p2.cell 0 _ rfl
          have q1 : (w5.alloc (.cells #[.int .i64 y0, .string (Go.Proofs.YtbfogieeiobpdaaGreatDoor.S y1), .bool y2, .bool y3] 96)).drew.cell? ⟨b, 0, none⟩ = some (.slice (some ad) ws.length ws.length) := (S5.box #[.int .i64 y0, .string (Go.Proofs.YtbfogieeiobpdaaGreatDoor.S y1), .bool y2, .bool y3] 96 rfl).drew.p3.cell 0 _ rfl
          refine wp_region_held_drew (S := fun w' => w'.cell? ⟨xb, 0, none⟩ = some (.int .i64 y0) ∧ w'.cell? ⟨xb, 1, none⟩ = some (.string (Go.Proofs.YtbfogieeiobpdaaGreatDoor.S y1)) ∧ w'.cell? ⟨xb, 2, none⟩ = some (.bool y2) ∧ w'.cell? ⟨xb, 3, none⟩ = some (.bool y3)) (by kernel_rfl) ?_ (fun hHeld => ?_)
          · exact ⟨S5.drew.p1.cell 0 _ rfl, S5.drew.p1.cell 1 _ rfl, S5.drew.p1.cell 2 _ rfl, S5.drew.p1.cell 3 _ rfl⟩
          refine wpAnyH_take (i := 0) (oi := _) (v := ?_) rfl (by kernel_rfl) (by kernel_rfl) (by kernel_rfl) (fun _ _ _ h => h) (Or.inl ⟨by rfl, ?_⟩) hHeld ?_
          rotate_left
          · intro w' hSw
            (try dsimp only at hSw)
            go_simp
            try with_reducible rfl
          try simp only [Act.put, List.setIfInBounds_toArray, List.set_cons_zero, List.set_cons_succ]
          refine wpAnyH_take (i := 1) (oi := _) (v := ?_) rfl (by kernel_rfl) (by kernel_rfl) (by kernel_rfl) (fun _ _ _ h => h) (Or.inl ⟨by rfl, ?_⟩) hHeld ?_
          rotate_left
          · intro w' hSw
            (try dsimp only at hSw)
            go_simp
            try with_reducible rfl
          try simp only [Act.put, List.setIfInBounds_toArray, List.set_cons_zero, List.set_cons_succ]
          refine wpAnyH_take (i := 2) (oi := _) (v := ?_) rfl (by kernel_rfl) (by kernel_rfl) (by kernel_rfl) (fun _ _ _ h => h) (Or.inl ⟨by rfl, ?_⟩) hHeld ?_
          rotate_left
          · intro w' hSw
            (try dsimp only at hSw)
            go_simp
            try with_reducible rfl
          try simp only [Act.put, List.setIfInBounds_toArray, List.set_cons_zero, List.set_cons_succ]
          refine wpAnyH_take (i := 3) (oi := _) (v := ?_) rfl (by kernel_rfl) (by kernel_rfl) (by kernel_rfl) (fun _ _ _ h => h) (Or.inl ⟨by rfl, ?_⟩) hHeld ?_
          rotate_left
          · intro w' hSw
            (try dsimp only at hSw)
            go_simp
            try with_reducible rfl
          try simp only [Act.put, List.setIfInBounds_toArray, List.set_cons_zero, List.set_cons_succ]
          refine wpAnyH_take (i := 5) (oi := _) (v := ?_) rfl (by kernel_rfl) (by kernel_rfl) (by kernel_rfl) (fun _ _ _ h => h) (Or.inl ⟨by rfl, ?_⟩) hHeld ?_
          rotate_left
          · intro w' hSw
            (try dsimp only at hSw)
            go_simp
            try with_reducible rfl
          try simp only [Act.put, List.setIfInBounds_toArray, List.set_cons_zero, List.set_cons_succ]
          refine wpAnyH_take (i := 6) (oi := _) (v := ?_) rfl (by kernel_rfl) (by kernel_rfl) (by kernel_rfl) (fun _ _ _ h => h) (Or.inl ⟨by rfl, ?_⟩) hHeld ?_
          rotate_left
          · intro w' hSw
            (try dsimp only at hSw)
            go_simp
            try with_reducible rfl
          try simp only [Act.put, List.setIfInBounds_toArray, List.set_cons_zero, List.set_cons_succ]
          refine wpAnyH_take (i := 8) (oi := _) (v := ?_) rfl (by kernel_rfl) (by kernel_rfl) (by kernel_rfl) (fun _ _ _ h => h) (Or.inl ⟨by rfl, ?_⟩) hHeld ?_
          rotate_left
          · intro w' hSw
            (try dsimp only at hSw)
            go_simp
            try with_reducible rfl
          try simp only [Act.put, List.setIfInBounds_toArray, List.set_cons_zero, List.set_cons_succ]
          refine wpAnyH_take (i := 11) (oi := _) (v := ?_) rfl (by kernel_rfl) (by kernel_rfl) (by kernel_rfl) (fun _ _ _ h => h) (Or.inl ⟨by rfl, ?_⟩) hHeld ?_
          rotate_left
          · intro w' hSw
            (try dsimp only at hSw)
            go_simp
            try with_reducible rfl
          try simp only [Act.put, List.setIfInBounds_toArray, List.set_cons_zero, List.set_cons_succ]
          refine wpAnyH_ready (rs := [4, 9]) (by kernel_rfl) (by simp) ?_
          refine AllReadyH.cons rfl (fun K hK => ?_) ?_
          · go_simp
            refine hK.out _ _ ?_ (fun hHeld => ?_)
            · exact ⟨S5.drew.p1.cell 0 _ rfl, S5.drew.p1.cell 1 _ rfl, S5.drew.p1.cell 2 _ rfl, S5.drew.p1.cell 3 _ rfl⟩
            clear hK K
            try simp only [Act.put, List.setIfInBounds_toArray, List.set_cons_zero, List.set_cons_succ]
            refine wpAnyH_take (i := 7) (oi := _) (v := ?_) rfl (by kernel_rfl) (by kernel_rfl) (by kernel_rfl) (fun _ _ _ h => h) (Or.inl ⟨by rfl, ?_⟩) hHeld ?_
            rotate_left
            · intro w' hSw
              (try dsimp only at hSw)
              go_simp
              try with_reducible rfl
            try simp only [Act.put, List.setIfInBounds_toArray, List.set_cons_zero, List.set_cons_succ]
            refine wpAnyH_ready (rs := [9]) (by kernel_rfl) (by simp) ?_
            refine AllReadyH.cons rfl (fun K hK => ?_) ?_
            · go_simp
              refine hK.out _ _ ?_ (fun hHeld => ?_)
              · exact ⟨(S5.box _ _ rfl).drew.p2.cell 0 _ rfl, (S5.box _ _ rfl).drew.p2.cell 1 _ rfl, (S5.box _ _ rfl).drew.p2.cell 2 _ rfl, (S5.box _ _ rfl).drew.p2.cell 3 _ rfl⟩
              clear hK K
              try simp only [Act.put, List.setIfInBounds_toArray, List.set_cons_zero, List.set_cons_succ]
              refine wpAnyH_ready (rs := [10]) (by kernel_rfl) (by simp) ?_
              refine AllReadyH.cons rfl (fun K hK => ?_) ?_
              · refine step_full slW rfl (.tmp 56) (.tmp 58) rfl (g := g) (S := S5.drew.box #[.int .i64 y0, .string (Go.Proofs.YtbfogieeiobpdaaGreatDoor.S y1), .bool y2, .bool y3] 96 rfl) (by have := (S5.drew.box #[.int .i64 y0, .string (Go.Proofs.YtbfogieeiobpdaaGreatDoor.S y1), .bool y2, .bool y3] 96 rfl).p6.srcR; rwa [show (ws.flatMap watC) = (ws.take ws.length).flatMap watC from by rw [List.take_length]] at this) (fun h => by cases h) rfl (Src.block (heap_alloc_new _ _) 4 1 rfl) (by decide) rfl (by unfold maxLen; omega) (by omega) ?_
                intro A7 c7 w7 S7
                refine hK.out _ _ ?_ (fun hHeld => ?_)
                · exact ⟨S7.p3.cell 0 _ rfl, S7.p3.cell 1 _ rfl, S7.p3.cell 2 _ rfl, S7.p3.cell 3 _ rfl⟩
                clear hK K
                try simp only [Act.put, List.setIfInBounds_toArray, List.set_cons_zero, List.set_cons_succ]
                refine wpAnyH_ready (rs := [12]) (by kernel_rfl) (by simp) ?_
                refine AllReadyH.cons rfl (fun K hK => ?_) ?_
                · refine step_app slW rfl (.tmp 59) (.tmp 60) rfl (g := g) (S := S7) rfl (S7.p2.srcR) rfl (by simp) (by unfold maxLen; omega) (by omega) ?_
                  intro A8 c8 w8 S8
                  have z0 := S8.p4.cell 0 _ rfl
                  have z1 := S8.p4.cells_fz 0
                  refine hK.out _ _ ?_ (fun hHeld => ?_)
                  · exact ⟨S8.p3.cell 0 _ rfl, S8.p3.cell 1 _ rfl, S8.p3.cell 2 _ rfl, S8.p3.cell 3 _ rfl⟩
                  clear hK K
                  try simp only [Act.put, List.setIfInBounds_toArray, List.set_cons_zero, List.set_cons_succ]
                  refine wpAnyH_take (i := 13) (oi := _) (v := ?_) rfl (by kernel_rfl) (by kernel_rfl) (by kernel_rfl) (fun _ _ _ h => h) (Or.inl ⟨by rfl, ?_⟩) hHeld ?_
                  rotate_left
                  · intro w' hSw
                    (try dsimp only at hSw)
                    go_simp
                    try with_reducible rfl
                  try simp only [Act.put, List.setIfInBounds_toArray, List.set_cons_zero, List.set_cons_succ]
                  refine wpAnyH_take (i := 14) (oi := _) (v := ?_) rfl (by kernel_rfl) (by kernel_rfl) (by kernel_rfl) (fun _ _ _ h => h) (Or.inl ⟨by rfl, ?_⟩) hHeld ?_
                  rotate_left
                  · intro w' hSw
                    (try dsimp only at hSw)
                    go_simp
                    try with_reducible rfl
                  try simp only [Act.put, List.setIfInBounds_toArray, List.set_cons_zero, List.set_cons_succ]
                  refine wpAnyH_ready (rs := [15]) (by kernel_rfl) (by simp) ?_
                  refine AllReadyH.cons rfl (fun K hK => ?_) ?_
                  · go_simp
                    refine hK.out _ _ ?_ (fun hHeld => ?_)
                    · exact ⟨(S8.p4.setc 0 _).p4.cell 0 _ rfl, (S8.p4.setc 0 _).p4.cell 1 _ rfl, (S8.p4.setc 0 _).p4.cell 2 _ rfl, (S8.p4.setc 0 _).p4.cell 3 _ rfl⟩
                    clear hK K
                    try simp only [Act.put, List.setIfInBounds_toArray, List.set_cons_zero, List.set_cons_succ]
                    refine wpAnyH_done (by kernel_rfl) ?_ _
                    have S9 := S8.p4.setc 0 (.slice A8 (ws.length + 1 + 0) c8)
                    clear z0 z1
                    generalize w8.setCell ⟨b, 0, none⟩ (.slice A8 (ws.length + 1 + 0) c8) = w9 at *
                    have hfl : (ws.take ws.length ++ [(⟨y0, y1, y2, y3⟩ : WatT)] ++ ws.drop ws.length).flatMap watC = (ws.take ws.length).flatMap watC ++ [.int .i64 y0, .string (Go.Proofs.YtbfogieeiobpdaaGreatDoor.S y1), .bool y2, .bool y3] ++ [] := by rw [hdn]; simp [watC]
                    have hln : (ws.take ws.length ++ [(⟨y0, y1, y2, y3⟩ : WatT)] ++ ws.drop ws.length).length = ws.length + 1 + 0 := by rw [hdn]; simp
                    have S10 : Sat g w9 (cellsA b 32 #[.slice A8 (ws.length + 1 + 0) c8, ev, nv] :: rowA 74 5 ev es.length (es.flatMap evC) :: nosA nv nos :: rowA 96 4 (.slice A8 (ws.length + 1 + 0) c8) (ws.take ws.length ++ [(⟨y0, y1, y2, y3⟩ : WatT)] ++ ws.drop ws.length).length ((ws.take ws.length ++ [(⟨y0, y1, y2, y3⟩ : WatT)] ++ ws.drop ws.length).flatMap watC) :: L) := by
                      rw [hfl, hln]
                      exact ((((S9.p2.drop).p2.drop).p2.drop).p4.drop).p1.b3
                    have HS10 := hide (Sat.modelShut (B := ⟨ws.take ws.length ++ [(⟨y0, y1, y2, y3⟩ : WatT)] ++ ws.drop ws.length, es, nos⟩) S10.mnotesShut)
                    clear S10 S9 S8 S7 S5 hfl hln
                    go_wp2_with fail
                    go_ret
                    exact HR.out _ HE.out _ HS10.out
                  exact AllReadyH.nil
                exact AllReadyH.nil
              exact AllReadyH.nil
            exact AllReadyH.nil
          refine AllReadyH.cons rfl (fun K hK => ?_) ?_
          · go_simp
            refine hK.out _ _ ?_ (fun hHeld => ?_)
            · exact ⟨(S5.box _ _ rfl).drew.p2.cell 0 _ rfl, (S5.box _ _ rfl).drew.p2.cell 1 _ rfl, (S5.box _ _ rfl).drew.p2.cell 2 _ rfl, (S5.box _ _ rfl).drew.p2.cell 3 _ rfl⟩
            clear hK K
            try simp only [Act.put, List.setIfInBounds_toArray, List.set_cons_zero, List.set_cons_succ]
            refine wpAnyH_ready (rs := [4]) (by kernel_rfl) (by simp) ?_
            refine AllReadyH.cons rfl (fun K hK => ?_) ?_
            · go_simp
              refine hK.out _ _ ?_ (fun hHeld => ?_)
              · exact ⟨(S5.box _ _ rfl).drew.p2.cell 0 _ rfl, (S5.box _ _ rfl).drew.p2.cell 1 _ rfl, (S5.box _ _ rfl).drew.p2.cell 2 _ rfl, (S5.box _ _ rfl).drew.p2.cell 3 _ rfl⟩
              clear hK K
              try simp only [Act.put, List.setIfInBounds_toArray, List.set_cons_zero, List.set_cons_succ]
              refine wpAnyH_take (i := 7) (oi := _) (v := ?_) rfl (by kernel_rfl) (by kernel_rfl) (by kernel_rfl) (fun _ _ _ h => h) (Or.inl ⟨by rfl, ?_⟩) hHeld ?_
              rotate_left
              · intro w' hSw
                (try dsimp only at hSw)
                go_simp
                try with_reducible rfl
              try simp only [Act.put, List.setIfInBounds_toArray, List.set_cons_zero, List.set_cons_succ]
              refine wpAnyH_ready (rs := [10]) (by kernel_rfl) (by simp) ?_
              refine AllReadyH.cons rfl (fun K hK => ?_) ?_
              · refine step_full slW rfl (.tmp 56) (.tmp 58) rfl (g := g) (S := S5.drew.box #[.int .i64 y0, .string (Go.Proofs.YtbfogieeiobpdaaGreatDoor.S y1), .bool y2, .bool y3] 96 rfl) (by have := (S5.drew.box #[.int .i64 y0, .string (Go.Proofs.YtbfogieeiobpdaaGreatDoor.S y1), .bool y2, .bool y3] 96 rfl).p6.srcR; rwa [show (ws.flatMap watC) = (ws.take ws.length).flatMap watC from by rw [List.take_length]] at this) (fun h => by cases h) rfl (Src.block (heap_alloc_new _ _) 4 1 rfl) (by decide) rfl (by unfold maxLen; omega) (by omega) ?_
                intro A7 c7 w7 S7
                refine hK.out _ _ ?_ (fun hHeld => ?_)
                · exact ⟨S7.p3.cell 0 _ rfl, S7.p3.cell 1 _ rfl, S7.p3.cell 2 _ rfl, S7.p3.cell 3 _ rfl⟩
                clear hK K
                try simp only [Act.put, List.setIfInBounds_toArray, List.set_cons_zero, List.set_cons_succ]
                refine wpAnyH_ready (rs := [12]) (by kernel_rfl) (by simp) ?_
                refine AllReadyH.cons rfl (fun K hK => ?_) ?_
                · refine step_app slW rfl (.tmp 59) (.tmp 60) rfl (g := g) (S := S7) rfl (S7.p2.srcR) rfl (by simp) (by unfold maxLen; omega) (by omega) ?_
                  intro A8 c8 w8 S8
                  have z0 := S8.p4.cell 0 _ rfl
                  have z1 := S8.p4.cells_fz 0
                  refine hK.out _ _ ?_ (fun hHeld => ?_)
                  · exact ⟨S8.p3.cell 0 _ rfl, S8.p3.cell 1 _ rfl, S8.p3.cell 2 _ rfl, S8.p3.cell 3 _ rfl⟩
                  clear hK K
                  try simp only [Act.put, List.setIfInBounds_toArray, List.set_cons_zero, List.set_cons_succ]
                  refine wpAnyH_take (i := 13) (oi := _) (v := ?_) rfl (by kernel_rfl) (by kernel_rfl) (by kernel_rfl) (fun _ _ _ h => h) (Or.inl ⟨by rfl, ?_⟩) hHeld ?_
                  rotate_left
                  · intro w' hSw
                    (try dsimp only at hSw)
                    go_simp
                    try with_reducible rfl
                  try simp only [Act.put, List.setIfInBounds_toArray, List.set_cons_zero, List.set_cons_succ]
                  refine wpAnyH_take (i := 14) (oi := _) (v := ?_) rfl (by kernel_rfl) (by kernel_rfl) (by kernel_rfl) (fun _ _ _ h => h) (Or.inl ⟨by rfl, ?_⟩) hHeld ?_
                  rotate_left
                  · intro w' hSw
                    (try dsimp only at hSw)
                    go_simp
                    try with_reducible rfl
                  try simp only [Act.put, List.setIfInBounds_toArray, List.set_cons_zero, List.set_cons_succ]
                  refine wpAnyH_ready (rs := [15]) (by kernel_rfl) (by simp) ?_
                  refine AllReadyH.cons rfl (fun K hK => ?_) ?_
                  · go_simp
                    refine hK.out _ _ ?_ (fun hHeld => ?_)
                    · exact ⟨(S8.p4.setc 0 _).p4.cell 0 _ rfl, (S8.p4.setc 0 _).p4.cell 1 _ rfl, (S8.p4.setc 0 _).p4.cell 2 _ rfl, (S8.p4.setc 0 _).p4.cell 3 _ rfl⟩
                    clear hK K
                    try simp only [Act.put, List.setIfInBounds_toArray, List.set_cons_zero, List.set_cons_succ]
                    refine wpAnyH_done (by kernel_rfl) ?_ _
                    have S9 := S8.p4.setc 0 (.slice A8 (ws.length + 1 + 0) c8)
                    clear z0 z1
                    generalize w8.setCell ⟨b, 0, none⟩ (.slice A8 (ws.length + 1 + 0) c8) = w9 at *
                    have hfl : (ws.take ws.length ++ [(⟨y0, y1, y2, y3⟩ : WatT)] ++ ws.drop ws.length).flatMap watC = (ws.take ws.length).flatMap watC ++ [.int .i64 y0, .string (Go.Proofs.YtbfogieeiobpdaaGreatDoor.S y1), .bool y2, .bool y3] ++ [] := by rw [hdn]; simp [watC]
                    have hln : (ws.take ws.length ++ [(⟨y0, y1, y2, y3⟩ : WatT)] ++ ws.drop ws.length).length = ws.length + 1 + 0 := by rw [hdn]; simp
                    have S10 : Sat g w9 (cellsA b 32 #[.slice A8 (ws.length + 1 + 0) c8, ev, nv] :: rowA 74 5 ev es.length (es.flatMap evC) :: nosA nv nos :: rowA 96 4 (.slice A8 (ws.length + 1 + 0) c8) (ws.take ws.length ++ [(⟨y0, y1, y2, y3⟩ : WatT)] ++ ws.drop ws.length).length ((ws.take ws.length ++ [(⟨y0, y1, y2, y3⟩ : WatT)] ++ ws.drop ws.length).flatMap watC) :: L) := by
                      rw [hfl, hln]
                      exact ((((S9.p2.drop).p2.drop).p2.drop).p4.drop).p1.b3
                    have HS10 := hide (Sat.modelShut (B := ⟨ws.take ws.length ++ [(⟨y0, y1, y2, y3⟩ : WatT)] ++ ws.drop ws.length, es, nos⟩) S10.mnotesShut)
                    clear S10 S9 S8 S7 S5 hfl hln
                    go_wp2_with fail
                    go_ret
                    exact HR.out _ HE.out _ HS10.out
                  exact AllReadyH.nil
                exact AllReadyH.nil
              exact AllReadyH.nil
            exact AllReadyH.nil
          exact AllReadyH.nil
      · have hca2 : ¬ (c - a = 0) := by omega
        have hnz : A ≠ none := fun h => by
          subst h
          rcases S4.p4.row.2 with h | h
          · injection h.1 with _ _ h; omega
          · obtain ⟨_, _, _, h, _⟩ := h
            cases h
        obtain ⟨ad, rfl⟩ : ∃ ad, A = some ad := by
          cases A with
          | none => exact absurd rfl hnz
          | some ad => exact ⟨ad, rfl⟩
        clear hnz
        have hs4 := S4.p4.srcR
        have c0 := S4.p1.cell 0 _ rfl
        have c0a : (wr.alloc (.cells #[] 96)).cell? ⟨b, 0, none⟩ = some (.slice (some ad) ws.length c) := (S4.box #[] 96 rfl).p2.cell 0 _ rfl
        have hsD := (show Src wr 4 (some (ad.add (a * 4))) (ws.length - a) ((ws.drop a).flatMap watC) from by have := hs4.suf a (by omega); rwa [flatK_drop (f := watC) (n := 4) (fun _ => rfl)] at this)
        go_upto_region 17 with (at_builtin; refine wpList_sapp slW rfl (.tmp 41) (.tmp 47) rfl (g := g) (S := (S4.box #[] 96 rfl).rowOf 4 0 rfl (Nat.zero_le _)) rfl (hsD.keep ((Keeps.refl (fun _ => False) _).alloc _) (fun _ _ h => h)) rfl (HDC.out a) (by unfold maxLen; omega) (by omega) ?_; intro A5 c5 w5 S5)
        simp only [Nat.zero_add, List.nil_append, List.toList_toArray] at S5
        clear c0 c0a hsD S4
        have q0 : w5.drew.cell? ⟨b, 0, none⟩ = some (.slice (some ad) ws.length c) := S5.drew.p2.cell 0 _ rfl
        have q1 : (w5.alloc (.cells #[.int .i64 y0, .string (Go.Proofs.YtbfogieeiobpdaaGreatDoor.S y1), .bool y2, .bool y3] 96)).drew.cell? ⟨b, 0, none⟩ = some (.slice (some ad) ws.length c) := (S5.box #[.int .i64 y0, .string (Go.Proofs.YtbfogieeiobpdaaGreatDoor.S y1), .bool y2, .bool y3] 96 rfl).drew.p3.cell 0 _ rfl
        refine wp_region_held_drew (S := fun w' => w'.cell? ⟨xb, 0, none⟩ = some (.int .i64 y0) ∧ w'.cell? ⟨xb, 1, none⟩ = some (.string (Go.Proofs.YtbfogieeiobpdaaGreatDoor.S y1)) ∧ w'.cell? ⟨xb, 2, none⟩ = some (.bool y2) ∧ w'.cell? ⟨xb, 3, none⟩ = some (.bool y3)) (by kernel_rfl) ?_ (fun hHeld => ?_)
        · exact ⟨S5.drew.p1.cell 0 _ rfl, S5.drew.p1.cell 1 _ rfl, S5.drew.p1.cell 2 _ rfl, S5.drew.p1.cell 3 _ rfl⟩
        refine wpAnyH_take (i := 0) (oi := _) (v := ?_) rfl (by kernel_rfl) (by kernel_rfl) (by kernel_rfl) (fun _ _ _ h => h) (Or.inl ⟨by rfl, ?_⟩) hHeld ?_
        rotate_left
        · intro w' hSw
          (try dsimp only at hSw)
          go_simp
          try with_reducible rfl
        try simp only [Act.put, List.setIfInBounds_toArray, List.set_cons_zero, List.set_cons_succ]
        refine wpAnyH_take (i := 1) (oi := _) (v := ?_) rfl (by kernel_rfl) (by kernel_rfl) (by kernel_rfl) (fun _ _ _ h => h) (Or.inl ⟨by rfl, ?_⟩) hHeld ?_
        rotate_left
        · intro w' hSw
          (try dsimp only at hSw)
          go_simp
          try with_reducible rfl
        try simp only [Act.put, List.setIfInBounds_toArray, List.set_cons_zero, List.set_cons_succ]
        refine wpAnyH_take (i := 2) (oi := _) (v := ?_) rfl (by kernel_rfl) (by kernel_rfl) (by kernel_rfl) (fun _ _ _ h => h) (Or.inl ⟨by rfl, ?_⟩) hHeld ?_
        rotate_left
        · intro w' hSw
          (try dsimp only at hSw)
          go_simp
          try with_reducible rfl
        try simp only [Act.put, List.setIfInBounds_toArray, List.set_cons_zero, List.set_cons_succ]
        refine wpAnyH_take (i := 3) (oi := _) (v := ?_) rfl (by kernel_rfl) (by kernel_rfl) (by kernel_rfl) (fun _ _ _ h => h) (Or.inl ⟨by rfl, ?_⟩) hHeld ?_
        rotate_left
        · intro w' hSw
          (try dsimp only at hSw)
          go_simp
          try with_reducible rfl
        try simp only [Act.put, List.setIfInBounds_toArray, List.set_cons_zero, List.set_cons_succ]
        refine wpAnyH_take (i := 5) (oi := _) (v := ?_) rfl (by kernel_rfl) (by kernel_rfl) (by kernel_rfl) (fun _ _ _ h => h) (Or.inl ⟨by rfl, ?_⟩) hHeld ?_
        rotate_left
        · intro w' hSw
          (try dsimp only at hSw)
          go_simp
          try with_reducible rfl
        try simp only [Act.put, List.setIfInBounds_toArray, List.set_cons_zero, List.set_cons_succ]
        refine wpAnyH_take (i := 6) (oi := _) (v := ?_) rfl (by kernel_rfl) (by kernel_rfl) (by kernel_rfl) (fun _ _ _ h => h) (Or.inl ⟨by rfl, ?_⟩) hHeld ?_
        rotate_left
        · intro w' hSw
          (try dsimp only at hSw)
          go_simp
          try with_reducible rfl
        try simp only [Act.put, List.setIfInBounds_toArray, List.set_cons_zero, List.set_cons_succ]
        refine wpAnyH_take (i := 8) (oi := _) (v := ?_) rfl (by kernel_rfl) (by kernel_rfl) (by kernel_rfl) (fun _ _ _ h => h) (Or.inl ⟨by rfl, ?_⟩) hHeld ?_
        rotate_left
        · intro w' hSw
          (try dsimp only at hSw)
          go_simp
          try with_reducible rfl
        try simp only [Act.put, List.setIfInBounds_toArray, List.set_cons_zero, List.set_cons_succ]
        refine wpAnyH_take (i := 11) (oi := _) (v := ?_) rfl (by kernel_rfl) (by kernel_rfl) (by kernel_rfl) (fun _ _ _ h => h) (Or.inl ⟨by rfl, ?_⟩) hHeld ?_
        rotate_left
        · intro w' hSw
          (try dsimp only at hSw)
          go_simp
          try with_reducible rfl
        try simp only [Act.put, List.setIfInBounds_toArray, List.set_cons_zero, List.set_cons_succ]
        refine wpAnyH_ready (rs := [4, 9]) (by kernel_rfl) (by simp) ?_
        refine AllReadyH.cons rfl (fun K hK => ?_) ?_
        · go_simp
          refine hK.out _ _ ?_ (fun hHeld => ?_)
          · exact ⟨S5.drew.p1.cell 0 _ rfl, S5.drew.p1.cell 1 _ rfl, S5.drew.p1.cell 2 _ rfl, S5.drew.p1.cell 3 _ rfl⟩
          clear hK K
          try simp only [Act.put, List.setIfInBounds_toArray, List.set_cons_zero, List.set_cons_succ]
          refine wpAnyH_take (i := 7) (oi := _) (v := ?_) rfl (by kernel_rfl) (by kernel_rfl) (by kernel_rfl) (fun _ _ _ h => h) (Or.inl ⟨by rfl, ?_⟩) hHeld ?_
          rotate_left
          · intro w' hSw
            (try dsimp only at hSw)
            go_simp
            try with_reducible rfl
          try simp only [Act.put, List.setIfInBounds_toArray, List.set_cons_zero, List.set_cons_succ]
          refine wpAnyH_ready (rs := [9]) (by kernel_rfl) (by simp) ?_
          refine AllReadyH.cons rfl (fun K hK => ?_) ?_
          · go_simp
            refine hK.out _ _ ?_ (fun hHeld => ?_)
            · exact ⟨(S5.box _ _ rfl).drew.p2.cell 0 _ rfl, (S5.box _ _ rfl).drew.p2.cell 1 _ rfl, (S5.box _ _ rfl).drew.p2.cell 2 _ rfl, (S5.box _ _ rfl).drew.p2.cell 3 _ rfl⟩
            clear hK K
            try simp only [Act.put, List.setIfInBounds_toArray, List.set_cons_zero, List.set_cons_succ]
            refine wpAnyH_ready (rs := [10]) (by kernel_rfl) (by simp) ?_
            refine AllReadyH.cons rfl (fun K hK => ?_) ?_
            · refine step_full slW rfl (.tmp 56) (.tmp 58) rfl (g := g) (S := S5.drew.box #[.int .i64 y0, .string (Go.Proofs.YtbfogieeiobpdaaGreatDoor.S y1), .bool y2, .bool y3] 96 rfl) (by have := (S5.drew.box #[.int .i64 y0, .string (Go.Proofs.YtbfogieeiobpdaaGreatDoor.S y1), .bool y2, .bool y3] 96 rfl).p6.srcR.pre a (by omega); rwa [flatK_take (f := watC) (n := 4) (fun _ => rfl)] at this) (fun h => by cases h) rfl (Src.block (heap_alloc_new _ _) 4 1 rfl) (by decide) rfl (by unfold maxLen; omega) (by omega) ?_
              intro A7 c7 w7 S7
              refine hK.out _ _ ?_ (fun hHeld => ?_)
              · exact ⟨S7.p3.cell 0 _ rfl, S7.p3.cell 1 _ rfl, S7.p3.cell 2 _ rfl, S7.p3.cell 3 _ rfl⟩
              clear hK K
              try simp only [Act.put, List.setIfInBounds_toArray, List.set_cons_zero, List.set_cons_succ]
              refine wpAnyH_ready (rs := [12]) (by kernel_rfl) (by simp) ?_
              refine AllReadyH.cons rfl (fun K hK => ?_) ?_
              · refine step_app slW rfl (.tmp 59) (.tmp 60) rfl (g := g) (S := S7) rfl (S7.p2.srcR) rfl (HDC.out a) (by unfold maxLen; omega) (by omega) ?_
                intro A8 c8 w8 S8
                have z0 := S8.p4.cell 0 _ rfl
                have z1 := S8.p4.cells_fz 0
                refine hK.out _ _ ?_ (fun hHeld => ?_)
                · exact ⟨S8.p3.cell 0 _ rfl, S8.p3.cell 1 _ rfl, S8.p3.cell 2 _ rfl, S8.p3.cell 3 _ rfl⟩
                clear hK K
                try simp only [Act.put, List.setIfInBounds_toArray, List.set_cons_zero, List.set_cons_succ]
                refine wpAnyH_take (i := 13) (oi := _) (v := ?_) rfl (by kernel_rfl) (by kernel_rfl) (by kernel_rfl) (fun _ _ _ h => h) (Or.inl ⟨by rfl, ?_⟩) hHeld ?_
                rotate_left
                · intro w' hSw
                  (try dsimp only at hSw)
                  go_simp
                  try with_reducible rfl
                try simp only [Act.put, List.setIfInBounds_toArray, List.set_cons_zero, List.set_cons_succ]
                refine wpAnyH_take (i := 14) (oi := _) (v := ?_) rfl (by kernel_rfl) (by kernel_rfl) (by kernel_rfl) (fun _ _ _ h => h) (Or.inl ⟨by rfl, ?_⟩) hHeld ?_
                rotate_left
                · intro w' hSw
                  (try dsimp only at hSw)
                  go_simp
                  try with_reducible rfl
                try simp only [Act.put, List.setIfInBounds_toArray, List.set_cons_zero, List.set_cons_succ]
                refine wpAnyH_ready (rs := [15]) (by kernel_rfl) (by simp) ?_
                refine AllReadyH.cons rfl (fun K hK => ?_) ?_
                · go_simp
                  refine hK.out _ _ ?_ (fun hHeld => ?_)
                  · exact ⟨(S8.p4.setc 0 _).p4.cell 0 _ rfl, (S8.p4.setc 0 _).p4.cell 1 _ rfl, (S8.p4.setc 0 _).p4.cell 2 _ rfl, (S8.p4.setc 0 _).p4.cell 3 _ rfl⟩
                  clear hK K
                  try simp only [Act.put, List.setIfInBounds_toArray, List.set_cons_zero, List.set_cons_succ]
                  refine wpAnyH_done (by kernel_rfl) ?_ _
                  have S9 := S8.p4.setc 0 (.slice A8 (a + 1 + (ws.length - a)) c8)
                  clear z0 z1
                  generalize w8.setCell ⟨b, 0, none⟩ (.slice A8 (a + 1 + (ws.length - a)) c8) = w9 at *
                  have hfl : (ws.take a ++ [(⟨y0, y1, y2, y3⟩ : WatT)] ++ ws.drop a).flatMap watC = (ws.take a).flatMap watC ++ [.int .i64 y0, .string (Go.Proofs.YtbfogieeiobpdaaGreatDoor.S y1), .bool y2, .bool y3] ++ (ws.drop a).flatMap watC := by simp [watC]
                  have hln : (ws.take a ++ [(⟨y0, y1, y2, y3⟩ : WatT)] ++ ws.drop a).length = a + 1 + (ws.length - a) := by simp; omega
                  have S10 : Sat g w9 (cellsA b 32 #[.slice A8 (a + 1 + (ws.length - a)) c8, ev, nv] :: rowA 74 5 ev es.length (es.flatMap evC) :: nosA nv nos :: rowA 96 4 (.slice A8 (a + 1 + (ws.length - a)) c8) (ws.take a ++ [(⟨y0, y1, y2, y3⟩ : WatT)] ++ ws.drop a).length ((ws.take a ++ [(⟨y0, y1, y2, y3⟩ : WatT)] ++ ws.drop a).flatMap watC) :: L) := by
                    rw [hfl, hln]
                    exact ((((S9.p2.drop).p2.drop).p2.drop).p4.drop).p1.b3
                  have HS10 := hide (Sat.modelShut (B := ⟨ws.take a ++ [(⟨y0, y1, y2, y3⟩ : WatT)] ++ ws.drop a, es, nos⟩) S10.mnotesShut)
                  clear S10 S9 S8 S7 S5 hfl hln
                  go_wp2_with fail
                  go_ret
                  exact HR.out _ HE.out _ HS10.out
                exact AllReadyH.nil
              exact AllReadyH.nil
            exact AllReadyH.nil
          exact AllReadyH.nil
        refine AllReadyH.cons rfl (fun K hK => ?_) ?_
        · go_simp
          refine hK.out _ _ ?_ (fun hHeld => ?_)
          · exact ⟨(S5.box _ _ rfl).drew.p2.cell 0 _ rfl, (S5.box _ _ rfl).drew.p2.cell 1 _ rfl, (S5.box _ _ rfl).drew.p2.cell 2 _ rfl, (S5.box _ _ rfl).drew.p2.cell 3 _ rfl⟩
          clear hK K
          try simp only [Act.put, List.setIfInBounds_toArray, List.set_cons_zero, List.set_cons_succ]
          refine wpAnyH_ready (rs := [4]) (by kernel_rfl) (by simp) ?_
          refine AllReadyH.cons rfl (fun K hK => ?_) ?_
          · go_simp
            refine hK.out _ _ ?_ (fun hHeld => ?_)
            · exact ⟨(S5.box _ _ rfl).drew.p2.cell 0 _ rfl, (S5.box _ _ rfl).drew.p2.cell 1 _ rfl, (S5.box _ _ rfl).drew.p2.cell 2 _ rfl, (S5.box _ _ rfl).drew.p2.cell 3 _ rfl⟩
            clear hK K
            try simp only [Act.put, List.setIfInBounds_toArray, List.set_cons_zero, List.set_cons_succ]
            refine wpAnyH_take (i := 7) (oi := _) (v := ?_) rfl (by kernel_rfl) (by kernel_rfl) (by kernel_rfl) (fun _ _ _ h => h) (Or.inl ⟨by rfl, ?_⟩) hHeld ?_
            rotate_left
            · intro w' hSw
              (try dsimp only at hSw)
              go_simp
              try with_reducible rfl
            try simp only [Act.put, List.setIfInBounds_toArray, List.set_cons_zero, List.set_cons_succ]
            refine wpAnyH_ready (rs := [10]) (by kernel_rfl) (by simp) ?_
            refine AllReadyH.cons rfl (fun K hK => ?_) ?_
            · refine step_full slW rfl (.tmp 56) (.tmp 58) rfl (g := g) (S := S5.drew.box #[.int .i64 y0, .string (Go.Proofs.YtbfogieeiobpdaaGreatDoor.S y1), .bool y2, .bool y3] 96 rfl) (by have := (S5.drew.box #[.int .i64 y0, .string (Go.Proofs.YtbfogieeiobpdaaGreatDoor.S y1), .bool y2, .bool y3] 96 rfl).p6.srcR.pre a (by omega); rwa [flatK_take (f := watC) (n := 4) (fun _ => rfl)] at this) (fun h => by cases h) rfl (Src.block (heap_alloc_new _ _) 4 1 rfl) (by decide) rfl (by unfold maxLen; omega) (by omega) ?_
              intro A7 c7 w7 S7
              refine hK.out _ _ ?_ (fun hHeld => ?_)
              · exact ⟨S7.p3.cell 0 _ rfl, S7.p3.cell 1 _ rfl, S7.p3.cell 2 _ rfl, S7.p3.cell 3 _ rfl⟩
              clear hK K
              try simp only [Act.put, List.setIfInBounds_toArray, List.set_cons_zero, List.set_cons_succ]
              refine wpAnyH_ready (rs := [12]) (by kernel_rfl) (by simp) ?_
              refine AllReadyH.cons rfl (fun K hK => ?_) ?_
              · refine step_app slW rfl (.tmp 59) (.tmp 60) rfl (g := g) (S := S7) rfl (S7.p2.srcR) rfl (HDC.out a) (by unfold maxLen; omega) (by omega) ?_
                intro A8 c8 w8 S8
                have z0 := S8.p4.cell 0 _ rfl
                have z1 := S8.p4.cells_fz 0
                refine hK.out _ _ ?_ (fun hHeld => ?_)
                · exact ⟨S8.p3.cell 0 _ rfl, S8.p3.cell 1 _ rfl, S8.p3.cell 2 _ rfl, S8.p3.cell 3 _ rfl⟩
                clear hK K
                try simp only [Act.put, List.setIfInBounds_toArray, List.set_cons_zero, List.set_cons_succ]
                refine wpAnyH_take (i := 13) (oi := _) (v := ?_) rfl (by kernel_rfl) (by kernel_rfl) (by kernel_rfl) (fun _ _ _ h => h) (Or.inl ⟨by rfl, ?_⟩) hHeld ?_
                rotate_left
                · intro w' hSw
                  (try dsimp only at hSw)
                  go_simp
                  try with_reducible rfl
                try simp only [Act.put, List.setIfInBounds_toArray, List.set_cons_zero, List.set_cons_succ]
                refine wpAnyH_take (i := 14) (oi := _) (v := ?_) rfl (by kernel_rfl) (by kernel_rfl) (by kernel_rfl) (fun _ _ _ h => h) (Or.inl ⟨by rfl, ?_⟩) hHeld ?_
                rotate_left
                · intro w' hSw
                  (try dsimp only at hSw)
                  go_simp
                  try with_reducible rfl
                try simp only [Act.put, List.setIfInBounds_toArray, List.set_cons_zero, List.set_cons_succ]
                refine wpAnyH_ready (rs := [15]) (by kernel_rfl) (by simp) ?_
                refine AllReadyH.cons rfl (fun K hK => ?_) ?_
                · go_simp
                  refine hK.out _ _ ?_ (fun hHeld => ?_)
                  · exact ⟨(S8.p4.setc 0 _).p4.cell 0 _ rfl, (S8.p4.setc 0 _).p4.cell 1 _ rfl, (S8.p4.setc 0 _).p4.cell 2 _ rfl, (S8.p4.setc 0 _).p4.cell 3 _ rfl⟩
                  clear hK K
                  try simp only [Act.put, List.setIfInBounds_toArray, List.set_cons_zero, List.set_cons_succ]
                  refine wpAnyH_done (by kernel_rfl) ?_ _
                  have S9 := S8.p4.setc 0 (.slice A8 (a + 1 + (ws.length - a)) c8)
                  clear z0 z1
                  generalize w8.setCell ⟨b, 0, none⟩ (.slice A8 (a + 1 + (ws.length - a)) c8) = w9 at *
                  have hfl : (ws.take a ++ [(⟨y0, y1, y2, y3⟩ : WatT)] ++ ws.drop a).flatMap watC = (ws.take a).flatMap watC ++ [.int .i64 y0, .string (Go.Proofs.YtbfogieeiobpdaaGreatDoor.S y1), .bool y2, .bool y3] ++ (ws.drop a).flatMap watC := by simp [watC]
                  have hln : (ws.take a ++ [(⟨y0, y1, y2, y3⟩ : WatT)] ++ ws.drop a).length = a + 1 + (ws.length - a) := by simp; omega
                  have S10 : Sat g w9 (cellsA b 32 #[.slice A8 (a + 1 + (ws.length - a)) c8, ev, nv] :: rowA 74 5 ev es.length (es.flatMap evC) :: nosA nv nos :: rowA 96 4 (.slice A8 (a + 1 + (ws.length - a)) c8) (ws.take a ++ [(⟨y0, y1, y2, y3⟩ : WatT)] ++ ws.drop a).length ((ws.take a ++ [(⟨y0, y1, y2, y3⟩ : WatT)] ++ ws.drop a).flatMap watC) :: L) := by
                    rw [hfl, hln]
                    exact ((((S9.p2.drop).p2.drop).p2.drop).p4.drop).p1.b3
                  have HS10 := hide (Sat.modelShut (B := ⟨ws.take a ++ [(⟨y0, y1, y2, y3⟩ : WatT)] ++ ws.drop a, es, nos⟩) S10.mnotesShut)
                  clear S10 S9 S8 S7 S5 hfl hln
                  go_wp2_with fail
                  go_ret
                  exact HR.out _ HE.out _ HS10.out
                exact AllReadyH.nil
              exact AllReadyH.nil
            exact AllReadyH.nil
          exact AllReadyH.nil
        exact AllReadyH.nil

end Go.Proofs.YtbfogieeiobpdaaGreatDoor
