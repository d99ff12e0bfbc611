/- Contracts of the package watch: Read. No condition. -/
import Derived.Test.YtbfogieeiobpdaaGreatDoorBookP
import Derived.Test.YtbfogieeiobpdaaGreatDoorMapE
import Derived.Deep.RegionHeld3
set_option linter.unusedVariables false
set_option linter.unusedSimpArgs false
namespace Go.Proofs.YtbfogieeiobpdaaGreatDoor
open Go.RowKit

theorem lastBad_at {ws : List WatT} {x l : WatT} (h : ws[ws.length - 1]? = some l) : lastBad ws x = decide (0 ≤ ordF l x) := by
  unfold lastBad
  rw [List.getLast?_eq_getElem?, h]
set_option maxRecDepth 100000 in
set_option maxHeartbeats 16000000 in
theorem read_book {g w : World} {L : List Asn} {r : Nat} {x : RS} (S0 : Sat g w (rdA r x :: L)) (hG : GL g) (hm : oldA g ∈ L) :
    Calls Tryz.prog 15 #[ptr r] w fun e w' => ∃ t, e = .returned (ptr t) ∧ Sat g w' (bookA t (readB x).1 :: rdA r (readB x).2 :: L) := by
  have HGL : Hid (∀ {w : World} {L' : List Asn}, Sat g w L' → oldA g ∈ L' → GL w) := fun S h => hG.at S h
  have HM := hide hm
  have HRB : Hid (readB x = (if (nosP (esP (wsP x).2).2).2.2 = true then ⟨[], [], []⟩ else ⟨(wsP x).1, (esP (wsP x).2).1, (nosP (esP (wsP x).2).2).1⟩, (nosP (esP (wsP x).2).2).2)) := rfl
  have HWP : Hid (wsP x = wsR (rn x 40).2 (rn x 40).1.toNat) := rfl
  have hn1 := rn_lo x 40
  have hn2 := rn_hi x 40 (by decide)
  generalize readB x = RB at *
  clear hG hm
  go_enter Tryz.func15, Tryz.ntmps15
  go_wp2_with fail
  refine (new_book S0).mono ?_
  rintro e w1 ⟨t, rfl, S1⟩
  go_wp2_with fail
  refine (s_rnum 40 S1.p1).mono ?_
  rintro e w2 ⟨rfl, S2⟩
  generalize wsP x = WP at *
  generalize rn x 40 = a0 at *
  obtain ⟨n, x0⟩ := a0
  simp only at HWP hn1 hn2 S2 ⊢
  obtain ⟨N, rfl⟩ := Int.eq_ofNat_of_zero_le hn1
  simp only [Int.toNat_natCast] at HWP
  clear S0 S1
  go_wp2_with fail
  go_loopw [13] (fun i wr => ∃ k : Nat, k ≤ N ∧ i = .int .i64 k ∧ Sat g wr (rdA r (wsR x0 k).2 :: bookA t ⟨(wsR x0 k).1, [], []⟩ :: L)) (fun i _ => N + 1 - (RowKit.intOf i).toNat)
  case atStart => exact ⟨0, by omega, rfl, S2⟩
  case round =>
    obtain ⟨k, hk, rfl, S3⟩ := hrel
    have hwl := wsR_len x0 k
    have HST : Hid (wsR x0 (k + 1) = ((wsR x0 k).1 ++ [(watR (wsR x0 k).2).1], if badW (wsR x0 k).1 (watR (wsR x0 k).2).1 = true then fl else (watR (wsR x0 k).2).2)) := rfl
    clear S2
    by_cases hlt : k < N
    · generalize (wsR x0 k).1 = ws at *
      generalize (wsR x0 k).2 = y at *
      subst hwl
      have HE : Hid (watR y = (⟨(rn y 281474976710655).1, (rt (rn y 281474976710655).2 60).1, (rf (rt (rn y 281474976710655).2 60).2).1, (rf (rf (rt (rn y 281474976710655).2 60).2).2).1⟩, (rf (rf (rt (rn y 281474976710655).2 60).2).2).2)) := rfl
      go_wp2_with fail
      refine (s_rnum 281474976710655 S3).mono ?_
      rintro e wq1 ⟨rfl, Q1⟩
      generalize rn y 281474976710655 = a1 at *
      obtain ⟨t1, y1⟩ := a1
      simp only at HE Q1 ⊢
      clear S3
      go_wp2_with fail
      refine (s_rtext 60 Q1).mono ?_
      rintro e wq2 ⟨rfl, Q2⟩
      have hlt2 := rt_len y1 60 (by decide)
      generalize rt y1 60 = a2 at *
      obtain ⟨t2, y2⟩ := a2
      simp only at HE Q2 hlt2 ⊢
      clear Q1
      go_wp2_with fail
      refine (s_rflag Q2).mono ?_
      rintro e wq3 ⟨rfl, Q3⟩
      generalize rf y2 = a3 at *
      obtain ⟨t3, y3⟩ := a3
      simp only at HE Q3 ⊢
      clear Q2
      go_wp2_with fail
      refine (s_rflag Q3).mono ?_
      rintro e wq4 ⟨rfl, Q4⟩
      generalize rf y3 = a4 at *
      obtain ⟨t4, y4⟩ := a4
      simp only at HE Q4 ⊢
      clear Q3
      have HSB : Hid (wsR x0 (ws.length + 1) = (ws ++ [⟨t1, t2, t3, t4⟩], if badW ws ⟨t1, t2, t3, t4⟩ = true then fl else y4)) := hide (by rw [HST.out, HE.out])
      have HBW : Hid (badW ws ⟨t1, t2, t3, t4⟩ = (lastBad ws ⟨t1, t2, t3, t4⟩ || decide (checkF t2 ≠ 0) || decide (t1 < 1))) := rfl
      generalize badW ws ⟨t1, t2, t3, t4⟩ = BD at *
      clear HST HE
      go_upto_region 5 with fail
      have S4 := (Q4.box #[.int .i64 t1, .string (S t2), .bool t3, .bool t4] 96 rfl).p2
      generalize wq4.alloc (.cells #[.int .i64 t1, .string (S t2), .bool t3, .bool t4] 96) = w5 at *
      generalize wq4.heap.size = xb at *
      obtain ⟨wv, S5⟩ := S4.bookOpen
      obtain ⟨ev, m, S6⟩ := S5.notesOpen
      obtain ⟨A, c, rfl, -⟩ := S6.p3.row.form
      have SX : Sat g w5 (cellsA t 99 #[.slice A ws.length c, ev, .map (some m)] :: rowA 74 5 ev 0 [] :: mapA kW kW m [] :: rowA 96 4 (.slice A ws.length c) ws.length (ws.flatMap watC) :: cellsA xb 96 #[.int .i64 t1, .string (S t2), .bool t3, .bool t4] :: rdA r y4 :: L) := S6
      clear Q4 S4 S5 S6
      have c0 := SX.cell 0 _ rfl
      have HX : Hid (∀ (w' : World) (L' : List Asn), Sat g w' L' → cellsA xb 96 #[.int .i64 t1, .string (S t2), .bool t3, .bool t4] ∈ L' → w'.cell? ⟨xb, 0, none⟩ = some (.int .i64 t1) ∧ w'.cell? ⟨xb, 1, none⟩ = some (.string (S t2)) ∧ w'.cell? ⟨xb, 2, none⟩ = some (.bool t3) ∧ w'.cell? ⟨xb, 3, none⟩ = some (.bool t4)) := hide fun w' L' S' h => ⟨S'.cell_of h 0 _ rfl, S'.cell_of h 1 _ rfl, S'.cell_of h 2 _ rfl, S'.cell_of h 3 _ rfl⟩
      obtain ⟨x0', x1', x2', x3'⟩ := HX.out _ _ SX (by simp)
      have hcc := check_cases t2
      have HCH : Hid (∀ (w' : World), GL w' → Calls Tryz.prog 60 #[.string (S t2)] w' fun e w2 => e = .returned (.int .i64 (checkF t2)) ∧ Keeps (fun _ => False) w' w2) := hide fun w' h => check_path w' t2 (by omega) h
      have HKL : Hid (∀ w', Keeps (fun _ => False) w5 w' → GL w') := hide fun w' h => HGL.out (SX.keep h) (by simp [HM.out])
      generalize checkF t2 = C at *
      clear hlt2
      go_upto_region 6 with fail
      by_cases hpos : 0 < ws.length
      · obtain ⟨q, hq⟩ : ∃ q, ws.length = q + 1 := ⟨ws.length - 1, by omega⟩
        have hqi : (ws.length : Int) - 1 = (q : Int) := by omega
        have hql : (q : Int) < (ws.length : Int) := by omega
        have hq0 : (0 : Int) ≤ (q : Int) := by omega
        have hwr : IntKind.i64.wrap (q : Int) = (q : Int) := IntWalk.i64_in _ ⟨by omega, by omega⟩
        have hposb : (0 : Int) < (ws.length : Int) := by omega
        obtain ⟨ad, l, rfl, hx, d0, d1, d2, d3⟩ := wat_at SX.p3.srcR (k := q) (by omega)
        have HLB : Hid (lastBad ws ⟨t1, t2, t3, t4⟩ = decide (0 ≤ ordF l ⟨t1, t2, t3, t4⟩)) := hide (lastBad_at (by rw [hq]; exact hx))
        have HORD : Hid (∀ w', Calls Tryz.prog 59 #[watV l, watV ⟨t1, t2, t3, t4⟩] w' fun e w2 => e = .returned (.int .i64 (ordF l ⟨t1, t2, t3, t4⟩)) ∧ Keeps (fun _ => False) w' w2) := hide fun w' => order_watch w' l ⟨t1, t2, t3, t4⟩
        generalize ordF l ⟨t1, t2, t3, t4⟩ = OR at *
        obtain ⟨l1, l2, l3, l4⟩ := l
        simp only at d0 d1 d2 d3
        simp only [watV] at HORD
        have HSW : Hid (∀ w', Keeps (fun _ => False) w5 w' → w'.cell? ⟨t, 0, none⟩ = some (.slice (some ad) ws.length c) ∧ w'.cell? (ad.add (q * 4)) = some (.int .i64 l1) ∧ w'.cell? ⟨(ad.add (q * 4)).block, (ad.add (q * 4)).off + 1, none⟩ = some (.string (S l2)) ∧ w'.cell? ⟨(ad.add (q * 4)).block, (ad.add (q * 4)).off + 2, none⟩ = some (.bool l3) ∧ w'.cell? ⟨(ad.add (q * 4)).block, (ad.add (q * 4)).off + 3, none⟩ = some (.bool l4) ∧ w'.cell? ⟨xb, 0, none⟩ = some (.int .i64 t1) ∧ w'.cell? ⟨xb, 1, none⟩ = some (.string (S t2)) ∧ w'.cell? ⟨xb, 2, none⟩ = some (.bool t3) ∧ w'.cell? ⟨xb, 3, none⟩ = some (.bool t4)) := hide fun w' h => ⟨h.cell c0 (fun h => h), h.cell d0 (fun h => h), h.cell d1 (fun h => h), h.cell d2 (fun h => h), h.cell d3 (fun h => h), h.cell x0' (fun h => h), h.cell x1' (fun h => h), h.cell x2' (fun h => h), h.cell x3' (fun h => h)⟩
        clear hx hq
        by_cases hor : 0 ≤ OR
        · have hbd : BD = true := by rw [HBW.out, HLB.out]; simp [hor]
          subst hbd
          clear HBW HLB
          refine wp_region_held_drew (S := fun w' => w'.cell? ⟨t, 0, none⟩ = some (.slice (some ad) ws.length c) ∧ w'.cell? (ad.add (q * 4)) = some (.int .i64 l1) ∧ w'.cell? ⟨(ad.add (q * 4)).block, (ad.add (q * 4)).off + 1, none⟩ = some (.string (S l2)) ∧ w'.cell? ⟨(ad.add (q * 4)).block, (ad.add (q * 4)).off + 2, none⟩ = some (.bool l3) ∧ w'.cell? ⟨(ad.add (q * 4)).block, (ad.add (q * 4)).off + 3, none⟩ = some (.bool l4) ∧ w'.cell? ⟨xb, 0, none⟩ = some (.int .i64 t1) ∧ w'.cell? ⟨xb, 1, none⟩ = some (.string (S t2)) ∧ w'.cell? ⟨xb, 2, none⟩ = some (.bool t3) ∧ w'.cell? ⟨xb, 3, none⟩ = some (.bool t4)) (by kernel_rfl) ?_ (fun hHeld => ?_)
          · exact HSW.out _ (((Keeps.refl (fun _ => False) w5).drew))
          refine wpAnyH_take (i := 0) (oi := _) (v := ?_) rfl (by kernel_rfl) (by kernel_rfl) (by kernel_rfl) (fun _ _ _ h => h) (Or.inl ⟨by rfl, ?_⟩) hHeld ?_
          rotate_left
          · intro w' hSw
            (try dsimp only at hSw)
            go_simp
            try with_reducible rfl
          try simp only [Act.put, List.setIfInBounds_toArray, List.set_cons_zero, List.set_cons_succ, List.getElem_toArray, List.getElem_cons_zero, List.getElem_cons_succ]
          refine wpAnyH_take (i := 1) (oi := _) (v := ?_) rfl (by kernel_rfl) (by kernel_rfl) (by kernel_rfl) (fun _ _ _ h => h) (Or.inl ⟨by rfl, ?_⟩) hHeld ?_
          rotate_left
          · intro w' hSw
            (try dsimp only at hSw)
            go_simp
            try with_reducible rfl
          try simp only [Act.put, List.setIfInBounds_toArray, List.set_cons_zero, List.set_cons_succ, List.getElem_toArray, List.getElem_cons_zero, List.getElem_cons_succ]
          refine wpAnyH_take (i := 2) (oi := _) (v := ?_) rfl (by kernel_rfl) (by kernel_rfl) (by kernel_rfl) (fun _ _ _ h => h) (Or.inl ⟨by rfl, ?_⟩) hHeld ?_
          rotate_left
          · intro w' hSw
            (try dsimp only at hSw)
            go_simp
            try with_reducible rfl
          try simp only [Act.put, List.setIfInBounds_toArray, List.set_cons_zero, List.set_cons_succ, List.getElem_toArray, List.getElem_cons_zero, List.getElem_cons_succ]
          refine wpAnyH_take (i := 3) (oi := _) (v := ?_) rfl (by kernel_rfl) (by kernel_rfl) (by kernel_rfl) (fun _ _ _ h => h) (Or.inl ⟨by rfl, ?_⟩) hHeld ?_
          rotate_left
          · intro w' hSw
            (try dsimp only at hSw)
            go_simp
            try with_reducible rfl
          try simp only [Act.put, List.setIfInBounds_toArray, List.set_cons_zero, List.set_cons_succ, List.getElem_toArray, List.getElem_cons_zero, List.getElem_cons_succ]
          refine wpAnyH_take (i := 4) (oi := _) (v := ?_) rfl (by kernel_rfl) (by kernel_rfl) (by kernel_rfl) (fun _ _ _ h => h) (Or.inl ⟨by rfl, ?_⟩) hHeld ?_
          rotate_left
          · intro w' hSw
            (try dsimp only at hSw)
            go_simp
            try with_reducible rfl
          try simp only [Act.put, List.setIfInBounds_toArray, List.set_cons_zero, List.set_cons_succ, List.getElem_toArray, List.getElem_cons_zero, List.getElem_cons_succ]
          refine wpAnyH_take (i := 5) (oi := _) (v := ?_) rfl (by kernel_rfl) (by kernel_rfl) (by kernel_rfl) (fun _ _ _ h => h) (Or.inl ⟨by rfl, ?_⟩) hHeld ?_
          rotate_left
          · intro w' hSw
            (try dsimp only at hSw)
            go_simp
            try with_reducible rfl
          try simp only [Act.put, List.setIfInBounds_toArray, List.set_cons_zero, List.set_cons_succ, List.getElem_toArray, List.getElem_cons_zero, List.getElem_cons_succ]
          refine wpAnyH_take (i := 6) (oi := _) (v := ?_) rfl (by kernel_rfl) (by kernel_rfl) (by kernel_rfl) (fun _ _ _ h => h) (Or.inl ⟨by rfl, ?_⟩) hHeld ?_
          rotate_left
          · intro w' hSw
            (try dsimp only at hSw)
            go_simp
            try with_reducible rfl
          try simp only [Act.put, List.setIfInBounds_toArray, List.set_cons_zero, List.set_cons_succ, List.getElem_toArray, List.getElem_cons_zero, List.getElem_cons_succ]
          refine wpAnyH_take (i := 7) (oi := _) (v := ?_) rfl (by kernel_rfl) (by kernel_rfl) (by kernel_rfl) (fun _ _ _ h => h) (Or.inl ⟨by rfl, ?_⟩) hHeld ?_
          rotate_left
          · intro w' hSw
            (try dsimp only at hSw)
            go_simp
            try with_reducible rfl
          try simp only [Act.put, List.setIfInBounds_toArray, List.set_cons_zero, List.set_cons_succ, List.getElem_toArray, List.getElem_cons_zero, List.getElem_cons_succ]
          refine wpAnyH_take (i := 8) (oi := _) (v := ?_) rfl (by kernel_rfl) (by kernel_rfl) (by kernel_rfl) (fun _ _ _ h => h) (Or.inl ⟨by rfl, ?_⟩) hHeld ?_
          rotate_left
          · intro w' hSw
            (try dsimp only at hSw)
            go_simp
            try with_reducible rfl
          try simp only [Act.put, List.setIfInBounds_toArray, List.set_cons_zero, List.set_cons_succ, List.getElem_toArray, List.getElem_cons_zero, List.getElem_cons_succ]
          refine wpAnyH_take (i := 9) (oi := _) (v := ?_) rfl (by kernel_rfl) (by kernel_rfl) (by kernel_rfl) (fun _ _ _ h => h) (Or.inl ⟨by rfl, ?_⟩) hHeld ?_
          rotate_left
          · intro w' hSw
            (try dsimp only at hSw)
            go_simp
            try with_reducible rfl
          try simp only [Act.put, List.setIfInBounds_toArray, List.set_cons_zero, List.set_cons_succ, List.getElem_toArray, List.getElem_cons_zero, List.getElem_cons_succ]
          refine wpAnyH_take (i := 10) (oi := _) (v := ?_) rfl (by kernel_rfl) (by kernel_rfl) (by kernel_rfl) (fun _ _ _ h => h) (Or.inl ⟨by rfl, ?_⟩) hHeld ?_
          rotate_left
          · intro w' hSw
            (try dsimp only at hSw)
            go_simp
            try with_reducible rfl
          try simp only [Act.put, List.setIfInBounds_toArray, List.set_cons_zero, List.set_cons_succ, List.getElem_toArray, List.getElem_cons_zero, List.getElem_cons_succ]
          refine wpAnyH_take (i := 11) (oi := _) (v := ?_) rfl (by kernel_rfl) (by kernel_rfl) (by kernel_rfl) (fun _ _ _ h => h) (Or.inl ⟨by rfl, ?_⟩) hHeld ?_
          rotate_left
          · intro w' hSw
            (try dsimp only at hSw)
            go_simp
            try with_reducible rfl
          try simp only [Act.put, List.setIfInBounds_toArray, List.set_cons_zero, List.set_cons_succ, List.getElem_toArray, List.getElem_cons_zero, List.getElem_cons_succ]
          refine wpAnyH_ready (rs := [12]) (by kernel_rfl) (by simp) ?_
          refine AllReadyH.cons rfl (fun K hK => ?_) ?_
          · go_simp
            go_at_call 59
            refine (HORD.out _).mono ?_
            rintro e w6 ⟨rfl, hk6⟩
            have K6 := (((Keeps.refl (fun _ => False) w5).drew)).trans' hk6
            have HQ6 := HSW.out _ K6
            refine hK.out _ _ ?_ (fun hHeld => ?_)
            · exact HSW.out _ K6
            clear hK K
            try simp only [Act.put, List.setIfInBounds_toArray, List.set_cons_zero, List.set_cons_succ, List.getElem_toArray, List.getElem_cons_zero, List.getElem_cons_succ]
            refine wpAnyH_take (i := 13) (oi := _) (v := ?_) rfl (by kernel_rfl) (by kernel_rfl) (by kernel_rfl) (fun _ _ _ h => h) (Or.inl ⟨by rfl, ?_⟩) hHeld ?_
            rotate_left
            · intro w' hSw
              (try dsimp only at hSw)
              go_simp
              try with_reducible rfl
            try simp only [Act.put, List.setIfInBounds_toArray, List.set_cons_zero, List.set_cons_succ, List.getElem_toArray, List.getElem_cons_zero, List.getElem_cons_succ]
            refine wpAnyH_take (i := 14) (oi := _) (v := ?_) rfl (by kernel_rfl) (by kernel_rfl) (by kernel_rfl) (fun _ _ _ h => h) (Or.inl ⟨by rfl, ?_⟩) hHeld ?_
            rotate_left
            · intro w' hSw
              (try dsimp only at hSw)
              go_simp
              try with_reducible rfl
            try simp only [Act.put, List.setIfInBounds_toArray, List.set_cons_zero, List.set_cons_succ, List.getElem_toArray, List.getElem_cons_zero, List.getElem_cons_succ]
            refine wpAnyH_take (i := 15) (oi := _) (v := ?_) rfl (by kernel_rfl) (by kernel_rfl) (by kernel_rfl) (fun _ _ _ h => h) (Or.inl ⟨by rfl, ?_⟩) hHeld ?_
            rotate_left
            · intro w' hSw
              (try dsimp only at hSw)
              go_simp
              try with_reducible rfl
            try simp only [Act.put, List.setIfInBounds_toArray, List.set_cons_zero, List.set_cons_succ, List.getElem_toArray, List.getElem_cons_zero, List.getElem_cons_succ]
            refine wpAnyH_take (i := 16) (oi := _) (v := undef) rfl (by kernel_rfl) (by kernel_rfl) (by kernel_rfl) (fun _ _ _ h => h) (Or.inr ⟨by rfl, rfl⟩) hHeld ?_
            try simp only [Act.put, List.setIfInBounds_toArray, List.set_cons_zero, List.set_cons_succ, List.getElem_toArray, List.getElem_cons_zero, List.getElem_cons_succ]
            refine wpAnyH_take (i := 17) (oi := _) (v := undef) rfl (by kernel_rfl) (by kernel_rfl) (by kernel_rfl) (fun _ _ _ h => h) (Or.inr ⟨by rfl, rfl⟩) hHeld ?_
            try simp only [Act.put, List.setIfInBounds_toArray, List.set_cons_zero, List.set_cons_succ, List.getElem_toArray, List.getElem_cons_zero, List.getElem_cons_succ]
            refine wpAnyH_take (i := 18) (oi := _) (v := undef) rfl (by kernel_rfl) (by kernel_rfl) (by kernel_rfl) (fun _ _ _ h => h) (Or.inr ⟨by rfl, rfl⟩) hHeld ?_
            try simp only [Act.put, List.setIfInBounds_toArray, List.set_cons_zero, List.set_cons_succ, List.getElem_toArray, List.getElem_cons_zero, List.getElem_cons_succ]
            refine wpAnyH_take (i := 19) (oi := _) (v := undef) rfl (by kernel_rfl) (by kernel_rfl) (by kernel_rfl) (fun _ _ _ h => h) (Or.inr ⟨by rfl, rfl⟩) hHeld ?_
            try simp only [Act.put, List.setIfInBounds_toArray, List.set_cons_zero, List.set_cons_succ, List.getElem_toArray, List.getElem_cons_zero, List.getElem_cons_succ]
            refine wpAnyH_take (i := 20) (oi := _) (v := ?_) rfl (by kernel_rfl) (by kernel_rfl) (by kernel_rfl) (fun _ _ _ h => h) (Or.inl ⟨by rfl, ?_⟩) hHeld ?_
            rotate_left
            · intro w' hSw
              (try dsimp only at hSw)
              go_simp
              try with_reducible rfl
            try simp only [Act.put, List.setIfInBounds_toArray, List.set_cons_zero, List.set_cons_succ, List.getElem_toArray, List.getElem_cons_zero, List.getElem_cons_succ]
            refine wpAnyH_take (i := 21) (oi := _) (v := ?_) rfl (by kernel_rfl) (by kernel_rfl) (by kernel_rfl) (fun _ _ _ h => h) (Or.inl ⟨by rfl, ?_⟩) hHeld ?_
            rotate_left
            · intro w' hSw
              (try dsimp only at hSw)
              go_simp
              try with_reducible rfl
            try simp only [Act.put, List.setIfInBounds_toArray, List.set_cons_zero, List.set_cons_succ, List.getElem_toArray, List.getElem_cons_zero, List.getElem_cons_succ]
            refine wpAnyH_take (i := 22) (oi := _) (v := undef) rfl (by kernel_rfl) (by kernel_rfl) (by kernel_rfl) (fun _ _ _ h => h) (Or.inr ⟨by rfl, rfl⟩) hHeld ?_
            try simp only [Act.put, List.setIfInBounds_toArray, List.set_cons_zero, List.set_cons_succ, List.getElem_toArray, List.getElem_cons_zero, List.getElem_cons_succ]
            refine wpAnyH_take (i := 23) (oi := _) (v := undef) rfl (by kernel_rfl) (by kernel_rfl) (by kernel_rfl) (fun _ _ _ h => h) (Or.inr ⟨by rfl, rfl⟩) hHeld ?_
            try simp only [Act.put, List.setIfInBounds_toArray, List.set_cons_zero, List.set_cons_succ, List.getElem_toArray, List.getElem_cons_zero, List.getElem_cons_succ]
            refine wpAnyH_take (i := 24) (oi := _) (v := undef) rfl (by kernel_rfl) (by kernel_rfl) (by kernel_rfl) (fun _ _ _ h => h) (Or.inr ⟨by rfl, rfl⟩) hHeld ?_
            try simp only [Act.put, List.setIfInBounds_toArray, List.set_cons_zero, List.set_cons_succ, List.getElem_toArray, List.getElem_cons_zero, List.getElem_cons_succ]
            refine wpAnyH_take (i := 25) (oi := _) (v := ?_) rfl (by kernel_rfl) (by kernel_rfl) (by kernel_rfl) (fun _ _ _ h => h) (Or.inl ⟨by rfl, ?_⟩) hHeld ?_
            rotate_left
            · intro w' hSw
              (try dsimp only at hSw)
              go_simp
              try with_reducible rfl
            try simp only [Act.put, List.setIfInBounds_toArray, List.set_cons_zero, List.set_cons_succ, List.getElem_toArray, List.getElem_cons_zero, List.getElem_cons_succ]
            refine wpAnyH_done (by kernel_rfl) ?_ _
            have S7 := SX.keep (K6)
            clear SX HSW HCH HKL c0 x0' x1' x2' x3' HORD d0 d1 d2 d3
            go_wp2_with fail
            refine (s_rfail S7.p5).mono ?_
            rintro e w8 ⟨rfl, S7b⟩
            have S8 := S7b.b5
            clear S7 S7b
            have HSTP : Hid (wsR x0 (ws.length + 1) = (ws ++ [⟨t1, t2, t3, t4⟩], fl)) := hide (by rw [HSB.out]; first | rfl | simp)
            obtain ⟨yy, hyy⟩ : ∃ z : RS, z = fl := ⟨_, rfl⟩
            rw [← hyy] at S8 HSTP
            clear hyy HSB
            have k0 := S8.cell 0 _ rfl
            have k2 := (S8.box #[.int .i64 t1, .string (S t2), .bool t3, .bool t4] 96 rfl).p1.cell 0 _ rfl
            have HQ8 := HX.out _ _ S8 (by simp)
            obtain ⟨z0, z1, z2, z3⟩ := HQ8
            go_upto_region 8 with fail
            refine wp_region_held_drew (S := fun w' => w'.cell? ⟨xb, 0, none⟩ = some (.int .i64 t1) ∧ w'.cell? ⟨xb, 1, none⟩ = some (.string (S t2)) ∧ w'.cell? ⟨xb, 2, none⟩ = some (.bool t3) ∧ w'.cell? ⟨xb, 3, none⟩ = some (.bool t4)) (by kernel_rfl) ?_ (fun hHeld => ?_)
            · exact HX.out _ _ S8.drew (by simp)
            refine wpAnyH_take (i := 0) (oi := _) (v := ?_) rfl (by kernel_rfl) (by kernel_rfl) (by kernel_rfl) (fun _ _ _ h => h) (Or.inl ⟨by rfl, ?_⟩) hHeld ?_
            rotate_left
            · intro w' hSw
              (try dsimp only at hSw)
              go_simp
              try with_reducible rfl
            try simp only [Act.put, List.setIfInBounds_toArray, List.set_cons_zero, List.set_cons_succ, List.getElem_toArray, List.getElem_cons_zero, List.getElem_cons_succ]
            refine wpAnyH_take (i := 1) (oi := _) (v := ?_) rfl (by kernel_rfl) (by kernel_rfl) (by kernel_rfl) (fun _ _ _ h => h) (Or.inl ⟨by rfl, ?_⟩) hHeld ?_
            rotate_left
            · intro w' hSw
              (try dsimp only at hSw)
              go_simp
              try with_reducible rfl
            try simp only [Act.put, List.setIfInBounds_toArray, List.set_cons_zero, List.set_cons_succ, List.getElem_toArray, List.getElem_cons_zero, List.getElem_cons_succ]
            refine wpAnyH_take (i := 2) (oi := _) (v := ?_) rfl (by kernel_rfl) (by kernel_rfl) (by kernel_rfl) (fun _ _ _ h => h) (Or.inl ⟨by rfl, ?_⟩) hHeld ?_
            rotate_left
            · intro w' hSw
              (try dsimp only at hSw)
              go_simp
              try with_reducible rfl
            try simp only [Act.put, List.setIfInBounds_toArray, List.set_cons_zero, List.set_cons_succ, List.getElem_toArray, List.getElem_cons_zero, List.getElem_cons_succ]
            refine wpAnyH_take (i := 3) (oi := _) (v := ?_) rfl (by kernel_rfl) (by kernel_rfl) (by kernel_rfl) (fun _ _ _ h => h) (Or.inl ⟨by rfl, ?_⟩) hHeld ?_
            rotate_left
            · intro w' hSw
              (try dsimp only at hSw)
              go_simp
              try with_reducible rfl
            try simp only [Act.put, List.setIfInBounds_toArray, List.set_cons_zero, List.set_cons_succ, List.getElem_toArray, List.getElem_cons_zero, List.getElem_cons_succ]
            refine wpAnyH_take (i := 5) (oi := _) (v := ?_) rfl (by kernel_rfl) (by kernel_rfl) (by kernel_rfl) (fun _ _ _ h => h) (Or.inl ⟨by rfl, ?_⟩) hHeld ?_
            rotate_left
            · intro w' hSw
              (try dsimp only at hSw)
              go_simp
              try with_reducible rfl
            try simp only [Act.put, List.setIfInBounds_toArray, List.set_cons_zero, List.set_cons_succ, List.getElem_toArray, List.getElem_cons_zero, List.getElem_cons_succ]
            refine wpAnyH_ready (rs := [4, 6]) (by kernel_rfl) (by simp) ?_
            refine AllReadyH.cons rfl (fun K hK => ?_) ?_
            · go_simp
              refine hK.out _ _ ?_ (fun hHeld => ?_)
              · exact HX.out _ _ S8.drew (by simp)
              clear hK K
              try simp only [Act.put, List.setIfInBounds_toArray, List.set_cons_zero, List.set_cons_succ, List.getElem_toArray, List.getElem_cons_zero, List.getElem_cons_succ]
              refine wpAnyH_ready (rs := [6]) (by kernel_rfl) (by simp) ?_
              refine AllReadyH.cons rfl (fun K hK => ?_) ?_
              · go_simp
                refine hK.out _ _ ?_ (fun hHeld => ?_)
                · exact HX.out _ _ (S8.box #[.int .i64 t1, .string (S t2), .bool t3, .bool t4] 96 rfl).drew (by simp)
                clear hK K
                try simp only [Act.put, List.setIfInBounds_toArray, List.set_cons_zero, List.set_cons_succ, List.getElem_toArray, List.getElem_cons_zero, List.getElem_cons_succ]
                refine wpAnyH_ready (rs := [7]) (by kernel_rfl) (by simp) ?_
                refine AllReadyH.cons rfl (fun K hK => ?_) ?_
                · refine step_app slW rfl (.tmp 61) (.tmp 63) rfl (g := g) (S := ((S8.box #[.int .i64 t1, .string (S t2), .bool t3, .bool t4] 96 rfl).drew).p4) (by go_simp) (c := 1) (Src.block (heap_alloc_new _ _) 4 1 rfl) (by go_simp) (by simp [Value.oneCell']) (by unfold maxLen; omega) (by omega) ?_
                  intro A8 c8 w10 S10
                  have k0 := S10.p2.cell 0 _ rfl
                  have k1 := S10.p2.cells_fz 0
                  have HQ10 := HX.out _ _ S10 (by simp)
                  refine hK.out _ _ ?_ (fun hHeld => ?_)
                  · exact HX.out _ _ S10 (by simp)
                  clear hK K
                  try simp only [Act.put, List.setIfInBounds_toArray, List.set_cons_zero, List.set_cons_succ, List.getElem_toArray, List.getElem_cons_zero, List.getElem_cons_succ]
                  refine wpAnyH_take (i := 8) (oi := _) (v := ?_) rfl (by kernel_rfl) (by kernel_rfl) (by kernel_rfl) (fun _ _ _ h => h) (Or.inl ⟨by rfl, ?_⟩) hHeld ?_
                  rotate_left
                  · intro w' hSw
                    (try dsimp only at hSw)
                    go_simp
                    try with_reducible rfl
                  try simp only [Act.put, List.setIfInBounds_toArray, List.set_cons_zero, List.set_cons_succ, List.getElem_toArray, List.getElem_cons_zero, List.getElem_cons_succ]
                  refine wpAnyH_take (i := 9) (oi := _) (v := ?_) rfl (by kernel_rfl) (by kernel_rfl) (by kernel_rfl) (fun _ _ _ h => h) (Or.inl ⟨by rfl, ?_⟩) hHeld ?_
                  rotate_left
                  · intro w' hSw
                    (try dsimp only at hSw)
                    go_simp
                    try with_reducible rfl
                  try simp only [Act.put, List.setIfInBounds_toArray, List.set_cons_zero, List.set_cons_succ, List.getElem_toArray, List.getElem_cons_zero, List.getElem_cons_succ]
                  refine wpAnyH_ready (rs := [10]) (by kernel_rfl) (by simp) ?_
                  refine AllReadyH.cons rfl (fun K hK => ?_) ?_
                  · go_simp
                    refine hK.out _ _ ?_ (fun hHeld => ?_)
                    · exact HX.out _ _ (S10.p2.setc 0 _) (by simp)
                    clear hK K
                    try simp only [Act.put, List.setIfInBounds_toArray, List.set_cons_zero, List.set_cons_succ, List.getElem_toArray, List.getElem_cons_zero, List.getElem_cons_succ]
                    refine wpAnyH_done (by kernel_rfl) ?_ _
                    have S11 := (S10.p2.setc 0 (.slice A8 (ws.length + 1) c8)).p2.drop.p4.drop.p1.b3
                    have S12 : Sat g (w10.setCell ⟨t, 0, none⟩ (.slice A8 (ws.length + 1) c8)) (cellsA t 99 #[.slice A8 (ws ++ [(⟨t1, t2, t3, t4⟩ : WatT)]).length c8, ev, .map (some m)] :: rowA 74 5 ev 0 [] :: mapA kW kW m [] :: rowA 96 4 (.slice A8 (ws ++ [(⟨t1, t2, t3, t4⟩ : WatT)]).length c8) (ws ++ [(⟨t1, t2, t3, t4⟩ : WatT)]).length ((ws ++ [(⟨t1, t2, t3, t4⟩ : WatT)]).flatMap watC) :: rdA r yy :: L) := by
                      rw [List.length_append, List.length_singleton, List.flatMap_append, List.flatMap_singleton]
                      exact S11
                    have HS12 := hide (((S12.notesShut (es := [])).bookShut (B := ⟨ws ++ [⟨t1, t2, t3, t4⟩], [], []⟩)).p1)
                    clear S8 S10 S11 S12
                    go_wp2_with fail
                    go_roundw
                    case rel => exact ⟨ws.length + 1, by omega, (by first | rfl | go_num), by rw [HSTP.out]; exact HS12.out⟩
                    case measure => simp [RowKit.intOf] <;> omega
                  exact AllReadyH.nil
                exact AllReadyH.nil
              exact AllReadyH.nil
            refine AllReadyH.cons rfl (fun K hK => ?_) ?_
            · go_simp
              refine hK.out _ _ ?_ (fun hHeld => ?_)
              · exact HX.out _ _ (S8.box #[.int .i64 t1, .string (S t2), .bool t3, .bool t4] 96 rfl).drew (by simp)
              clear hK K
              try simp only [Act.put, List.setIfInBounds_toArray, List.set_cons_zero, List.set_cons_succ, List.getElem_toArray, List.getElem_cons_zero, List.getElem_cons_succ]
              refine wpAnyH_ready (rs := [4]) (by kernel_rfl) (by simp) ?_
              refine AllReadyH.cons rfl (fun K hK => ?_) ?_
              · go_simp
                refine hK.out _ _ ?_ (fun hHeld => ?_)
                · exact HX.out _ _ (S8.box #[.int .i64 t1, .string (S t2), .bool t3, .bool t4] 96 rfl).drew (by simp)
                clear hK K
                try simp only [Act.put, List.setIfInBounds_toArray, List.set_cons_zero, List.set_cons_succ, List.getElem_toArray, List.getElem_cons_zero, List.getElem_cons_succ]
                refine wpAnyH_ready (rs := [7]) (by kernel_rfl) (by simp) ?_
                refine AllReadyH.cons rfl (fun K hK => ?_) ?_
                · refine step_app slW rfl (.tmp 61) (.tmp 63) rfl (g := g) (S := ((S8.box #[.int .i64 t1, .string (S t2), .bool t3, .bool t4] 96 rfl).drew).p4) (by go_simp) (c := 1) (Src.block (heap_alloc_new _ _) 4 1 rfl) (by go_simp) (by simp [Value.oneCell']) (by unfold maxLen; omega) (by omega) ?_
                  intro A8 c8 w10 S10
                  have k0 := S10.p2.cell 0 _ rfl
                  have k1 := S10.p2.cells_fz 0
                  have HQ10 := HX.out _ _ S10 (by simp)
                  refine hK.out _ _ ?_ (fun hHeld => ?_)
                  · exact HX.out _ _ S10 (by simp)
                  clear hK K
                  try simp only [Act.put, List.setIfInBounds_toArray, List.set_cons_zero, List.set_cons_succ, List.getElem_toArray, List.getElem_cons_zero, List.getElem_cons_succ]
                  refine wpAnyH_take (i := 8) (oi := _) (v := ?_) rfl (by kernel_rfl) (by kernel_rfl) (by kernel_rfl) (fun _ _ _ h => h) (Or.inl ⟨by rfl, ?_⟩) hHeld ?_
                  rotate_left
                  · intro w' hSw
                    (try dsimp only at hSw)
                    go_simp
                    try with_reducible rfl
                  try simp only [Act.put, List.setIfInBounds_toArray, List.set_cons_zero, List.set_cons_succ, List.getElem_toArray, List.getElem_cons_zero, List.getElem_cons_succ]
                  refine wpAnyH_take (i := 9) (oi := _) (v := ?_) rfl (by kernel_rfl) (by kernel_rfl) (by kernel_rfl) (fun _ _ _ h => h) (Or.inl ⟨by rfl, ?_⟩) hHeld ?_
                  rotate_left
                  · intro w' hSw
                    (try dsimp only at hSw)
                    go_simp
                    try with_reducible rfl
                  try simp only [Act.put, List.setIfInBounds_toArray, List.set_cons_zero, List.set_cons_succ, List.getElem_toArray, List.getElem_cons_zero, List.getElem_cons_succ]
                  refine wpAnyH_ready (rs := [10]) (by kernel_rfl) (by simp) ?_
                  refine AllReadyH.cons rfl (fun K hK => ?_) ?_
                  · go_simp
                    refine hK.out _ _ ?_ (fun hHeld => ?_)
                    · exact HX.out _ _ (S10.p2.setc 0 _) (by simp)
                    clear hK K
                    try simp only [Act.put, List.setIfInBounds_toArray, List.set_cons_zero, List.set_cons_succ, List.getElem_toArray, List.getElem_cons_zero, List.getElem_cons_succ]
                    refine wpAnyH_done (by kernel_rfl) ?_ _
                    have S11 := (S10.p2.setc 0 (.slice A8 (ws.length + 1) c8)).p2.drop.p4.drop.p1.b3
                    have S12 : Sat g (w10.setCell ⟨t, 0, none⟩ (.slice A8 (ws.length + 1) c8)) (cellsA t 99 #[.slice A8 (ws ++ [(⟨t1, t2, t3, t4⟩ : WatT)]).length c8, ev, .map (some m)] :: rowA 74 5 ev 0 [] :: mapA kW kW m [] :: rowA 96 4 (.slice A8 (ws ++ [(⟨t1, t2, t3, t4⟩ : WatT)]).length c8) (ws ++ [(⟨t1, t2, t3, t4⟩ : WatT)]).length ((ws ++ [(⟨t1, t2, t3, t4⟩ : WatT)]).flatMap watC) :: rdA r yy :: L) := by
                      rw [List.length_append, List.length_singleton, List.flatMap_append, List.flatMap_singleton]
                      exact S11
                    have HS12 := hide (((S12.notesShut (es := [])).bookShut (B := ⟨ws ++ [⟨t1, t2, t3, t4⟩], [], []⟩)).p1)
                    clear S8 S10 S11 S12
                    go_wp2_with fail
                    go_roundw
                    case rel => exact ⟨ws.length + 1, by omega, (by first | rfl | go_num), by rw [HSTP.out]; exact HS12.out⟩
                    case measure => simp [RowKit.intOf] <;> omega
                  exact AllReadyH.nil
                exact AllReadyH.nil
              exact AllReadyH.nil
            exact AllReadyH.nil
          exact AllReadyH.nil

        · have hor2 : ¬ (0 ≤ OR) := hor
          have horb : decide (0 ≤ OR) = false := by simpa using hor
          rcases hcc with rfl | rfl
          · by_cases ht : t1 < 1
            · have hbd : BD = true := by rw [HBW.out, HLB.out]; simp [ht]
              subst hbd
              clear HBW HLB
              refine wp_region_held_drew (S := fun w' => w'.cell? ⟨t, 0, none⟩ = some (.slice (some ad) ws.length c) ∧ w'.cell? (ad.add (q * 4)) = some (.int .i64 l1) ∧ w'.cell? ⟨(ad.add (q * 4)).block, (ad.add (q * 4)).off + 1, none⟩ = some (.string (S l2)) ∧ w'.cell? ⟨(ad.add (q * 4)).block, (ad.add (q * 4)).off + 2, none⟩ = some (.bool l3) ∧ w'.cell? ⟨(ad.add (q * 4)).block, (ad.add (q * 4)).off + 3, none⟩ = some (.bool l4) ∧ w'.cell? ⟨xb, 0, none⟩ = some (.int .i64 t1) ∧ w'.cell? ⟨xb, 1, none⟩ = some (.string (S t2)) ∧ w'.cell? ⟨xb, 2, none⟩ = some (.bool t3) ∧ w'.cell? ⟨xb, 3, none⟩ = some (.bool t4)) (by kernel_rfl) ?_ (fun hHeld => ?_)
              · exact HSW.out _ (((Keeps.refl (fun _ => False) w5).drew))
              refine wpAnyH_take (i := 0) (oi := _) (v := ?_) rfl (by kernel_rfl) (by kernel_rfl) (by kernel_rfl) (fun _ _ _ h => h) (Or.inl ⟨by rfl, ?_⟩) hHeld ?_
              rotate_left
              · intro w' hSw
                (try dsimp only at hSw)
                go_simp
                try with_reducible rfl
              try simp only [Act.put, List.setIfInBounds_toArray, List.set_cons_zero, List.set_cons_succ, List.getElem_toArray, List.getElem_cons_zero, List.getElem_cons_succ]
              refine wpAnyH_take (i := 1) (oi := _) (v := ?_) rfl (by kernel_rfl) (by kernel_rfl) (by kernel_rfl) (fun _ _ _ h => h) (Or.inl ⟨by rfl, ?_⟩) hHeld ?_
              rotate_left
              · intro w' hSw
                (try dsimp only at hSw)
                go_simp
                try with_reducible rfl
              try simp only [Act.put, List.setIfInBounds_toArray, List.set_cons_zero, List.set_cons_succ, List.getElem_toArray, List.getElem_cons_zero, List.getElem_cons_succ]
              refine wpAnyH_take (i := 2) (oi := _) (v := ?_) rfl (by kernel_rfl) (by kernel_rfl) (by kernel_rfl) (fun _ _ _ h => h) (Or.inl ⟨by rfl, ?_⟩) hHeld ?_
              rotate_left
              · intro w' hSw
                (try dsimp only at hSw)
                go_simp
                try with_reducible rfl
              try simp only [Act.put, List.setIfInBounds_toArray, List.set_cons_zero, List.set_cons_succ, List.getElem_toArray, List.getElem_cons_zero, List.getElem_cons_succ]
              refine wpAnyH_take (i := 3) (oi := _) (v := ?_) rfl (by kernel_rfl) (by kernel_rfl) (by kernel_rfl) (fun _ _ _ h => h) (Or.inl ⟨by rfl, ?_⟩) hHeld ?_
              rotate_left
              · intro w' hSw
                (try dsimp only at hSw)
                go_simp
                try with_reducible rfl
              try simp only [Act.put, List.setIfInBounds_toArray, List.set_cons_zero, List.set_cons_succ, List.getElem_toArray, List.getElem_cons_zero, List.getElem_cons_succ]
              refine wpAnyH_take (i := 4) (oi := _) (v := ?_) rfl (by kernel_rfl) (by kernel_rfl) (by kernel_rfl) (fun _ _ _ h => h) (Or.inl ⟨by rfl, ?_⟩) hHeld ?_
              rotate_left
              · intro w' hSw
                (try dsimp only at hSw)
                go_simp
                try with_reducible rfl
              try simp only [Act.put, List.setIfInBounds_toArray, List.set_cons_zero, List.set_cons_succ, List.getElem_toArray, List.getElem_cons_zero, List.getElem_cons_succ]
              refine wpAnyH_take (i := 5) (oi := _) (v := ?_) rfl (by kernel_rfl) (by kernel_rfl) (by kernel_rfl) (fun _ _ _ h => h) (Or.inl ⟨by rfl, ?_⟩) hHeld ?_
              rotate_left
              · intro w' hSw
                (try dsimp only at hSw)
                go_simp
                try with_reducible rfl
              try simp only [Act.put, List.setIfInBounds_toArray, List.set_cons_zero, List.set_cons_succ, List.getElem_toArray, List.getElem_cons_zero, List.getElem_cons_succ]
              refine wpAnyH_take (i := 6) (oi := _) (v := ?_) rfl (by kernel_rfl) (by kernel_rfl) (by kernel_rfl) (fun _ _ _ h => h) (Or.inl ⟨by rfl, ?_⟩) hHeld ?_
              rotate_left
              · intro w' hSw
                (try dsimp only at hSw)
                go_simp
                try with_reducible rfl
              try simp only [Act.put, List.setIfInBounds_toArray, List.set_cons_zero, List.set_cons_succ, List.getElem_toArray, List.getElem_cons_zero, List.getElem_cons_succ]
              refine wpAnyH_take (i := 7) (oi := _) (v := ?_) rfl (by kernel_rfl) (by kernel_rfl) (by kernel_rfl) (fun _ _ _ h => h) (Or.inl ⟨by rfl, ?_⟩) hHeld ?_
              rotate_left
              · intro w' hSw
                (try dsimp only at hSw)
                go_simp
                try with_reducible rfl
              try simp only [Act.put, List.setIfInBounds_toArray, List.set_cons_zero, List.set_cons_succ, List.getElem_toArray, List.getElem_cons_zero, List.getElem_cons_succ]
              refine wpAnyH_take (i := 8) (oi := _) (v := ?_) rfl (by kernel_rfl) (by kernel_rfl) (by kernel_rfl) (fun _ _ _ h => h) (Or.inl ⟨by rfl, ?_⟩) hHeld ?_
              rotate_left
              · intro w' hSw
                (try dsimp only at hSw)
                go_simp
                try with_reducible rfl
              try simp only [Act.put, List.setIfInBounds_toArray, List.set_cons_zero, List.set_cons_succ, List.getElem_toArray, List.getElem_cons_zero, List.getElem_cons_succ]
              refine wpAnyH_take (i := 9) (oi := _) (v := ?_) rfl (by kernel_rfl) (by kernel_rfl) (by kernel_rfl) (fun _ _ _ h => h) (Or.inl ⟨by rfl, ?_⟩) hHeld ?_
              rotate_left
              · intro w' hSw
                (try dsimp only at hSw)
                go_simp
                try with_reducible rfl
              try simp only [Act.put, List.setIfInBounds_toArray, List.set_cons_zero, List.set_cons_succ, List.getElem_toArray, List.getElem_cons_zero, List.getElem_cons_succ]
              refine wpAnyH_take (i := 10) (oi := _) (v := ?_) rfl (by kernel_rfl) (by kernel_rfl) (by kernel_rfl) (fun _ _ _ h => h) (Or.inl ⟨by rfl, ?_⟩) hHeld ?_
              rotate_left
              · intro w' hSw
                (try dsimp only at hSw)
                go_simp
                try with_reducible rfl
              try simp only [Act.put, List.setIfInBounds_toArray, List.set_cons_zero, List.set_cons_succ, List.getElem_toArray, List.getElem_cons_zero, List.getElem_cons_succ]
              refine wpAnyH_take (i := 11) (oi := _) (v := ?_) rfl (by kernel_rfl) (by kernel_rfl) (by kernel_rfl) (fun _ _ _ h => h) (Or.inl ⟨by rfl, ?_⟩) hHeld ?_
              rotate_left
              · intro w' hSw
                (try dsimp only at hSw)
                go_simp
                try with_reducible rfl
              try simp only [Act.put, List.setIfInBounds_toArray, List.set_cons_zero, List.set_cons_succ, List.getElem_toArray, List.getElem_cons_zero, List.getElem_cons_succ]
              refine wpAnyH_ready (rs := [12]) (by kernel_rfl) (by simp) ?_
              refine AllReadyH.cons rfl (fun K hK => ?_) ?_
              · go_simp
                go_at_call 59
                refine (HORD.out _).mono ?_
                rintro e w6 ⟨rfl, hk6⟩
                have K6 := (((Keeps.refl (fun _ => False) w5).drew)).trans' hk6
                have HQ6 := HSW.out _ K6
                refine hK.out _ _ ?_ (fun hHeld => ?_)
                · exact HSW.out _ K6
                clear hK K
                try simp only [Act.put, List.setIfInBounds_toArray, List.set_cons_zero, List.set_cons_succ, List.getElem_toArray, List.getElem_cons_zero, List.getElem_cons_succ]
                refine wpAnyH_take (i := 13) (oi := _) (v := ?_) rfl (by kernel_rfl) (by kernel_rfl) (by kernel_rfl) (fun _ _ _ h => h) (Or.inl ⟨by rfl, ?_⟩) hHeld ?_
                rotate_left
                · intro w' hSw
                  (try dsimp only at hSw)
                  go_simp
                  try with_reducible rfl
                try simp only [Act.put, List.setIfInBounds_toArray, List.set_cons_zero, List.set_cons_succ, List.getElem_toArray, List.getElem_cons_zero, List.getElem_cons_succ]
                refine wpAnyH_take (i := 14) (oi := _) (v := ?_) rfl (by kernel_rfl) (by kernel_rfl) (by kernel_rfl) (fun _ _ _ h => h) (Or.inl ⟨by rfl, ?_⟩) hHeld ?_
                rotate_left
                · intro w' hSw
                  (try dsimp only at hSw)
                  go_simp
                  try with_reducible rfl
                try simp only [Act.put, List.setIfInBounds_toArray, List.set_cons_zero, List.set_cons_succ, List.getElem_toArray, List.getElem_cons_zero, List.getElem_cons_succ]
                refine wpAnyH_take (i := 15) (oi := _) (v := ?_) rfl (by kernel_rfl) (by kernel_rfl) (by kernel_rfl) (fun _ _ _ h => h) (Or.inl ⟨by rfl, ?_⟩) hHeld ?_
                rotate_left
                · intro w' hSw
                  (try dsimp only at hSw)
                  go_simp
                  try with_reducible rfl
                try simp only [Act.put, List.setIfInBounds_toArray, List.set_cons_zero, List.set_cons_succ, List.getElem_toArray, List.getElem_cons_zero, List.getElem_cons_succ]
                refine wpAnyH_take (i := 16) (oi := _) (v := ?_) rfl (by kernel_rfl) (by kernel_rfl) (by kernel_rfl) (fun _ _ _ h => h) (Or.inl ⟨by rfl, ?_⟩) hHeld ?_
                rotate_left
                · intro w' hSw
                  (try dsimp only at hSw)
                  go_simp
                  try with_reducible rfl
                try simp only [Act.put, List.setIfInBounds_toArray, List.set_cons_zero, List.set_cons_succ, List.getElem_toArray, List.getElem_cons_zero, List.getElem_cons_succ]
                refine wpAnyH_take (i := 17) (oi := _) (v := ?_) rfl (by kernel_rfl) (by kernel_rfl) (by kernel_rfl) (fun _ _ _ h => h) (Or.inl ⟨by rfl, ?_⟩) hHeld ?_
                rotate_left
                · intro w' hSw
                  (try dsimp only at hSw)
                  go_simp
                  try with_reducible rfl
                try simp only [Act.put, List.setIfInBounds_toArray, List.set_cons_zero, List.set_cons_succ, List.getElem_toArray, List.getElem_cons_zero, List.getElem_cons_succ]
                refine wpAnyH_ready (rs := [18]) (by kernel_rfl) (by simp) ?_
                refine AllReadyH.cons rfl (fun K hK => ?_) ?_
                · go_simp
                  go_at_call 60
                  refine (HCH.out _ (HKL.out _ (K6))).mono ?_
                  rintro e w7 ⟨rfl, hk7⟩
                  have K7 := (K6).trans' hk7
                  have HQ7 := HSW.out _ K7
                  refine hK.out _ _ ?_ (fun hHeld => ?_)
                  · exact HSW.out _ K7
                  clear hK K
                  try simp only [Act.put, List.setIfInBounds_toArray, List.set_cons_zero, List.set_cons_succ, List.getElem_toArray, List.getElem_cons_zero, List.getElem_cons_succ]
                  refine wpAnyH_take (i := 19) (oi := _) (v := ?_) rfl (by kernel_rfl) (by kernel_rfl) (by kernel_rfl) (fun _ _ _ h => h) (Or.inl ⟨by rfl, ?_⟩) hHeld ?_
                  rotate_left
                  · intro w' hSw
                    (try dsimp only at hSw)
                    go_simp
                    try with_reducible rfl
                  try simp only [Act.put, List.setIfInBounds_toArray, List.set_cons_zero, List.set_cons_succ, List.getElem_toArray, List.getElem_cons_zero, List.getElem_cons_succ]
                  refine wpAnyH_take (i := 20) (oi := _) (v := ?_) rfl (by kernel_rfl) (by kernel_rfl) (by kernel_rfl) (fun _ _ _ h => h) (Or.inl ⟨by rfl, ?_⟩) hHeld ?_
                  rotate_left
                  · intro w' hSw
                    (try dsimp only at hSw)
                    go_simp
                    try with_reducible rfl
                  try simp only [Act.put, List.setIfInBounds_toArray, List.set_cons_zero, List.set_cons_succ, List.getElem_toArray, List.getElem_cons_zero, List.getElem_cons_succ]
                  refine wpAnyH_take (i := 21) (oi := _) (v := ?_) rfl (by kernel_rfl) (by kernel_rfl) (by kernel_rfl) (fun _ _ _ h => h) (Or.inl ⟨by rfl, ?_⟩) hHeld ?_
                  rotate_left
                  · intro w' hSw
                    (try dsimp only at hSw)
                    go_simp
                    try with_reducible rfl
                  try simp only [Act.put, List.setIfInBounds_toArray, List.set_cons_zero, List.set_cons_succ, List.getElem_toArray, List.getElem_cons_zero, List.getElem_cons_succ]
                  refine wpAnyH_take (i := 22) (oi := _) (v := ?_) rfl (by kernel_rfl) (by kernel_rfl) (by kernel_rfl) (fun _ _ _ h => h) (Or.inl ⟨by rfl, ?_⟩) hHeld ?_
                  rotate_left
                  · intro w' hSw
                    (try dsimp only at hSw)
                    go_simp
                    try with_reducible rfl
                  try simp only [Act.put, List.setIfInBounds_toArray, List.set_cons_zero, List.set_cons_succ, List.getElem_toArray, List.getElem_cons_zero, List.getElem_cons_succ]
                  refine wpAnyH_take (i := 23) (oi := _) (v := ?_) rfl (by kernel_rfl) (by kernel_rfl) (by kernel_rfl) (fun _ _ _ h => h) (Or.inl ⟨by rfl, ?_⟩) hHeld ?_
                  rotate_left
                  · intro w' hSw
                    (try dsimp only at hSw)
                    go_simp
                    try with_reducible rfl
                  try simp only [Act.put, List.setIfInBounds_toArray, List.set_cons_zero, List.set_cons_succ, List.getElem_toArray, List.getElem_cons_zero, List.getElem_cons_succ]
                  refine wpAnyH_take (i := 24) (oi := _) (v := ?_) rfl (by kernel_rfl) (by kernel_rfl) (by kernel_rfl) (fun _ _ _ h => h) (Or.inl ⟨by rfl, ?_⟩) hHeld ?_
                  rotate_left
                  · intro w' hSw
                    (try dsimp only at hSw)
                    go_simp
                    try with_reducible rfl
                  try simp only [Act.put, List.setIfInBounds_toArray, List.set_cons_zero, List.set_cons_succ, List.getElem_toArray, List.getElem_cons_zero, List.getElem_cons_succ]
                  refine wpAnyH_take (i := 25) (oi := _) (v := ?_) rfl (by kernel_rfl) (by kernel_rfl) (by kernel_rfl) (fun _ _ _ h => h) (Or.inl ⟨by rfl, ?_⟩) hHeld ?_
                  rotate_left
                  · intro w' hSw
                    (try dsimp only at hSw)
                    go_simp
                    try with_reducible rfl
                  try simp only [Act.put, List.setIfInBounds_toArray, List.set_cons_zero, List.set_cons_succ, List.getElem_toArray, List.getElem_cons_zero, List.getElem_cons_succ]
                  refine wpAnyH_done (by kernel_rfl) ?_ _
                  have S7 := SX.keep (K7)
                  clear SX HSW HCH HKL c0 x0' x1' x2' x3' HORD d0 d1 d2 d3
                  go_wp2_with fail
                  refine (s_rfail S7.p5).mono ?_
                  rintro e w8 ⟨rfl, S7b⟩
                  have S8 := S7b.b5
                  clear S7 S7b
                  have HSTP : Hid (wsR x0 (ws.length + 1) = (ws ++ [⟨t1, t2, t3, t4⟩], fl)) := hide (by rw [HSB.out]; first | rfl | simp)
                  obtain ⟨yy, hyy⟩ : ∃ z : RS, z = fl := ⟨_, rfl⟩
                  rw [← hyy] at S8 HSTP
                  clear hyy HSB
                  have k0 := S8.cell 0 _ rfl
                  have k2 := (S8.box #[.int .i64 t1, .string (S t2), .bool t3, .bool t4] 96 rfl).p1.cell 0 _ rfl
                  have HQ8 := HX.out _ _ S8 (by simp)
                  obtain ⟨z0, z1, z2, z3⟩ := HQ8
                  go_upto_region 8 with fail
                  refine wp_region_held_drew (S := fun w' => w'.cell? ⟨xb, 0, none⟩ = some (.int .i64 t1) ∧ w'.cell? ⟨xb, 1, none⟩ = some (.string (S t2)) ∧ w'.cell? ⟨xb, 2, none⟩ = some (.bool t3) ∧ w'.cell? ⟨xb, 3, none⟩ = some (.bool t4)) (by kernel_rfl) ?_ (fun hHeld => ?_)
                  · exact HX.out _ _ S8.drew (by simp)
                  refine wpAnyH_take (i := 0) (oi := _) (v := ?_) rfl (by kernel_rfl) (by kernel_rfl) (by kernel_rfl) (fun _ _ _ h => h) (Or.inl ⟨by rfl, ?_⟩) hHeld ?_
                  rotate_left
                  · intro w' hSw
                    (try dsimp only at hSw)
                    go_simp
                    try with_reducible rfl
                  try simp only [Act.put, List.setIfInBounds_toArray, List.set_cons_zero, List.set_cons_succ, List.getElem_toArray, List.getElem_cons_zero, List.getElem_cons_succ]
                  refine wpAnyH_take (i := 1) (oi := _) (v := ?_) rfl (by kernel_rfl) (by kernel_rfl) (by kernel_rfl) (fun _ _ _ h => h) (Or.inl ⟨by rfl, ?_⟩) hHeld ?_
                  rotate_left
                  · intro w' hSw
                    (try dsimp only at hSw)
                    go_simp
                    try with_reducible rfl
                  try simp only [Act.put, List.setIfInBounds_toArray, List.set_cons_zero, List.set_cons_succ, List.getElem_toArray, List.getElem_cons_zero, List.getElem_cons_succ]
                  refine wpAnyH_take (i := 2) (oi := _) (v := ?_) rfl (by kernel_rfl) (by kernel_rfl) (by kernel_rfl) (fun _ _ _ h => h) (Or.inl ⟨by rfl, ?_⟩) hHeld ?_
                  rotate_left
                  · intro w' hSw
                    (try dsimp only at hSw)
                    go_simp
                    try with_reducible rfl
                  try simp only [Act.put, List.setIfInBounds_toArray, List.set_cons_zero, List.set_cons_succ, List.getElem_toArray, List.getElem_cons_zero, List.getElem_cons_succ]
                  refine wpAnyH_take (i := 3) (oi := _) (v := ?_) rfl (by kernel_rfl) (by kernel_rfl) (by kernel_rfl) (fun _ _ _ h => h) (Or.inl ⟨by rfl, ?_⟩) hHeld ?_
                  rotate_left
                  · intro w' hSw
                    (try dsimp only at hSw)
                    go_simp
                    try with_reducible rfl
                  try simp only [Act.put, List.setIfInBounds_toArray, List.set_cons_zero, List.set_cons_succ, List.getElem_toArray, List.getElem_cons_zero, List.getElem_cons_succ]
                  refine wpAnyH_take (i := 5) (oi := _) (v := ?_) rfl (by kernel_rfl) (by kernel_rfl) (by kernel_rfl) (fun _ _ _ h => h) (Or.inl ⟨by rfl, ?_⟩) hHeld ?_
                  rotate_left
                  · intro w' hSw
                    (try dsimp only at hSw)
                    go_simp
                    try with_reducible rfl
                  try simp only [Act.put, List.setIfInBounds_toArray, List.set_cons_zero, List.set_cons_succ, List.getElem_toArray, List.getElem_cons_zero, List.getElem_cons_succ]
                  refine wpAnyH_ready (rs := [4, 6]) (by kernel_rfl) (by simp) ?_
                  refine AllReadyH.cons rfl (fun K hK => ?_) ?_
                  · go_simp
                    refine hK.out _ _ ?_ (fun hHeld => ?_)
                    · exact HX.out _ _ S8.drew (by simp)
                    clear hK K
                    try simp only [Act.put, List.setIfInBounds_toArray, List.set_cons_zero, List.set_cons_succ, List.getElem_toArray, List.getElem_cons_zero, List.getElem_cons_succ]
                    refine wpAnyH_ready (rs := [6]) (by kernel_rfl) (by simp) ?_
                    refine AllReadyH.cons rfl (fun K hK => ?_) ?_
                    · go_simp
                      refine hK.out _ _ ?_ (fun hHeld => ?_)
                      · exact HX.out _ _ (S8.box #[.int .i64 t1, .string (S t2), .bool t3, .bool t4] 96 rfl).drew (by simp)
                      clear hK K
                      try simp only [Act.put, List.setIfInBounds_toArray, List.set_cons_zero, List.set_cons_succ, List.getElem_toArray, List.getElem_cons_zero, List.getElem_cons_succ]
                      refine wpAnyH_ready (rs := [7]) (by kernel_rfl) (by simp) ?_
                      refine AllReadyH.cons rfl (fun K hK => ?_) ?_
                      · refine step_app slW rfl (.tmp 61) (.tmp 63) rfl (g := g) (S := ((S8.box #[.int .i64 t1, .string (S t2), .bool t3, .bool t4] 96 rfl).drew).p4) (by go_simp) (c := 1) (Src.block (heap_alloc_new _ _) 4 1 rfl) (by go_simp) (by simp [Value.oneCell']) (by unfold maxLen; omega) (by omega) ?_
                        intro A8 c8 w10 S10
                        have k0 := S10.p2.cell 0 _ rfl
                        have k1 := S10.p2.cells_fz 0
                        have HQ10 := HX.out _ _ S10 (by simp)
                        refine hK.out _ _ ?_ (fun hHeld => ?_)
                        · exact HX.out _ _ S10 (by simp)
                        clear hK K
                        try simp only [Act.put, List.setIfInBounds_toArray, List.set_cons_zero, List.set_cons_succ, List.getElem_toArray, List.getElem_cons_zero, List.getElem_cons_succ]
                        refine wpAnyH_take (i := 8) (oi := _) (v := ?_) rfl (by kernel_rfl) (by kernel_rfl) (by kernel_rfl) (fun _ _ _ h => h) (Or.inl ⟨by rfl, ?_⟩) hHeld ?_
                        rotate_left
                        · intro w' hSw
                          (try dsimp only at hSw)
                          go_simp
                          try with_reducible rfl
                        try simp only [Act.put, List.setIfInBounds_toArray, List.set_cons_zero, List.set_cons_succ, List.getElem_toArray, List.getElem_cons_zero, List.getElem_cons_succ]
                        refine wpAnyH_take (i := 9) (oi := _) (v := ?_) rfl (by kernel_rfl) (by kernel_rfl) (by kernel_rfl) (fun _ _ _ h => h) (Or.inl ⟨by rfl, ?_⟩) hHeld ?_
                        rotate_left
                        · intro w' hSw
                          (try dsimp only at hSw)
                          go_simp
                          try with_reducible rfl
                        try simp only [Act.put, List.setIfInBounds_toArray, List.set_cons_zero, List.set_cons_succ, List.getElem_toArray, List.getElem_cons_zero, List.getElem_cons_succ]
                        refine wpAnyH_ready (rs := [10]) (by kernel_rfl) (by simp) ?_
                        refine AllReadyH.cons rfl (fun K hK => ?_) ?_
                        · go_simp
                          refine hK.out _ _ ?_ (fun hHeld => ?_)
                          · exact HX.out _ _ (S10.p2.setc 0 _) (by simp)
                          clear hK K
                          try simp only [Act.put, List.setIfInBounds_toArray, List.set_cons_zero, List.set_cons_succ, List.getElem_toArray, List.getElem_cons_zero, List.getElem_cons_succ]
                          refine wpAnyH_done (by kernel_rfl) ?_ _
                          have S11 := (S10.p2.setc 0 (.slice A8 (ws.length + 1) c8)).p2.drop.p4.drop.p1.b3
                          have S12 : Sat g (w10.setCell ⟨t, 0, none⟩ (.slice A8 (ws.length + 1) c8)) (cellsA t 99 #[.slice A8 (ws ++ [(⟨t1, t2, t3, t4⟩ : WatT)]).length c8, ev, .map (some m)] :: rowA 74 5 ev 0 [] :: mapA kW kW m [] :: rowA 96 4 (.slice A8 (ws ++ [(⟨t1, t2, t3, t4⟩ : WatT)]).length c8) (ws ++ [(⟨t1, t2, t3, t4⟩ : WatT)]).length ((ws ++ [(⟨t1, t2, t3, t4⟩ : WatT)]).flatMap watC) :: rdA r yy :: L) := by
                            rw [List.length_append, List.length_singleton, List.flatMap_append, List.flatMap_singleton]
                            exact S11
                          have HS12 := hide (((S12.notesShut (es := [])).bookShut (B := ⟨ws ++ [⟨t1, t2, t3, t4⟩], [], []⟩)).p1)
                          clear S8 S10 S11 S12
                          go_wp2_with fail
                          go_roundw
                          case rel => exact ⟨ws.length + 1, by omega, (by first | rfl | go_num), by rw [HSTP.out]; exact HS12.out⟩
                          case measure => simp [RowKit.intOf] <;> omega
                        exact AllReadyH.nil
                      exact AllReadyH.nil
                    exact AllReadyH.nil
                  refine AllReadyH.cons rfl (fun K hK => ?_) ?_
                  · go_simp
                    refine hK.out _ _ ?_ (fun hHeld => ?_)
                    · exact HX.out _ _ (S8.box #[.int .i64 t1, .string (S t2), .bool t3, .bool t4] 96 rfl).drew (by simp)
                    clear hK K
                    try simp only [Act.put, List.setIfInBounds_toArray, List.set_cons_zero, List.set_cons_succ, List.getElem_toArray, List.getElem_cons_zero, List.getElem_cons_succ]
                    refine wpAnyH_ready (rs := [4]) (by kernel_rfl) (by simp) ?_
                    refine AllReadyH.cons rfl (fun K hK => ?_) ?_
                    · go_simp
                      refine hK.out _ _ ?_ (fun hHeld => ?_)
                      · exact HX.out _ _ (S8.box #[.int .i64 t1, .string (S t2), .bool t3, .bool t4] 96 rfl).drew (by simp)
                      clear hK K
                      try simp only [Act.put, List.setIfInBounds_toArray, List.set_cons_zero, List.set_cons_succ, List.getElem_toArray, List.getElem_cons_zero, List.getElem_cons_succ]
                      refine wpAnyH_ready (rs := [7]) (by kernel_rfl) (by simp) ?_
                      refine AllReadyH.cons rfl (fun K hK => ?_) ?_
                      · refine step_app slW rfl (.tmp 61) (.tmp 63) rfl (g := g) (S := ((S8.box #[.int .i64 t1, .string (S t2), .bool t3, .bool t4] 96 rfl).drew).p4) (by go_simp) (c := 1) (Src.block (heap_alloc_new _ _) 4 1 rfl) (by go_simp) (by simp [Value.oneCell']) (by unfold maxLen; omega) (by omega) ?_
                        intro A8 c8 w10 S10
                        have k0 := S10.p2.cell 0 _ rfl
                        have k1 := S10.p2.cells_fz 0
                        have HQ10 := HX.out _ _ S10 (by simp)
                        refine hK.out _ _ ?_ (fun hHeld => ?_)
                        · exact HX.out _ _ S10 (by simp)
                        clear hK K
                        try simp only [Act.put, List.setIfInBounds_toArray, List.set_cons_zero, List.set_cons_succ, List.getElem_toArray, List.getElem_cons_zero, List.getElem_cons_succ]
                        refine wpAnyH_take (i := 8) (oi := _) (v := ?_) rfl (by kernel_rfl) (by kernel_rfl) (by kernel_rfl) (fun _ _ _ h => h) (Or.inl ⟨by rfl, ?_⟩) hHeld ?_
                        rotate_left
                        · intro w' hSw
                          (try dsimp only at hSw)
                          go_simp
                          try with_reducible rfl
                        try simp only [Act.put, List.setIfInBounds_toArray, List.set_cons_zero, List.set_cons_succ, List.getElem_toArray, List.getElem_cons_zero, List.getElem_cons_succ]
                        refine wpAnyH_take (i := 9) (oi := _) (v := ?_) rfl (by kernel_rfl) (by kernel_rfl) (by kernel_rfl) (fun _ _ _ h => h) (Or.inl ⟨by rfl, ?_⟩) hHeld ?_
                        rotate_left
                        · intro w' hSw
                          (try dsimp only at hSw)
                          go_simp
                          try with_reducible rfl
                        try simp only [Act.put, List.setIfInBounds_toArray, List.set_cons_zero, List.set_cons_succ, List.getElem_toArray, List.getElem_cons_zero, List.getElem_cons_succ]
                        refine wpAnyH_ready (rs := [10]) (by kernel_rfl) (by simp) ?_
                        refine AllReadyH.cons rfl (fun K hK => ?_) ?_
                        · go_simp
                          refine hK.out _ _ ?_ (fun hHeld => ?_)
                          · exact HX.out _ _ (S10.p2.setc 0 _) (by simp)
                          clear hK K
                          try simp only [Act.put, List.setIfInBounds_toArray, List.set_cons_zero, List.set_cons_succ, List.getElem_toArray, List.getElem_cons_zero, List.getElem_cons_succ]
                          refine wpAnyH_done (by kernel_rfl) ?_ _
                          have S11 := (S10.p2.setc 0 (.slice A8 (ws.length + 1) c8)).p2.drop.p4.drop.p1.b3
                          have S12 : Sat g (w10.setCell ⟨t, 0, none⟩ (.slice A8 (ws.length + 1) c8)) (cellsA t 99 #[.slice A8 (ws ++ [(⟨t1, t2, t3, t4⟩ : WatT)]).length c8, ev, .map (some m)] :: rowA 74 5 ev 0 [] :: mapA kW kW m [] :: rowA 96 4 (.slice A8 (ws ++ [(⟨t1, t2, t3, t4⟩ : WatT)]).length c8) (ws ++ [(⟨t1, t2, t3, t4⟩ : WatT)]).length ((ws ++ [(⟨t1, t2, t3, t4⟩ : WatT)]).flatMap watC) :: rdA r yy :: L) := by
                            rw [List.length_append, List.length_singleton, List.flatMap_append, List.flatMap_singleton]
                            exact S11
                          have HS12 := hide (((S12.notesShut (es := [])).bookShut (B := ⟨ws ++ [⟨t1, t2, t3, t4⟩], [], []⟩)).p1)
                          clear S8 S10 S11 S12
                          go_wp2_with fail
                          go_roundw
                          case rel => exact ⟨ws.length + 1, by omega, (by first | rfl | go_num), by rw [HSTP.out]; exact HS12.out⟩
                          case measure => simp [RowKit.intOf] <;> omega
                        exact AllReadyH.nil
                      exact AllReadyH.nil
                    exact AllReadyH.nil
                  exact AllReadyH.nil
                exact AllReadyH.nil
              exact AllReadyH.nil

            · have hbd : BD = false := by rw [HBW.out, HLB.out, horb]; simp [ht]
              subst hbd
              have htb : decide (t1 < 1) = false := by simpa using ht
              clear HBW HLB
              refine wp_region_held_drew (S := fun w' => w'.cell? ⟨t, 0, none⟩ = some (.slice (some ad) ws.length c) ∧ w'.cell? (ad.add (q * 4)) = some (.int .i64 l1) ∧ w'.cell? ⟨(ad.add (q * 4)).block, (ad.add (q * 4)).off + 1, none⟩ = some (.string (S l2)) ∧ w'.cell? ⟨(ad.add (q * 4)).block, (ad.add (q * 4)).off + 2, none⟩ = some (.bool l3) ∧ w'.cell? ⟨(ad.add (q * 4)).block, (ad.add (q * 4)).off + 3, none⟩ = some (.bool l4) ∧ w'.cell? ⟨xb, 0, none⟩ = some (.int .i64 t1) ∧ w'.cell? ⟨xb, 1, none⟩ = some (.string (S t2)) ∧ w'.cell? ⟨xb, 2, none⟩ = some (.bool t3) ∧ w'.cell? ⟨xb, 3, none⟩ = some (.bool t4)) (by kernel_rfl) ?_ (fun hHeld => ?_)
              · exact HSW.out _ (((Keeps.refl (fun _ => False) w5).drew))
              refine wpAnyH_take (i := 0) (oi := _) (v := ?_) rfl (by kernel_rfl) (by kernel_rfl) (by kernel_rfl) (fun _ _ _ h => h) (Or.inl ⟨by rfl, ?_⟩) hHeld ?_
              rotate_left
              · intro w' hSw
                (try dsimp only at hSw)
                go_simp
                try with_reducible rfl
              try simp only [Act.put, List.setIfInBounds_toArray, List.set_cons_zero, List.set_cons_succ, List.getElem_toArray, List.getElem_cons_zero, List.getElem_cons_succ]
              refine wpAnyH_take (i := 1) (oi := _) (v := ?_) rfl (by kernel_rfl) (by kernel_rfl) (by kernel_rfl) (fun _ _ _ h => h) (Or.inl ⟨by rfl, ?_⟩) hHeld ?_
              rotate_left
              · intro w' hSw
                (try dsimp only at hSw)
                go_simp
                try with_reducible rfl
              try simp only [Act.put, List.setIfInBounds_toArray, List.set_cons_zero, List.set_cons_succ, List.getElem_toArray, List.getElem_cons_zero, List.getElem_cons_succ]
              refine wpAnyH_take (i := 2) (oi := _) (v := ?_) rfl (by kernel_rfl) (by kernel_rfl) (by kernel_rfl) (fun _ _ _ h => h) (Or.inl ⟨by rfl, ?_⟩) hHeld ?_
              rotate_left
              · intro w' hSw
                (try dsimp only at hSw)
                go_simp
                try with_reducible rfl
              try simp only [Act.put, List.setIfInBounds_toArray, List.set_cons_zero, List.set_cons_succ, List.getElem_toArray, List.getElem_cons_zero, List.getElem_cons_succ]
              refine wpAnyH_take (i := 3) (oi := _) (v := ?_) rfl (by kernel_rfl) (by kernel_rfl) (by kernel_rfl) (fun _ _ _ h => h) (Or.inl ⟨by rfl, ?_⟩) hHeld ?_
              rotate_left
              · intro w' hSw
                (try dsimp only at hSw)
                go_simp
                try with_reducible rfl
              try simp only [Act.put, List.setIfInBounds_toArray, List.set_cons_zero, List.set_cons_succ, List.getElem_toArray, List.getElem_cons_zero, List.getElem_cons_succ]
              refine wpAnyH_take (i := 4) (oi := _) (v := ?_) rfl (by kernel_rfl) (by kernel_rfl) (by kernel_rfl) (fun _ _ _ h => h) (Or.inl ⟨by rfl, ?_⟩) hHeld ?_
              rotate_left
              · intro w' hSw
                (try dsimp only at hSw)
                go_simp
                try with_reducible rfl
              try simp only [Act.put, List.setIfInBounds_toArray, List.set_cons_zero, List.set_cons_succ, List.getElem_toArray, List.getElem_cons_zero, List.getElem_cons_succ]
              refine wpAnyH_take (i := 5) (oi := _) (v := ?_) rfl (by kernel_rfl) (by kernel_rfl) (by kernel_rfl) (fun _ _ _ h => h) (Or.inl ⟨by rfl, ?_⟩) hHeld ?_
              rotate_left
              · intro w' hSw
                (try dsimp only at hSw)
                go_simp
                try with_reducible rfl
              try simp only [Act.put, List.setIfInBounds_toArray, List.set_cons_zero, List.set_cons_succ, List.getElem_toArray, List.getElem_cons_zero, List.getElem_cons_succ]
              refine wpAnyH_take (i := 6) (oi := _) (v := ?_) rfl (by kernel_rfl) (by kernel_rfl) (by kernel_rfl) (fun _ _ _ h => h) (Or.inl ⟨by rfl, ?_⟩) hHeld ?_
              rotate_left
              · intro w' hSw
                (try dsimp only at hSw)
                go_simp
                try with_reducible rfl
              try simp only [Act.put, List.setIfInBounds_toArray, List.set_cons_zero, List.set_cons_succ, List.getElem_toArray, List.getElem_cons_zero, List.getElem_cons_succ]
              refine wpAnyH_take (i := 7) (oi := _) (v := ?_) rfl (by kernel_rfl) (by kernel_rfl) (by kernel_rfl) (fun _ _ _ h => h) (Or.inl ⟨by rfl, ?_⟩) hHeld ?_
              rotate_left
              · intro w' hSw
                (try dsimp only at hSw)
                go_simp
                try with_reducible rfl
              try simp only [Act.put, List.setIfInBounds_toArray, List.set_cons_zero, List.set_cons_succ, List.getElem_toArray, List.getElem_cons_zero, List.getElem_cons_succ]
              refine wpAnyH_take (i := 8) (oi := _) (v := ?_) rfl (by kernel_rfl) (by kernel_rfl) (by kernel_rfl) (fun _ _ _ h => h) (Or.inl ⟨by rfl, ?_⟩) hHeld ?_
              rotate_left
              · intro w' hSw
                (try dsimp only at hSw)
                go_simp
                try with_reducible rfl
              try simp only [Act.put, List.setIfInBounds_toArray, List.set_cons_zero, List.set_cons_succ, List.getElem_toArray, List.getElem_cons_zero, List.getElem_cons_succ]
              refine wpAnyH_take (i := 9) (oi := _) (v := ?_) rfl (by kernel_rfl) (by kernel_rfl) (by kernel_rfl) (fun _ _ _ h => h) (Or.inl ⟨by rfl, ?_⟩) hHeld ?_
              rotate_left
              · intro w' hSw
                (try dsimp only at hSw)
                go_simp
                try with_reducible rfl
              try simp only [Act.put, List.setIfInBounds_toArray, List.set_cons_zero, List.set_cons_succ, List.getElem_toArray, List.getElem_cons_zero, List.getElem_cons_succ]
              refine wpAnyH_take (i := 10) (oi := _) (v := ?_) rfl (by kernel_rfl) (by kernel_rfl) (by kernel_rfl) (fun _ _ _ h => h) (Or.inl ⟨by rfl, ?_⟩) hHeld ?_
              rotate_left
              · intro w' hSw
                (try dsimp only at hSw)
                go_simp
                try with_reducible rfl
              try simp only [Act.put, List.setIfInBounds_toArray, List.set_cons_zero, List.set_cons_succ, List.getElem_toArray, List.getElem_cons_zero, List.getElem_cons_succ]
              refine wpAnyH_take (i := 11) (oi := _) (v := ?_) rfl (by kernel_rfl) (by kernel_rfl) (by kernel_rfl) (fun _ _ _ h => h) (Or.inl ⟨by rfl, ?_⟩) hHeld ?_
              rotate_left
              · intro w' hSw
                (try dsimp only at hSw)
                go_simp
                try with_reducible rfl
              try simp only [Act.put, List.setIfInBounds_toArray, List.set_cons_zero, List.set_cons_succ, List.getElem_toArray, List.getElem_cons_zero, List.getElem_cons_succ]
              refine wpAnyH_ready (rs := [12]) (by kernel_rfl) (by simp) ?_
              refine AllReadyH.cons rfl (fun K hK => ?_) ?_
              · go_simp
                go_at_call 59
                refine (HORD.out _).mono ?_
                rintro e w6 ⟨rfl, hk6⟩
                have K6 := (((Keeps.refl (fun _ => False) w5).drew)).trans' hk6
                have HQ6 := HSW.out _ K6
                refine hK.out _ _ ?_ (fun hHeld => ?_)
                · exact HSW.out _ K6
                clear hK K
                try simp only [Act.put, List.setIfInBounds_toArray, List.set_cons_zero, List.set_cons_succ, List.getElem_toArray, List.getElem_cons_zero, List.getElem_cons_succ]
                refine wpAnyH_take (i := 13) (oi := _) (v := ?_) rfl (by kernel_rfl) (by kernel_rfl) (by kernel_rfl) (fun _ _ _ h => h) (Or.inl ⟨by rfl, ?_⟩) hHeld ?_
                rotate_left
                · intro w' hSw
                  (try dsimp only at hSw)
                  go_simp
                  try with_reducible rfl
                try simp only [Act.put, List.setIfInBounds_toArray, List.set_cons_zero, List.set_cons_succ, List.getElem_toArray, List.getElem_cons_zero, List.getElem_cons_succ]
                refine wpAnyH_take (i := 14) (oi := _) (v := ?_) rfl (by kernel_rfl) (by kernel_rfl) (by kernel_rfl) (fun _ _ _ h => h) (Or.inl ⟨by rfl, ?_⟩) hHeld ?_
                rotate_left
                · intro w' hSw
                  (try dsimp only at hSw)
                  go_simp
                  try with_reducible rfl
                try simp only [Act.put, List.setIfInBounds_toArray, List.set_cons_zero, List.set_cons_succ, List.getElem_toArray, List.getElem_cons_zero, List.getElem_cons_succ]
                refine wpAnyH_take (i := 15) (oi := _) (v := ?_) rfl (by kernel_rfl) (by kernel_rfl) (by kernel_rfl) (fun _ _ _ h => h) (Or.inl ⟨by rfl, ?_⟩) hHeld ?_
                rotate_left
                · intro w' hSw
                  (try dsimp only at hSw)
                  go_simp
                  try with_reducible rfl
                try simp only [Act.put, List.setIfInBounds_toArray, List.set_cons_zero, List.set_cons_succ, List.getElem_toArray, List.getElem_cons_zero, List.getElem_cons_succ]
                refine wpAnyH_take (i := 16) (oi := _) (v := ?_) rfl (by kernel_rfl) (by kernel_rfl) (by kernel_rfl) (fun _ _ _ h => h) (Or.inl ⟨by rfl, ?_⟩) hHeld ?_
                rotate_left
                · intro w' hSw
                  (try dsimp only at hSw)
                  go_simp
                  try with_reducible rfl
                try simp only [Act.put, List.setIfInBounds_toArray, List.set_cons_zero, List.set_cons_succ, List.getElem_toArray, List.getElem_cons_zero, List.getElem_cons_succ]
                refine wpAnyH_take (i := 17) (oi := _) (v := ?_) rfl (by kernel_rfl) (by kernel_rfl) (by kernel_rfl) (fun _ _ _ h => h) (Or.inl ⟨by rfl, ?_⟩) hHeld ?_
                rotate_left
                · intro w' hSw
                  (try dsimp only at hSw)
                  go_simp
                  try with_reducible rfl
                try simp only [Act.put, List.setIfInBounds_toArray, List.set_cons_zero, List.set_cons_succ, List.getElem_toArray, List.getElem_cons_zero, List.getElem_cons_succ]
                refine wpAnyH_ready (rs := [18]) (by kernel_rfl) (by simp) ?_
                refine AllReadyH.cons rfl (fun K hK => ?_) ?_
                · go_simp
                  go_at_call 60
                  refine (HCH.out _ (HKL.out _ (K6))).mono ?_
                  rintro e w7 ⟨rfl, hk7⟩
                  have K7 := (K6).trans' hk7
                  have HQ7 := HSW.out _ K7
                  refine hK.out _ _ ?_ (fun hHeld => ?_)
                  · exact HSW.out _ K7
                  clear hK K
                  try simp only [Act.put, List.setIfInBounds_toArray, List.set_cons_zero, List.set_cons_succ, List.getElem_toArray, List.getElem_cons_zero, List.getElem_cons_succ]
                  refine wpAnyH_take (i := 19) (oi := _) (v := ?_) rfl (by kernel_rfl) (by kernel_rfl) (by kernel_rfl) (fun _ _ _ h => h) (Or.inl ⟨by rfl, ?_⟩) hHeld ?_
                  rotate_left
                  · intro w' hSw
                    (try dsimp only at hSw)
                    go_simp
                    try with_reducible rfl
                  try simp only [Act.put, List.setIfInBounds_toArray, List.set_cons_zero, List.set_cons_succ, List.getElem_toArray, List.getElem_cons_zero, List.getElem_cons_succ]
                  refine wpAnyH_take (i := 20) (oi := _) (v := ?_) rfl (by kernel_rfl) (by kernel_rfl) (by kernel_rfl) (fun _ _ _ h => h) (Or.inl ⟨by rfl, ?_⟩) hHeld ?_
                  rotate_left
                  · intro w' hSw
                    (try dsimp only at hSw)
                    go_simp
                    try with_reducible rfl
                  try simp only [Act.put, List.setIfInBounds_toArray, List.set_cons_zero, List.set_cons_succ, List.getElem_toArray, List.getElem_cons_zero, List.getElem_cons_succ]
                  refine wpAnyH_take (i := 21) (oi := _) (v := ?_) rfl (by kernel_rfl) (by kernel_rfl) (by kernel_rfl) (fun _ _ _ h => h) (Or.inl ⟨by rfl, ?_⟩) hHeld ?_
                  rotate_left
                  · intro w' hSw
                    (try dsimp only at hSw)
                    go_simp
                    try with_reducible rfl
                  try simp only [Act.put, List.setIfInBounds_toArray, List.set_cons_zero, List.set_cons_succ, List.getElem_toArray, List.getElem_cons_zero, List.getElem_cons_succ]
                  refine wpAnyH_take (i := 22) (oi := _) (v := ?_) rfl (by kernel_rfl) (by kernel_rfl) (by kernel_rfl) (fun _ _ _ h => h) (Or.inl ⟨by rfl, ?_⟩) hHeld ?_
                  rotate_left
                  · intro w' hSw
                    (try dsimp only at hSw)
                    go_simp
                    try with_reducible rfl
                  try simp only [Act.put, List.setIfInBounds_toArray, List.set_cons_zero, List.set_cons_succ, List.getElem_toArray, List.getElem_cons_zero, List.getElem_cons_succ]
                  refine wpAnyH_take (i := 23) (oi := _) (v := ?_) rfl (by kernel_rfl) (by kernel_rfl) (by kernel_rfl) (fun _ _ _ h => h) (Or.inl ⟨by rfl, ?_⟩) hHeld ?_
                  rotate_left
                  · intro w' hSw
                    (try dsimp only at hSw)
                    go_simp
                    try with_reducible rfl
                  try simp only [Act.put, List.setIfInBounds_toArray, List.set_cons_zero, List.set_cons_succ, List.getElem_toArray, List.getElem_cons_zero, List.getElem_cons_succ]
                  refine wpAnyH_take (i := 24) (oi := _) (v := ?_) rfl (by kernel_rfl) (by kernel_rfl) (by kernel_rfl) (fun _ _ _ h => h) (Or.inl ⟨by rfl, ?_⟩) hHeld ?_
                  rotate_left
                  · intro w' hSw
                    (try dsimp only at hSw)
                    go_simp
                    try with_reducible rfl
                  try simp only [Act.put, List.setIfInBounds_toArray, List.set_cons_zero, List.set_cons_succ, List.getElem_toArray, List.getElem_cons_zero, List.getElem_cons_succ]
                  refine wpAnyH_take (i := 25) (oi := _) (v := ?_) rfl (by kernel_rfl) (by kernel_rfl) (by kernel_rfl) (fun _ _ _ h => h) (Or.inl ⟨by rfl, ?_⟩) hHeld ?_
                  rotate_left
                  · intro w' hSw
                    (try dsimp only at hSw)
                    go_simp
                    try with_reducible rfl
                  try simp only [Act.put, List.setIfInBounds_toArray, List.set_cons_zero, List.set_cons_succ, List.getElem_toArray, List.getElem_cons_zero, List.getElem_cons_succ]
                  refine wpAnyH_done (by kernel_rfl) ?_ _
                  have S7 := SX.keep (K7)
                  clear SX HSW HCH HKL c0 x0' x1' x2' x3' HORD d0 d1 d2 d3
                  have S8 := S7
                  clear S7
                  have HSTP : Hid (wsR x0 (ws.length + 1) = (ws ++ [⟨t1, t2, t3, t4⟩], y4)) := hide (by rw [HSB.out]; first | rfl | simp)
                  obtain ⟨yy, hyy⟩ : ∃ z : RS, z = y4 := ⟨_, rfl⟩
                  rw [← hyy] at S8 HSTP
                  clear hyy HSB
                  have k0 := S8.cell 0 _ rfl
                  have k2 := (S8.box #[.int .i64 t1, .string (S t2), .bool t3, .bool t4] 96 rfl).p1.cell 0 _ rfl
                  have HQ8 := HX.out _ _ S8 (by simp)
                  obtain ⟨z0, z1, z2, z3⟩ := HQ8
                  go_upto_region 8 with fail
                  refine wp_region_held_drew (S := fun w' => w'.cell? ⟨xb, 0, none⟩ = some (.int .i64 t1) ∧ w'.cell? ⟨xb, 1, none⟩ = some (.string (S t2)) ∧ w'.cell? ⟨xb, 2, none⟩ = some (.bool t3) ∧ w'.cell? ⟨xb, 3, none⟩ = some (.bool t4)) (by kernel_rfl) ?_ (fun hHeld => ?_)
                  · exact HX.out _ _ S8.drew (by simp)
                  refine wpAnyH_take (i := 0) (oi := _) (v := ?_) rfl (by kernel_rfl) (by kernel_rfl) (by kernel_rfl) (fun _ _ _ h => h) (Or.inl ⟨by rfl, ?_⟩) hHeld ?_
                  rotate_left
                  · intro w' hSw
                    (try dsimp only at hSw)
                    go_simp
                    try with_reducible rfl
                  try simp only [Act.put, List.setIfInBounds_toArray, List.set_cons_zero, List.set_cons_succ, List.getElem_toArray, List.getElem_cons_zero, List.getElem_cons_succ]
                  refine wpAnyH_take (i := 1) (oi := _) (v := ?_) rfl (by kernel_rfl) (by kernel_rfl) (by kernel_rfl) (fun _ _ _ h => h) (Or.inl ⟨by rfl, ?_⟩) hHeld ?_
                  rotate_left
                  · intro w' hSw
                    (try dsimp only at hSw)
                    go_simp
                    try with_reducible rfl
                  try simp only [Act.put, List.setIfInBounds_toArray, List.set_cons_zero, List.set_cons_succ, List.getElem_toArray, List.getElem_cons_zero, List.getElem_cons_succ]
                  refine wpAnyH_take (i := 2) (oi := _) (v := ?_) rfl (by kernel_rfl) (by kernel_rfl) (by kernel_rfl) (fun _ _ _ h => h) (Or.inl ⟨by rfl, ?_⟩) hHeld ?_
                  rotate_left
                  · intro w' hSw
                    (try dsimp only at hSw)
                    go_simp
                    try with_reducible rfl
                  try simp only [Act.put, List.setIfInBounds_toArray, List.set_cons_zero, List.set_cons_succ, List.getElem_toArray, List.getElem_cons_zero, List.getElem_cons_succ]
                  refine wpAnyH_take (i := 3) (oi := _) (v := ?_) rfl (by kernel_rfl) (by kernel_rfl) (by kernel_rfl) (fun _ _ _ h => h) (Or.inl ⟨by rfl, ?_⟩) hHeld ?_
                  rotate_left
                  · intro w' hSw
                    (try dsimp only at hSw)
                    go_simp
                    try with_reducible rfl
                  try simp only [Act.put, List.setIfInBounds_toArray, List.set_cons_zero, List.set_cons_succ, List.getElem_toArray, List.getElem_cons_zero, List.getElem_cons_succ]
                  refine wpAnyH_take (i := 5) (oi := _) (v := ?_) rfl (by kernel_rfl) (by kernel_rfl) (by kernel_rfl) (fun _ _ _ h => h) (Or.inl ⟨by rfl, ?_⟩) hHeld ?_
                  rotate_left
                  · intro w' hSw
                    (try dsimp only at hSw)
                    go_simp
                    try with_reducible rfl
                  try simp only [Act.put, List.setIfInBounds_toArray, List.set_cons_zero, List.set_cons_succ, List.getElem_toArray, List.getElem_cons_zero, List.getElem_cons_succ]
                  refine wpAnyH_ready (rs := [4, 6]) (by kernel_rfl) (by simp) ?_
                  refine AllReadyH.cons rfl (fun K hK => ?_) ?_
                  · go_simp
                    refine hK.out _ _ ?_ (fun hHeld => ?_)
                    · exact HX.out _ _ S8.drew (by simp)
                    clear hK K
                    try simp only [Act.put, List.setIfInBounds_toArray, List.set_cons_zero, List.set_cons_succ, List.getElem_toArray, List.getElem_cons_zero, List.getElem_cons_succ]
                    refine wpAnyH_ready (rs := [6]) (by kernel_rfl) (by simp) ?_
                    refine AllReadyH.cons rfl (fun K hK => ?_) ?_
                    · go_simp
                      refine hK.out _ _ ?_ (fun hHeld => ?_)
                      · exact HX.out _ _ (S8.box #[.int .i64 t1, .string (S t2), .bool t3, .bool t4] 96 rfl).drew (by simp)
                      clear hK K
                      try simp only [Act.put, List.setIfInBounds_toArray, List.set_cons_zero, List.set_cons_succ, List.getElem_toArray, List.getElem_cons_zero, List.getElem_cons_succ]
                      refine wpAnyH_ready (rs := [7]) (by kernel_rfl) (by simp) ?_
                      refine AllReadyH.cons rfl (fun K hK => ?_) ?_
                      · refine step_app slW rfl (.tmp 61) (.tmp 63) rfl (g := g) (S := ((S8.box #[.int .i64 t1, .string (S t2), .bool t3, .bool t4] 96 rfl).drew).p4) (by go_simp) (c := 1) (Src.block (heap_alloc_new _ _) 4 1 rfl) (by go_simp) (by simp [Value.oneCell']) (by unfold maxLen; omega) (by omega) ?_
                        intro A8 c8 w10 S10
                        have k0 := S10.p2.cell 0 _ rfl
                        have k1 := S10.p2.cells_fz 0
                        have HQ10 := HX.out _ _ S10 (by simp)
                        refine hK.out _ _ ?_ (fun hHeld => ?_)
                        · exact HX.out _ _ S10 (by simp)
                        clear hK K
                        try simp only [Act.put, List.setIfInBounds_toArray, List.set_cons_zero, List.set_cons_succ, List.getElem_toArray, List.getElem_cons_zero, List.getElem_cons_succ]
                        refine wpAnyH_take (i := 8) (oi := _) (v := ?_) rfl (by kernel_rfl) (by kernel_rfl) (by kernel_rfl) (fun _ _ _ h => h) (Or.inl ⟨by rfl, ?_⟩) hHeld ?_
                        rotate_left
                        · intro w' hSw
                          (try dsimp only at hSw)
                          go_simp
                          try with_reducible rfl
                        try simp only [Act.put, List.setIfInBounds_toArray, List.set_cons_zero, List.set_cons_succ, List.getElem_toArray, List.getElem_cons_zero, List.getElem_cons_succ]
                        refine wpAnyH_take (i := 9) (oi := _) (v := ?_) rfl (by kernel_rfl) (by kernel_rfl) (by kernel_rfl) (fun _ _ _ h => h) (Or.inl ⟨by rfl, ?_⟩) hHeld ?_
                        rotate_left
                        · intro w' hSw
                          (try dsimp only at hSw)
                          go_simp
                          try with_reducible rfl
                        try simp only [Act.put, List.setIfInBounds_toArray, List.set_cons_zero, List.set_cons_succ, List.getElem_toArray, List.getElem_cons_zero, List.getElem_cons_succ]
                        refine wpAnyH_ready (rs := [10]) (by kernel_rfl) (by simp) ?_
                        refine AllReadyH.cons rfl (fun K hK => ?_) ?_
                        · go_simp
                          refine hK.out _ _ ?_ (fun hHeld => ?_)
                          · exact HX.out _ _ (S10.p2.setc 0 _) (by simp)
                          clear hK K
                          try simp only [Act.put, List.setIfInBounds_toArray, List.set_cons_zero, List.set_cons_succ, List.getElem_toArray, List.getElem_cons_zero, List.getElem_cons_succ]
                          refine wpAnyH_done (by kernel_rfl) ?_ _
                          have S11 := (S10.p2.setc 0 (.slice A8 (ws.length + 1) c8)).p2.drop.p4.drop.p1.b3
                          have S12 : Sat g (w10.setCell ⟨t, 0, none⟩ (.slice A8 (ws.length + 1) c8)) (cellsA t 99 #[.slice A8 (ws ++ [(⟨t1, t2, t3, t4⟩ : WatT)]).length c8, ev, .map (some m)] :: rowA 74 5 ev 0 [] :: mapA kW kW m [] :: rowA 96 4 (.slice A8 (ws ++ [(⟨t1, t2, t3, t4⟩ : WatT)]).length c8) (ws ++ [(⟨t1, t2, t3, t4⟩ : WatT)]).length ((ws ++ [(⟨t1, t2, t3, t4⟩ : WatT)]).flatMap watC) :: rdA r yy :: L) := by
                            rw [List.length_append, List.length_singleton, List.flatMap_append, List.flatMap_singleton]
                            exact S11
                          have HS12 := hide (((S12.notesShut (es := [])).bookShut (B := ⟨ws ++ [⟨t1, t2, t3, t4⟩], [], []⟩)).p1)
                          clear S8 S10 S11 S12
                          go_wp2_with fail
                          go_roundw
                          case rel => exact ⟨ws.length + 1, by omega, (by first | rfl | go_num), by rw [HSTP.out]; exact HS12.out⟩
                          case measure => simp [RowKit.intOf] <;> omega
                        exact AllReadyH.nil
                      exact AllReadyH.nil
                    exact AllReadyH.nil
                  refine AllReadyH.cons rfl (fun K hK => ?_) ?_
                  · go_simp
                    refine hK.out _ _ ?_ (fun hHeld => ?_)
                    · exact HX.out _ _ (S8.box #[.int .i64 t1, .string (S t2), .bool t3, .bool t4] 96 rfl).drew (by simp)
                    clear hK K
                    try simp only [Act.put, List.setIfInBounds_toArray, List.set_cons_zero, List.set_cons_succ, List.getElem_toArray, List.getElem_cons_zero, List.getElem_cons_succ]
                    refine wpAnyH_ready (rs := [4]) (by kernel_rfl) (by simp) ?_
                    refine AllReadyH.cons rfl (fun K hK => ?_) ?_
                    · go_simp
                      refine hK.out _ _ ?_ (fun hHeld => ?_)
                      · exact HX.out _ _ (S8.box #[.int .i64 t1, .string (S t2), .bool t3, .bool t4] 96 rfl).drew (by simp)
                      clear hK K
                      try simp only [Act.put, List.setIfInBounds_toArray, List.set_cons_zero, List.set_cons_succ, List.getElem_toArray, List.getElem_cons_zero, List.getElem_cons_succ]
                      refine wpAnyH_ready (rs := [7]) (by kernel_rfl) (by simp) ?_
                      refine AllReadyH.cons rfl (fun K hK => ?_) ?_
                      · refine step_app slW rfl (.tmp 61) (.tmp 63) rfl (g := g) (S := ((S8.box #[.int .i64 t1, .string (S t2), .bool t3, .bool t4] 96 rfl).drew).p4) (by go_simp) (c := 1) (Src.block (heap_alloc_new _ _) 4 1 rfl) (by go_simp) (by simp [Value.oneCell']) (by unfold maxLen; omega) (by omega) ?_
                        intro A8 c8 w10 S10
                        have k0 := S10.p2.cell 0 _ rfl
                        have k1 := S10.p2.cells_fz 0
                        have HQ10 := HX.out _ _ S10 (by simp)
                        refine hK.out _ _ ?_ (fun hHeld => ?_)
                        · exact HX.out _ _ S10 (by simp)
                        clear hK K
                        try simp only [Act.put, List.setIfInBounds_toArray, List.set_cons_zero, List.set_cons_succ, List.getElem_toArray, List.getElem_cons_zero, List.getElem_cons_succ]
                        refine wpAnyH_take (i := 8) (oi := _) (v := ?_) rfl (by kernel_rfl) (by kernel_rfl) (by kernel_rfl) (fun _ _ _ h => h) (Or.inl ⟨by rfl, ?_⟩) hHeld ?_
                        rotate_left
                        · intro w' hSw
                          (try dsimp only at hSw)
                          go_simp
                          try with_reducible rfl
                        try simp only [Act.put, List.setIfInBounds_toArray, List.set_cons_zero, List.set_cons_succ, List.getElem_toArray, List.getElem_cons_zero, List.getElem_cons_succ]
                        refine wpAnyH_take (i := 9) (oi := _) (v := ?_) rfl (by kernel_rfl) (by kernel_rfl) (by kernel_rfl) (fun _ _ _ h => h) (Or.inl ⟨by rfl, ?_⟩) hHeld ?_
                        rotate_left
                        · intro w' hSw
                          (try dsimp only at hSw)
                          go_simp
                          try with_reducible rfl
                        try simp only [Act.put, List.setIfInBounds_toArray, List.set_cons_zero, List.set_cons_succ, List.getElem_toArray, List.getElem_cons_zero, List.getElem_cons_succ]
                        refine wpAnyH_ready (rs := [10]) (by kernel_rfl) (by simp) ?_
                        refine AllReadyH.cons rfl (fun K hK => ?_) ?_
                        · go_simp
                          refine hK.out _ _ ?_ (fun hHeld => ?_)
                          · exact HX.out _ _ (S10.p2.setc 0 _) (by simp)
                          clear hK K
                          try simp only [Act.put, List.setIfInBounds_toArray, List.set_cons_zero, List.set_cons_succ, List.getElem_toArray, List.getElem_cons_zero, List.getElem_cons_succ]
                          refine wpAnyH_done (by kernel_rfl) ?_ _
                          have S11 := (S10.p2.setc 0 (.slice A8 (ws.length + 1) c8)).p2.drop.p4.drop.p1.b3
                          have S12 : Sat g (w10.setCell ⟨t, 0, none⟩ (.slice A8 (ws.length + 1) c8)) (cellsA t 99 #[.slice A8 (ws ++ [(⟨t1, t2, t3, t4⟩ : WatT)]).length c8, ev, .map (some m)] :: rowA 74 5 ev 0 [] :: mapA kW kW m [] :: rowA 96 4 (.slice A8 (ws ++ [(⟨t1, t2, t3, t4⟩ : WatT)]).length c8) (ws ++ [(⟨t1, t2, t3, t4⟩ : WatT)]).length ((ws ++ [(⟨t1, t2, t3, t4⟩ : WatT)]).flatMap watC) :: rdA r yy :: L) := by
                            rw [List.length_append, List.length_singleton, List.flatMap_append, List.flatMap_singleton]
                            exact S11
                          have HS12 := hide (((S12.notesShut (es := [])).bookShut (B := ⟨ws ++ [⟨t1, t2, t3, t4⟩], [], []⟩)).p1)
                          clear S8 S10 S11 S12
                          go_wp2_with fail
                          go_roundw
                          case rel => exact ⟨ws.length + 1, by omega, (by first | rfl | go_num), by rw [HSTP.out]; exact HS12.out⟩
                          case measure => simp [RowKit.intOf] <;> omega
                        exact AllReadyH.nil
                      exact AllReadyH.nil
                    exact AllReadyH.nil
                  exact AllReadyH.nil
                exact AllReadyH.nil
              exact AllReadyH.nil

          · have hbd : BD = true := by rw [HBW.out, HLB.out]; simp
            subst hbd
            clear HBW HLB
            refine wp_region_held_drew (S := fun w' => w'.cell? ⟨t, 0, none⟩ = some (.slice (some ad) ws.length c) ∧ w'.cell? (ad.add (q * 4)) = some (.int .i64 l1) ∧ w'.cell? ⟨(ad.add (q * 4)).block, (ad.add (q * 4)).off + 1, none⟩ = some (.string (S l2)) ∧ w'.cell? ⟨(ad.add (q * 4)).block, (ad.add (q * 4)).off + 2, none⟩ = some (.bool l3) ∧ w'.cell? ⟨(ad.add (q * 4)).block, (ad.add (q * 4)).off + 3, none⟩ = some (.bool l4) ∧ w'.cell? ⟨xb, 0, none⟩ = some (.int .i64 t1) ∧ w'.cell? ⟨xb, 1, none⟩ = some (.string (S t2)) ∧ w'.cell? ⟨xb, 2, none⟩ = some (.bool t3) ∧ w'.cell? ⟨xb, 3, none⟩ = some (.bool t4)) (by kernel_rfl) ?_ (fun hHeld => ?_)
            · exact HSW.out _ (((Keeps.refl (fun _ => False) w5).drew))
            refine wpAnyH_take (i := 0) (oi := _) (v := ?_) rfl (by kernel_rfl) (by kernel_rfl) (by kernel_rfl) (fun _ _ _ h => h) (Or.inl ⟨by rfl, ?_⟩) hHeld ?_
            rotate_left
            · intro w' hSw
              (try dsimp only at hSw)
              go_simp
              try with_reducible rfl
            try simp only [Act.put, List.setIfInBounds_toArray, List.set_cons_zero, List.set_cons_succ, List.getElem_toArray, List.getElem_cons_zero, List.getElem_cons_succ]
            refine wpAnyH_take (i := 1) (oi := _) (v := ?_) rfl (by kernel_rfl) (by kernel_rfl) (by kernel_rfl) (fun _ _ _ h => h) (Or.inl ⟨by rfl, ?_⟩) hHeld ?_
            rotate_left
            · intro w' hSw
              (try dsimp only at hSw)
              go_simp
              try with_reducible rfl
            try simp only [Act.put, List.setIfInBounds_toArray, List.set_cons_zero, List.set_cons_succ, List.getElem_toArray, List.getElem_cons_zero, List.getElem_cons_succ]
            refine wpAnyH_take (i := 2) (oi := _) (v := ?_) rfl (by kernel_rfl) (by kernel_rfl) (by kernel_rfl) (fun _ _ _ h => h) (Or.inl ⟨by rfl, ?_⟩) hHeld ?_
            rotate_left
            · intro w' hSw
              (try dsimp only at hSw)
              go_simp
              try with_reducible rfl
            try simp only [Act.put, List.setIfInBounds_toArray, List.set_cons_zero, List.set_cons_succ, List.getElem_toArray, List.getElem_cons_zero, List.getElem_cons_succ]
            refine wpAnyH_take (i := 3) (oi := _) (v := ?_) rfl (by kernel_rfl) (by kernel_rfl) (by kernel_rfl) (fun _ _ _ h => h) (Or.inl ⟨by rfl, ?_⟩) hHeld ?_
            rotate_left
            · intro w' hSw
              (try dsimp only at hSw)
              go_simp
              try with_reducible rfl
            try simp only [Act.put, List.setIfInBounds_toArray, List.set_cons_zero, List.set_cons_succ, List.getElem_toArray, List.getElem_cons_zero, List.getElem_cons_succ]
            refine wpAnyH_take (i := 4) (oi := _) (v := ?_) rfl (by kernel_rfl) (by kernel_rfl) (by kernel_rfl) (fun _ _ _ h => h) (Or.inl ⟨by rfl, ?_⟩) hHeld ?_
            rotate_left
            · intro w' hSw
              (try dsimp only at hSw)
              go_simp
              try with_reducible rfl
            try simp only [Act.put, List.setIfInBounds_toArray, List.set_cons_zero, List.set_cons_succ, List.getElem_toArray, List.getElem_cons_zero, List.getElem_cons_succ]
            refine wpAnyH_take (i := 5) (oi := _) (v := ?_) rfl (by kernel_rfl) (by kernel_rfl) (by kernel_rfl) (fun _ _ _ h => h) (Or.inl ⟨by rfl, ?_⟩) hHeld ?_
            rotate_left
            · intro w' hSw
              (try dsimp only at hSw)
              go_simp
              try with_reducible rfl
            try simp only [Act.put, List.setIfInBounds_toArray, List.set_cons_zero, List.set_cons_succ, List.getElem_toArray, List.getElem_cons_zero, List.getElem_cons_succ]
            refine wpAnyH_take (i := 6) (oi := _) (v := ?_) rfl (by kernel_rfl) (by kernel_rfl) (by kernel_rfl) (fun _ _ _ h => h) (Or.inl ⟨by rfl, ?_⟩) hHeld ?_
            rotate_left
            · intro w' hSw
              (try dsimp only at hSw)
              go_simp
              try with_reducible rfl
            try simp only [Act.put, List.setIfInBounds_toArray, List.set_cons_zero, List.set_cons_succ, List.getElem_toArray, List.getElem_cons_zero, List.getElem_cons_succ]
            refine wpAnyH_take (i := 7) (oi := _) (v := ?_) rfl (by kernel_rfl) (by kernel_rfl) (by kernel_rfl) (fun _ _ _ h => h) (Or.inl ⟨by rfl, ?_⟩) hHeld ?_
            rotate_left
            · intro w' hSw
              (try dsimp only at hSw)
              go_simp
              try with_reducible rfl
            try simp only [Act.put, List.setIfInBounds_toArray, List.set_cons_zero, List.set_cons_succ, List.getElem_toArray, List.getElem_cons_zero, List.getElem_cons_succ]
            refine wpAnyH_take (i := 8) (oi := _) (v := ?_) rfl (by kernel_rfl) (by kernel_rfl) (by kernel_rfl) (fun _ _ _ h => h) (Or.inl ⟨by rfl, ?_⟩) hHeld ?_
            rotate_left
            · intro w' hSw
              (try dsimp only at hSw)
              go_simp
              try with_reducible rfl
            try simp only [Act.put, List.setIfInBounds_toArray, List.set_cons_zero, List.set_cons_succ, List.getElem_toArray, List.getElem_cons_zero, List.getElem_cons_succ]
            refine wpAnyH_take (i := 9) (oi := _) (v := ?_) rfl (by kernel_rfl) (by kernel_rfl) (by kernel_rfl) (fun _ _ _ h => h) (Or.inl ⟨by rfl, ?_⟩) hHeld ?_
            rotate_left
            · intro w' hSw
              (try dsimp only at hSw)
              go_simp
              try with_reducible rfl
            try simp only [Act.put, List.setIfInBounds_toArray, List.set_cons_zero, List.set_cons_succ, List.getElem_toArray, List.getElem_cons_zero, List.getElem_cons_succ]
            refine wpAnyH_take (i := 10) (oi := _) (v := ?_) rfl (by kernel_rfl) (by kernel_rfl) (by kernel_rfl) (fun _ _ _ h => h) (Or.inl ⟨by rfl, ?_⟩) hHeld ?_
            rotate_left
            · intro w' hSw
              (try dsimp only at hSw)
              go_simp
              try with_reducible rfl
            try simp only [Act.put, List.setIfInBounds_toArray, List.set_cons_zero, List.set_cons_succ, List.getElem_toArray, List.getElem_cons_zero, List.getElem_cons_succ]
            refine wpAnyH_take (i := 11) (oi := _) (v := ?_) rfl (by kernel_rfl) (by kernel_rfl) (by kernel_rfl) (fun _ _ _ h => h) (Or.inl ⟨by rfl, ?_⟩) hHeld ?_
            rotate_left
            · intro w' hSw
              (try dsimp only at hSw)
              go_simp
              try with_reducible rfl
            try simp only [Act.put, List.setIfInBounds_toArray, List.set_cons_zero, List.set_cons_succ, List.getElem_toArray, List.getElem_cons_zero, List.getElem_cons_succ]
            refine wpAnyH_ready (rs := [12]) (by kernel_rfl) (by simp) ?_
            refine AllReadyH.cons rfl (fun K hK => ?_) ?_
            · go_simp
              go_at_call 59
              refine (HORD.out _).mono ?_
              rintro e w6 ⟨rfl, hk6⟩
              have K6 := (((Keeps.refl (fun _ => False) w5).drew)).trans' hk6
              have HQ6 := HSW.out _ K6
              refine hK.out _ _ ?_ (fun hHeld => ?_)
              · exact HSW.out _ K6
              clear hK K
              try simp only [Act.put, List.setIfInBounds_toArray, List.set_cons_zero, List.set_cons_succ, List.getElem_toArray, List.getElem_cons_zero, List.getElem_cons_succ]
              refine wpAnyH_take (i := 13) (oi := _) (v := ?_) rfl (by kernel_rfl) (by kernel_rfl) (by kernel_rfl) (fun _ _ _ h => h) (Or.inl ⟨by rfl, ?_⟩) hHeld ?_
              rotate_left
              · intro w' hSw
                (try dsimp only at hSw)
                go_simp
                try with_reducible rfl
              try simp only [Act.put, List.setIfInBounds_toArray, List.set_cons_zero, List.set_cons_succ, List.getElem_toArray, List.getElem_cons_zero, List.getElem_cons_succ]
              refine wpAnyH_take (i := 14) (oi := _) (v := ?_) rfl (by kernel_rfl) (by kernel_rfl) (by kernel_rfl) (fun _ _ _ h => h) (Or.inl ⟨by rfl, ?_⟩) hHeld ?_
              rotate_left
              · intro w' hSw
                (try dsimp only at hSw)
                go_simp
                try with_reducible rfl
              try simp only [Act.put, List.setIfInBounds_toArray, List.set_cons_zero, List.set_cons_succ, List.getElem_toArray, List.getElem_cons_zero, List.getElem_cons_succ]
              refine wpAnyH_take (i := 15) (oi := _) (v := ?_) rfl (by kernel_rfl) (by kernel_rfl) (by kernel_rfl) (fun _ _ _ h => h) (Or.inl ⟨by rfl, ?_⟩) hHeld ?_
              rotate_left
              · intro w' hSw
                (try dsimp only at hSw)
                go_simp
                try with_reducible rfl
              try simp only [Act.put, List.setIfInBounds_toArray, List.set_cons_zero, List.set_cons_succ, List.getElem_toArray, List.getElem_cons_zero, List.getElem_cons_succ]
              refine wpAnyH_take (i := 16) (oi := _) (v := ?_) rfl (by kernel_rfl) (by kernel_rfl) (by kernel_rfl) (fun _ _ _ h => h) (Or.inl ⟨by rfl, ?_⟩) hHeld ?_
              rotate_left
              · intro w' hSw
                (try dsimp only at hSw)
                go_simp
                try with_reducible rfl
              try simp only [Act.put, List.setIfInBounds_toArray, List.set_cons_zero, List.set_cons_succ, List.getElem_toArray, List.getElem_cons_zero, List.getElem_cons_succ]
              refine wpAnyH_take (i := 17) (oi := _) (v := ?_) rfl (by kernel_rfl) (by kernel_rfl) (by kernel_rfl) (fun _ _ _ h => h) (Or.inl ⟨by rfl, ?_⟩) hHeld ?_
              rotate_left
              · intro w' hSw
                (try dsimp only at hSw)
                go_simp
                try with_reducible rfl
              try simp only [Act.put, List.setIfInBounds_toArray, List.set_cons_zero, List.set_cons_succ, List.getElem_toArray, List.getElem_cons_zero, List.getElem_cons_succ]
              refine wpAnyH_ready (rs := [18]) (by kernel_rfl) (by simp) ?_
              refine AllReadyH.cons rfl (fun K hK => ?_) ?_
              · go_simp
                go_at_call 60
                refine (HCH.out _ (HKL.out _ (K6))).mono ?_
                rintro e w7 ⟨rfl, hk7⟩
                have K7 := (K6).trans' hk7
                have HQ7 := HSW.out _ K7
                refine hK.out _ _ ?_ (fun hHeld => ?_)
                · exact HSW.out _ K7
                clear hK K
                try simp only [Act.put, List.setIfInBounds_toArray, List.set_cons_zero, List.set_cons_succ, List.getElem_toArray, List.getElem_cons_zero, List.getElem_cons_succ]
                refine wpAnyH_take (i := 19) (oi := _) (v := ?_) rfl (by kernel_rfl) (by kernel_rfl) (by kernel_rfl) (fun _ _ _ h => h) (Or.inl ⟨by rfl, ?_⟩) hHeld ?_
                rotate_left
                · intro w' hSw
                  (try dsimp only at hSw)
                  go_simp
                  try with_reducible rfl
                try simp only [Act.put, List.setIfInBounds_toArray, List.set_cons_zero, List.set_cons_succ, List.getElem_toArray, List.getElem_cons_zero, List.getElem_cons_succ]
                refine wpAnyH_take (i := 20) (oi := _) (v := ?_) rfl (by kernel_rfl) (by kernel_rfl) (by kernel_rfl) (fun _ _ _ h => h) (Or.inl ⟨by rfl, ?_⟩) hHeld ?_
                rotate_left
                · intro w' hSw
                  (try dsimp only at hSw)
                  go_simp
                  try with_reducible rfl
                try simp only [Act.put, List.setIfInBounds_toArray, List.set_cons_zero, List.set_cons_succ, List.getElem_toArray, List.getElem_cons_zero, List.getElem_cons_succ]
                refine wpAnyH_take (i := 21) (oi := _) (v := ?_) rfl (by kernel_rfl) (by kernel_rfl) (by kernel_rfl) (fun _ _ _ h => h) (Or.inl ⟨by rfl, ?_⟩) hHeld ?_
                rotate_left
                · intro w' hSw
                  (try dsimp only at hSw)
                  go_simp
                  try with_reducible rfl
                try simp only [Act.put, List.setIfInBounds_toArray, List.set_cons_zero, List.set_cons_succ, List.getElem_toArray, List.getElem_cons_zero, List.getElem_cons_succ]
                refine wpAnyH_take (i := 22) (oi := _) (v := undef) rfl (by kernel_rfl) (by kernel_rfl) (by kernel_rfl) (fun _ _ _ h => h) (Or.inr ⟨by rfl, rfl⟩) hHeld ?_
                try simp only [Act.put, List.setIfInBounds_toArray, List.set_cons_zero, List.set_cons_succ, List.getElem_toArray, List.getElem_cons_zero, List.getElem_cons_succ]
                refine wpAnyH_take (i := 23) (oi := _) (v := undef) rfl (by kernel_rfl) (by kernel_rfl) (by kernel_rfl) (fun _ _ _ h => h) (Or.inr ⟨by rfl, rfl⟩) hHeld ?_
                try simp only [Act.put, List.setIfInBounds_toArray, List.set_cons_zero, List.set_cons_succ, List.getElem_toArray, List.getElem_cons_zero, List.getElem_cons_succ]
                refine wpAnyH_take (i := 24) (oi := _) (v := undef) rfl (by kernel_rfl) (by kernel_rfl) (by kernel_rfl) (fun _ _ _ h => h) (Or.inr ⟨by rfl, rfl⟩) hHeld ?_
                try simp only [Act.put, List.setIfInBounds_toArray, List.set_cons_zero, List.set_cons_succ, List.getElem_toArray, List.getElem_cons_zero, List.getElem_cons_succ]
                refine wpAnyH_take (i := 25) (oi := _) (v := ?_) rfl (by kernel_rfl) (by kernel_rfl) (by kernel_rfl) (fun _ _ _ h => h) (Or.inl ⟨by rfl, ?_⟩) hHeld ?_
                rotate_left
                · intro w' hSw
                  (try dsimp only at hSw)
                  go_simp
                  try with_reducible rfl
                try simp only [Act.put, List.setIfInBounds_toArray, List.set_cons_zero, List.set_cons_succ, List.getElem_toArray, List.getElem_cons_zero, List.getElem_cons_succ]
                refine wpAnyH_done (by kernel_rfl) ?_ _
                have S7 := SX.keep (K7)
                clear SX HSW HCH HKL c0 x0' x1' x2' x3' HORD d0 d1 d2 d3
                go_wp2_with fail
                refine (s_rfail S7.p5).mono ?_
                rintro e w8 ⟨rfl, S7b⟩
                have S8 := S7b.b5
                clear S7 S7b
                have HSTP : Hid (wsR x0 (ws.length + 1) = (ws ++ [⟨t1, t2, t3, t4⟩], fl)) := hide (by rw [HSB.out]; first | rfl | simp)
                obtain ⟨yy, hyy⟩ : ∃ z : RS, z = fl := ⟨_, rfl⟩
                rw [← hyy] at S8 HSTP
                clear hyy HSB
                have k0 := S8.cell 0 _ rfl
                have k2 := (S8.box #[.int .i64 t1, .string (S t2), .bool t3, .bool t4] 96 rfl).p1.cell 0 _ rfl
                have HQ8 := HX.out _ _ S8 (by simp)
                obtain ⟨z0, z1, z2, z3⟩ := HQ8
                go_upto_region 8 with fail
                refine wp_region_held_drew (S := fun w' => w'.cell? ⟨xb, 0, none⟩ = some (.int .i64 t1) ∧ w'.cell? ⟨xb, 1, none⟩ = some (.string (S t2)) ∧ w'.cell? ⟨xb, 2, none⟩ = some (.bool t3) ∧ w'.cell? ⟨xb, 3, none⟩ = some (.bool t4)) (by kernel_rfl) ?_ (fun hHeld => ?_)
                · exact HX.out _ _ S8.drew (by simp)
                refine wpAnyH_take (i := 0) (oi := _) (v := ?_) rfl (by kernel_rfl) (by kernel_rfl) (by kernel_rfl) (fun _ _ _ h => h) (Or.inl ⟨by rfl, ?_⟩) hHeld ?_
                rotate_left
                · intro w' hSw
                  (try dsimp only at hSw)
                  go_simp
                  try with_reducible rfl
                try simp only [Act.put, List.setIfInBounds_toArray, List.set_cons_zero, List.set_cons_succ, List.getElem_toArray, List.getElem_cons_zero, List.getElem_cons_succ]
                refine wpAnyH_take (i := 1) (oi := _) (v := ?_) rfl (by kernel_rfl) (by kernel_rfl) (by kernel_rfl) (fun _ _ _ h => h) (Or.inl ⟨by rfl, ?_⟩) hHeld ?_
                rotate_left
                · intro w' hSw
                  (try dsimp only at hSw)
                  go_simp
                  try with_reducible rfl
                try simp only [Act.put, List.setIfInBounds_toArray, List.set_cons_zero, List.set_cons_succ, List.getElem_toArray, List.getElem_cons_zero, List.getElem_cons_succ]
                refine wpAnyH_take (i := 2) (oi := _) (v := ?_) rfl (by kernel_rfl) (by kernel_rfl) (by kernel_rfl) (fun _ _ _ h => h) (Or.inl ⟨by rfl, ?_⟩) hHeld ?_
                rotate_left
                · intro w' hSw
                  (try dsimp only at hSw)
                  go_simp
                  try with_reducible rfl
                try simp only [Act.put, List.setIfInBounds_toArray, List.set_cons_zero, List.set_cons_succ, List.getElem_toArray, List.getElem_cons_zero, List.getElem_cons_succ]
                refine wpAnyH_take (i := 3) (oi := _) (v := ?_) rfl (by kernel_rfl) (by kernel_rfl) (by kernel_rfl) (fun _ _ _ h => h) (Or.inl ⟨by rfl, ?_⟩) hHeld ?_
                rotate_left
                · intro w' hSw
                  (try dsimp only at hSw)
                  go_simp
                  try with_reducible rfl
                try simp only [Act.put, List.setIfInBounds_toArray, List.set_cons_zero, List.set_cons_succ, List.getElem_toArray, List.getElem_cons_zero, List.getElem_cons_succ]
                refine wpAnyH_take (i := 5) (oi := _) (v := ?_) rfl (by kernel_rfl) (by kernel_rfl) (by kernel_rfl) (fun _ _ _ h => h) (Or.inl ⟨by rfl, ?_⟩) hHeld ?_
                rotate_left
                · intro w' hSw
                  (try dsimp only at hSw)
                  go_simp
                  try with_reducible rfl
                try simp only [Act.put, List.setIfInBounds_toArray, List.set_cons_zero, List.set_cons_succ, List.getElem_toArray, List.getElem_cons_zero, List.getElem_cons_succ]
                refine wpAnyH_ready (rs := [4, 6]) (by kernel_rfl) (by simp) ?_
                refine AllReadyH.cons rfl (fun K hK => ?_) ?_
                · go_simp
                  refine hK.out _ _ ?_ (fun hHeld => ?_)
                  · exact HX.out _ _ S8.drew (by simp)
                  clear hK K
                  try simp only [Act.put, List.setIfInBounds_toArray, List.set_cons_zero, List.set_cons_succ, List.getElem_toArray, List.getElem_cons_zero, List.getElem_cons_succ]
                  refine wpAnyH_ready (rs := [6]) (by kernel_rfl) (by simp) ?_
                  refine AllReadyH.cons rfl (fun K hK => ?_) ?_
                  · go_simp
                    refine hK.out _ _ ?_ (fun hHeld => ?_)
                    · exact HX.out _ _ (S8.box #[.int .i64 t1, .string (S t2), .bool t3, .bool t4] 96 rfl).drew (by simp)
                    clear hK K
                    try simp only [Act.put, List.setIfInBounds_toArray, List.set_cons_zero, List.set_cons_succ, List.getElem_toArray, List.getElem_cons_zero, List.getElem_cons_succ]
                    refine wpAnyH_ready (rs := [7]) (by kernel_rfl) (by simp) ?_
                    refine AllReadyH.cons rfl (fun K hK => ?_) ?_
                    · refine step_app slW rfl (.tmp 61) (.tmp 63) rfl (g := g) (S := ((S8.box #[.int .i64 t1, .string (S t2), .bool t3, .bool t4] 96 rfl).drew).p4) (by go_simp) (c := 1) (Src.block (heap_alloc_new _ _) 4 1 rfl) (by go_simp) (by simp [Value.oneCell']) (by unfold maxLen; omega) (by omega) ?_
                      intro A8 c8 w10 S10
                      have k0 := S10.p2.cell 0 _ rfl
                      have k1 := S10.p2.cells_fz 0
                      have HQ10 := HX.out _ _ S10 (by simp)
                      refine hK.out _ _ ?_ (fun hHeld => ?_)
                      · exact HX.out _ _ S10 (by simp)
                      clear hK K
                      try simp only [Act.put, List.setIfInBounds_toArray, List.set_cons_zero, List.set_cons_succ, List.getElem_toArray, List.getElem_cons_zero, List.getElem_cons_succ]
                      refine wpAnyH_take (i := 8) (oi := _) (v := ?_) rfl (by kernel_rfl) (by kernel_rfl) (by kernel_rfl) (fun _ _ _ h => h) (Or.inl ⟨by rfl, ?_⟩) hHeld ?_
                      rotate_left
                      · intro w' hSw
                        (try dsimp only at hSw)
                        go_simp
                        try with_reducible rfl
                      try simp only [Act.put, List.setIfInBounds_toArray, List.set_cons_zero, List.set_cons_succ, List.getElem_toArray, List.getElem_cons_zero, List.getElem_cons_succ]
                      refine wpAnyH_take (i := 9) (oi := _) (v := ?_) rfl (by kernel_rfl) (by kernel_rfl) (by kernel_rfl) (fun _ _ _ h => h) (Or.inl ⟨by rfl, ?_⟩) hHeld ?_
                      rotate_left
                      · intro w' hSw
                        (try dsimp only at hSw)
                        go_simp
                        try with_reducible rfl
                      try simp only [Act.put, List.setIfInBounds_toArray, List.set_cons_zero, List.set_cons_succ, List.getElem_toArray, List.getElem_cons_zero, List.getElem_cons_succ]
                      refine wpAnyH_ready (rs := [10]) (by kernel_rfl) (by simp) ?_
                      refine AllReadyH.cons rfl (fun K hK => ?_) ?_
                      · go_simp
                        refine hK.out _ _ ?_ (fun hHeld => ?_)
                        · exact HX.out _ _ (S10.p2.setc 0 _) (by simp)
                        clear hK K
                        try simp only [Act.put, List.setIfInBounds_toArray, List.set_cons_zero, List.set_cons_succ, List.getElem_toArray, List.getElem_cons_zero, List.getElem_cons_succ]
                        refine wpAnyH_done (by kernel_rfl) ?_ _
                        have S11 := (S10.p2.setc 0 (.slice A8 (ws.length + 1) c8)).p2.drop.p4.drop.p1.b3
                        have S12 : Sat g (w10.setCell ⟨t, 0, none⟩ (.slice A8 (ws.length + 1) c8)) (cellsA t 99 #[.slice A8 (ws ++ [(⟨t1, t2, t3, t4⟩ : WatT)]).length c8, ev, .map (some m)] :: rowA 74 5 ev 0 [] :: mapA kW kW m [] :: rowA 96 4 (.slice A8 (ws ++ [(⟨t1, t2, t3, t4⟩ : WatT)]).length c8) (ws ++ [(⟨t1, t2, t3, t4⟩ : WatT)]).length ((ws ++ [(⟨t1, t2, t3, t4⟩ : WatT)]).flatMap watC) :: rdA r yy :: L) := by
                          rw [List.length_append, List.length_singleton, List.flatMap_append, List.flatMap_singleton]
                          exact S11
                        have HS12 := hide (((S12.notesShut (es := [])).bookShut (B := ⟨ws ++ [⟨t1, t2, t3, t4⟩], [], []⟩)).p1)
                        clear S8 S10 S11 S12
                        go_wp2_with fail
                        go_roundw
                        case rel => exact ⟨ws.length + 1, by omega, (by first | rfl | go_num), by rw [HSTP.out]; exact HS12.out⟩
                        case measure => simp [RowKit.intOf] <;> omega
                      exact AllReadyH.nil
                    exact AllReadyH.nil
                  exact AllReadyH.nil
                refine AllReadyH.cons rfl (fun K hK => ?_) ?_
                · go_simp
                  refine hK.out _ _ ?_ (fun hHeld => ?_)
                  · exact HX.out _ _ (S8.box #[.int .i64 t1, .string (S t2), .bool t3, .bool t4] 96 rfl).drew (by simp)
                  clear hK K
                  try simp only [Act.put, List.setIfInBounds_toArray, List.set_cons_zero, List.set_cons_succ, List.getElem_toArray, List.getElem_cons_zero, List.getElem_cons_succ]
                  refine wpAnyH_ready (rs := [4]) (by kernel_rfl) (by simp) ?_
                  refine AllReadyH.cons rfl (fun K hK => ?_) ?_
                  · go_simp
                    refine hK.out _ _ ?_ (fun hHeld => ?_)
                    · exact HX.out _ _ (S8.box #[.int .i64 t1, .string (S t2), .bool t3, .bool t4] 96 rfl).drew (by simp)
                    clear hK K
                    try simp only [Act.put, List.setIfInBounds_toArray, List.set_cons_zero, List.set_cons_succ, List.getElem_toArray, List.getElem_cons_zero, List.getElem_cons_succ]
                    refine wpAnyH_ready (rs := [7]) (by kernel_rfl) (by simp) ?_
                    refine AllReadyH.cons rfl (fun K hK => ?_) ?_
                    · refine step_app slW rfl (.tmp 61) (.tmp 63) rfl (g := g) (S := ((S8.box #[.int .i64 t1, .string (S t2), .bool t3, .bool t4] 96 rfl).drew).p4) (by go_simp) (c := 1) (Src.block (heap_alloc_new _ _) 4 1 rfl) (by go_simp) (by simp [Value.oneCell']) (by unfold maxLen; omega) (by omega) ?_
                      intro A8 c8 w10 S10
                      have k0 := S10.p2.cell 0 _ rfl
                      have k1 := S10.p2.cells_fz 0
                      have HQ10 := HX.out _ _ S10 (by simp)
                      refine hK.out _ _ ?_ (fun hHeld => ?_)
                      · exact HX.out _ _ S10 (by simp)
                      clear hK K
                      try simp only [Act.put, List.setIfInBounds_toArray, List.set_cons_zero, List.set_cons_succ, List.getElem_toArray, List.getElem_cons_zero, List.getElem_cons_succ]
                      refine wpAnyH_take (i := 8) (oi := _) (v := ?_) rfl (by kernel_rfl) (by kernel_rfl) (by kernel_rfl) (fun _ _ _ h => h) (Or.inl ⟨by rfl, ?_⟩) hHeld ?_
                      rotate_left
                      · intro w' hSw
                        (try dsimp only at hSw)
                        go_simp
                        try with_reducible rfl
                      try simp only [Act.put, List.setIfInBounds_toArray, List.set_cons_zero, List.set_cons_succ, List.getElem_toArray, List.getElem_cons_zero, List.getElem_cons_succ]
                      refine wpAnyH_take (i := 9) (oi := _) (v := ?_) rfl (by kernel_rfl) (by kernel_rfl) (by kernel_rfl) (fun _ _ _ h => h) (Or.inl ⟨by rfl, ?_⟩) hHeld ?_
                      rotate_left
                      · intro w' hSw
                        (try dsimp only at hSw)
                        go_simp
                        try with_reducible rfl
                      try simp only [Act.put, List.setIfInBounds_toArray, List.set_cons_zero, List.set_cons_succ, List.getElem_toArray, List.getElem_cons_zero, List.getElem_cons_succ]
                      refine wpAnyH_ready (rs := [10]) (by kernel_rfl) (by simp) ?_
                      refine AllReadyH.cons rfl (fun K hK => ?_) ?_
                      · go_simp
                        refine hK.out _ _ ?_ (fun hHeld => ?_)
                        · exact HX.out _ _ (S10.p2.setc 0 _) (by simp)
                        clear hK K
                        try simp only [Act.put, List.setIfInBounds_toArray, List.set_cons_zero, List.set_cons_succ, List.getElem_toArray, List.getElem_cons_zero, List.getElem_cons_succ]
                        refine wpAnyH_done (by kernel_rfl) ?_ _
                        have S11 := (S10.p2.setc 0 (.slice A8 (ws.length + 1) c8)).p2.drop.p4.drop.p1.b3
                        have S12 : Sat g (w10.setCell ⟨t, 0, none⟩ (.slice A8 (ws.length + 1) c8)) (cellsA t 99 #[.slice A8 (ws ++ [(⟨t1, t2, t3, t4⟩ : WatT)]).length c8, ev, .map (some m)] :: rowA 74 5 ev 0 [] :: mapA kW kW m [] :: rowA 96 4 (.slice A8 (ws ++ [(⟨t1, t2, t3, t4⟩ : WatT)]).length c8) (ws ++ [(⟨t1, t2, t3, t4⟩ : WatT)]).length ((ws ++ [(⟨t1, t2, t3, t4⟩ : WatT)]).flatMap watC) :: rdA r yy :: L) := by
                          rw [List.length_append, List.length_singleton, List.flatMap_append, List.flatMap_singleton]
                          exact S11
                        have HS12 := hide (((S12.notesShut (es := [])).bookShut (B := ⟨ws ++ [⟨t1, t2, t3, t4⟩], [], []⟩)).p1)
                        clear S8 S10 S11 S12
                        go_wp2_with fail
                        go_roundw
                        case rel => exact ⟨ws.length + 1, by omega, (by first | rfl | go_num), by rw [HSTP.out]; exact HS12.out⟩
                        case measure => simp [RowKit.intOf] <;> omega
                      exact AllReadyH.nil
                    exact AllReadyH.nil
                  exact AllReadyH.nil
                exact AllReadyH.nil
              exact AllReadyH.nil
            exact AllReadyH.nil

      · obtain rfl : ws = [] := List.length_eq_zero_iff.1 (by omega)
        have HSW : Hid (∀ w', Keeps (fun _ => False) w5 w' → w'.cell? ⟨xb, 0, none⟩ = some (.int .i64 t1) ∧ w'.cell? ⟨xb, 1, none⟩ = some (.string (S t2)) ∧ w'.cell? ⟨xb, 2, none⟩ = some (.bool t3) ∧ w'.cell? ⟨xb, 3, none⟩ = some (.bool t4)) := hide fun w' h => ⟨h.cell x0' (fun h => h), h.cell x1' (fun h => h), h.cell x2' (fun h => h), h.cell x3' (fun h => h)⟩
        have hlb : lastBad [] ⟨t1, t2, t3, t4⟩ = false := rfl
        simp only [List.length_nil, Int.natCast_zero] at *
        rcases hcc with rfl | rfl
        · by_cases ht : t1 < 1
          · have hbd : BD = true := by rw [HBW.out, hlb]; simp [ht]
            subst hbd
            clear HBW hlb
            refine wp_region_held_drew (S := fun w' => w'.cell? ⟨xb, 0, none⟩ = some (.int .i64 t1) ∧ w'.cell? ⟨xb, 1, none⟩ = some (.string (S t2)) ∧ w'.cell? ⟨xb, 2, none⟩ = some (.bool t3) ∧ w'.cell? ⟨xb, 3, none⟩ = some (.bool t4)) (by kernel_rfl) ?_ (fun hHeld => ?_)
            · exact HSW.out _ (((Keeps.refl (fun _ => False) w5).drew))
            refine wpAnyH_take (i := 0) (oi := _) (v := ?_) rfl (by kernel_rfl) (by kernel_rfl) (by kernel_rfl) (fun _ _ _ h => h) (Or.inl ⟨by rfl, ?_⟩) hHeld ?_
            rotate_left
            · intro w' hSw
              (try dsimp only at hSw)
              go_simp
              try with_reducible rfl
            try simp only [Act.put, List.setIfInBounds_toArray, List.set_cons_zero, List.set_cons_succ, List.getElem_toArray, List.getElem_cons_zero, List.getElem_cons_succ]
            refine wpAnyH_take (i := 1) (oi := _) (v := ?_) rfl (by kernel_rfl) (by kernel_rfl) (by kernel_rfl) (fun _ _ _ h => h) (Or.inl ⟨by rfl, ?_⟩) hHeld ?_
            rotate_left
            · intro w' hSw
              (try dsimp only at hSw)
              go_simp
              try with_reducible rfl
            try simp only [Act.put, List.setIfInBounds_toArray, List.set_cons_zero, List.set_cons_succ, List.getElem_toArray, List.getElem_cons_zero, List.getElem_cons_succ]
            refine wpAnyH_take (i := 2) (oi := _) (v := ?_) rfl (by kernel_rfl) (by kernel_rfl) (by kernel_rfl) (fun _ _ _ h => h) (Or.inl ⟨by rfl, ?_⟩) hHeld ?_
            rotate_left
            · intro w' hSw
              (try dsimp only at hSw)
              go_simp
              try with_reducible rfl
            try simp only [Act.put, List.setIfInBounds_toArray, List.set_cons_zero, List.set_cons_succ, List.getElem_toArray, List.getElem_cons_zero, List.getElem_cons_succ]
            refine wpAnyH_take (i := 3) (oi := _) (v := undef) rfl (by kernel_rfl) (by kernel_rfl) (by kernel_rfl) (fun _ _ _ h => h) (Or.inr ⟨by rfl, rfl⟩) hHeld ?_
            try simp only [Act.put, List.setIfInBounds_toArray, List.set_cons_zero, List.set_cons_succ, List.getElem_toArray, List.getElem_cons_zero, List.getElem_cons_succ]
            refine wpAnyH_take (i := 4) (oi := _) (v := undef) rfl (by kernel_rfl) (by kernel_rfl) (by kernel_rfl) (fun _ _ _ h => h) (Or.inr ⟨by rfl, rfl⟩) hHeld ?_
            try simp only [Act.put, List.setIfInBounds_toArray, List.set_cons_zero, List.set_cons_succ, List.getElem_toArray, List.getElem_cons_zero, List.getElem_cons_succ]
            refine wpAnyH_take (i := 5) (oi := _) (v := undef) rfl (by kernel_rfl) (by kernel_rfl) (by kernel_rfl) (fun _ _ _ h => h) (Or.inr ⟨by rfl, rfl⟩) hHeld ?_
            try simp only [Act.put, List.setIfInBounds_toArray, List.set_cons_zero, List.set_cons_succ, List.getElem_toArray, List.getElem_cons_zero, List.getElem_cons_succ]
            refine wpAnyH_take (i := 6) (oi := _) (v := undef) rfl (by kernel_rfl) (by kernel_rfl) (by kernel_rfl) (fun _ _ _ h => h) (Or.inr ⟨by rfl, rfl⟩) hHeld ?_
            try simp only [Act.put, List.setIfInBounds_toArray, List.set_cons_zero, List.set_cons_succ, List.getElem_toArray, List.getElem_cons_zero, List.getElem_cons_succ]
            refine wpAnyH_take (i := 7) (oi := _) (v := undef) rfl (by kernel_rfl) (by kernel_rfl) (by kernel_rfl) (fun _ _ _ h => h) (Or.inr ⟨by rfl, rfl⟩) hHeld ?_
            try simp only [Act.put, List.setIfInBounds_toArray, List.set_cons_zero, List.set_cons_succ, List.getElem_toArray, List.getElem_cons_zero, List.getElem_cons_succ]
            refine wpAnyH_take (i := 8) (oi := _) (v := undef) rfl (by kernel_rfl) (by kernel_rfl) (by kernel_rfl) (fun _ _ _ h => h) (Or.inr ⟨by rfl, rfl⟩) hHeld ?_
            try simp only [Act.put, List.setIfInBounds_toArray, List.set_cons_zero, List.set_cons_succ, List.getElem_toArray, List.getElem_cons_zero, List.getElem_cons_succ]
            refine wpAnyH_take (i := 9) (oi := _) (v := undef) rfl (by kernel_rfl) (by kernel_rfl) (by kernel_rfl) (fun _ _ _ h => h) (Or.inr ⟨by rfl, rfl⟩) hHeld ?_
            try simp only [Act.put, List.setIfInBounds_toArray, List.set_cons_zero, List.set_cons_succ, List.getElem_toArray, List.getElem_cons_zero, List.getElem_cons_succ]
            refine wpAnyH_take (i := 10) (oi := _) (v := undef) rfl (by kernel_rfl) (by kernel_rfl) (by kernel_rfl) (fun _ _ _ h => h) (Or.inr ⟨by rfl, rfl⟩) hHeld ?_
            try simp only [Act.put, List.setIfInBounds_toArray, List.set_cons_zero, List.set_cons_succ, List.getElem_toArray, List.getElem_cons_zero, List.getElem_cons_succ]
            refine wpAnyH_take (i := 11) (oi := _) (v := undef) rfl (by kernel_rfl) (by kernel_rfl) (by kernel_rfl) (fun _ _ _ h => h) (Or.inr ⟨by rfl, rfl⟩) hHeld ?_
            try simp only [Act.put, List.setIfInBounds_toArray, List.set_cons_zero, List.set_cons_succ, List.getElem_toArray, List.getElem_cons_zero, List.getElem_cons_succ]
            refine wpAnyH_take (i := 12) (oi := _) (v := undef) rfl (by kernel_rfl) (by kernel_rfl) (by kernel_rfl) (fun _ _ _ h => h) (Or.inr ⟨by rfl, rfl⟩) hHeld ?_
            try simp only [Act.put, List.setIfInBounds_toArray, List.set_cons_zero, List.set_cons_succ, List.getElem_toArray, List.getElem_cons_zero, List.getElem_cons_succ]
            refine wpAnyH_take (i := 13) (oi := _) (v := undef) rfl (by kernel_rfl) (by kernel_rfl) (by kernel_rfl) (fun _ _ _ h => h) (Or.inr ⟨by rfl, rfl⟩) hHeld ?_
            try simp only [Act.put, List.setIfInBounds_toArray, List.set_cons_zero, List.set_cons_succ, List.getElem_toArray, List.getElem_cons_zero, List.getElem_cons_succ]
            refine wpAnyH_take (i := 14) (oi := _) (v := ?_) rfl (by kernel_rfl) (by kernel_rfl) (by kernel_rfl) (fun _ _ _ h => h) (Or.inl ⟨by rfl, ?_⟩) hHeld ?_
            rotate_left
            · intro w' hSw
              (try dsimp only at hSw)
              go_simp
              try with_reducible rfl
            try simp only [Act.put, List.setIfInBounds_toArray, List.set_cons_zero, List.set_cons_succ, List.getElem_toArray, List.getElem_cons_zero, List.getElem_cons_succ]
            refine wpAnyH_take (i := 15) (oi := _) (v := ?_) rfl (by kernel_rfl) (by kernel_rfl) (by kernel_rfl) (fun _ _ _ h => h) (Or.inl ⟨by rfl, ?_⟩) hHeld ?_
            rotate_left
            · intro w' hSw
              (try dsimp only at hSw)
              go_simp
              try with_reducible rfl
            try simp only [Act.put, List.setIfInBounds_toArray, List.set_cons_zero, List.set_cons_succ, List.getElem_toArray, List.getElem_cons_zero, List.getElem_cons_succ]
            refine wpAnyH_take (i := 16) (oi := _) (v := ?_) rfl (by kernel_rfl) (by kernel_rfl) (by kernel_rfl) (fun _ _ _ h => h) (Or.inl ⟨by rfl, ?_⟩) hHeld ?_
            rotate_left
            · intro w' hSw
              (try dsimp only at hSw)
              go_simp
              try with_reducible rfl
            try simp only [Act.put, List.setIfInBounds_toArray, List.set_cons_zero, List.set_cons_succ, List.getElem_toArray, List.getElem_cons_zero, List.getElem_cons_succ]
            refine wpAnyH_take (i := 17) (oi := _) (v := ?_) rfl (by kernel_rfl) (by kernel_rfl) (by kernel_rfl) (fun _ _ _ h => h) (Or.inl ⟨by rfl, ?_⟩) hHeld ?_
            rotate_left
            · intro w' hSw
              (try dsimp only at hSw)
              go_simp
              try with_reducible rfl
            try simp only [Act.put, List.setIfInBounds_toArray, List.set_cons_zero, List.set_cons_succ, List.getElem_toArray, List.getElem_cons_zero, List.getElem_cons_succ]
            refine wpAnyH_ready (rs := [18]) (by kernel_rfl) (by simp) ?_
            refine AllReadyH.cons rfl (fun K hK => ?_) ?_
            · go_simp
              go_at_call 60
              refine (HCH.out _ (HKL.out _ (((Keeps.refl (fun _ => False) w5).drew)))).mono ?_
              rintro e w7 ⟨rfl, hk7⟩
              have K7 := (((Keeps.refl (fun _ => False) w5).drew)).trans' hk7
              have HQ7 := HSW.out _ K7
              refine hK.out _ _ ?_ (fun hHeld => ?_)
              · exact HSW.out _ K7
              clear hK K
              try simp only [Act.put, List.setIfInBounds_toArray, List.set_cons_zero, List.set_cons_succ, List.getElem_toArray, List.getElem_cons_zero, List.getElem_cons_succ]
              refine wpAnyH_take (i := 19) (oi := _) (v := ?_) rfl (by kernel_rfl) (by kernel_rfl) (by kernel_rfl) (fun _ _ _ h => h) (Or.inl ⟨by rfl, ?_⟩) hHeld ?_
              rotate_left
              · intro w' hSw
                (try dsimp only at hSw)
                go_simp
                try with_reducible rfl
              try simp only [Act.put, List.setIfInBounds_toArray, List.set_cons_zero, List.set_cons_succ, List.getElem_toArray, List.getElem_cons_zero, List.getElem_cons_succ]
              refine wpAnyH_take (i := 20) (oi := _) (v := ?_) rfl (by kernel_rfl) (by kernel_rfl) (by kernel_rfl) (fun _ _ _ h => h) (Or.inl ⟨by rfl, ?_⟩) hHeld ?_
              rotate_left
              · intro w' hSw
                (try dsimp only at hSw)
                go_simp
                try with_reducible rfl
              try simp only [Act.put, List.setIfInBounds_toArray, List.set_cons_zero, List.set_cons_succ, List.getElem_toArray, List.getElem_cons_zero, List.getElem_cons_succ]
              refine wpAnyH_take (i := 21) (oi := _) (v := ?_) rfl (by kernel_rfl) (by kernel_rfl) (by kernel_rfl) (fun _ _ _ h => h) (Or.inl ⟨by rfl, ?_⟩) hHeld ?_
              rotate_left
              · intro w' hSw
                (try dsimp only at hSw)
                go_simp
                try with_reducible rfl
              try simp only [Act.put, List.setIfInBounds_toArray, List.set_cons_zero, List.set_cons_succ, List.getElem_toArray, List.getElem_cons_zero, List.getElem_cons_succ]
              refine wpAnyH_take (i := 22) (oi := _) (v := ?_) rfl (by kernel_rfl) (by kernel_rfl) (by kernel_rfl) (fun _ _ _ h => h) (Or.inl ⟨by rfl, ?_⟩) hHeld ?_
              rotate_left
              · intro w' hSw
                (try dsimp only at hSw)
                go_simp
                try with_reducible rfl
              try simp only [Act.put, List.setIfInBounds_toArray, List.set_cons_zero, List.set_cons_succ, List.getElem_toArray, List.getElem_cons_zero, List.getElem_cons_succ]
              refine wpAnyH_take (i := 23) (oi := _) (v := ?_) rfl (by kernel_rfl) (by kernel_rfl) (by kernel_rfl) (fun _ _ _ h => h) (Or.inl ⟨by rfl, ?_⟩) hHeld ?_
              rotate_left
              · intro w' hSw
                (try dsimp only at hSw)
                go_simp
                try with_reducible rfl
              try simp only [Act.put, List.setIfInBounds_toArray, List.set_cons_zero, List.set_cons_succ, List.getElem_toArray, List.getElem_cons_zero, List.getElem_cons_succ]
              refine wpAnyH_take (i := 24) (oi := _) (v := ?_) rfl (by kernel_rfl) (by kernel_rfl) (by kernel_rfl) (fun _ _ _ h => h) (Or.inl ⟨by rfl, ?_⟩) hHeld ?_
              rotate_left
              · intro w' hSw
                (try dsimp only at hSw)
                go_simp
                try with_reducible rfl
              try simp only [Act.put, List.setIfInBounds_toArray, List.set_cons_zero, List.set_cons_succ, List.getElem_toArray, List.getElem_cons_zero, List.getElem_cons_succ]
              refine wpAnyH_take (i := 25) (oi := _) (v := ?_) rfl (by kernel_rfl) (by kernel_rfl) (by kernel_rfl) (fun _ _ _ h => h) (Or.inl ⟨by rfl, ?_⟩) hHeld ?_
              rotate_left
              · intro w' hSw
                (try dsimp only at hSw)
                go_simp
                try with_reducible rfl
              try simp only [Act.put, List.setIfInBounds_toArray, List.set_cons_zero, List.set_cons_succ, List.getElem_toArray, List.getElem_cons_zero, List.getElem_cons_succ]
              refine wpAnyH_done (by kernel_rfl) ?_ _
              have S7 := SX.keep (K7)
              clear SX HSW HCH HKL c0 x0' x1' x2' x3'
              go_wp2_with fail
              refine (s_rfail S7.p5).mono ?_
              rintro e w8 ⟨rfl, S7b⟩
              have S8 := S7b.b5
              clear S7 S7b
              have HSTP : Hid (wsR x0 (0 + 1) = ([] ++ [⟨t1, t2, t3, t4⟩], fl)) := hide (by rw [HSB.out]; first | rfl | simp)
              obtain ⟨yy, hyy⟩ : ∃ z : RS, z = fl := ⟨_, rfl⟩
              rw [← hyy] at S8 HSTP
              clear hyy HSB
              have k0 := S8.cell 0 _ rfl
              have k2 := (S8.box #[.int .i64 t1, .string (S t2), .bool t3, .bool t4] 96 rfl).p1.cell 0 _ rfl
              have HQ8 := HX.out _ _ S8 (by simp)
              obtain ⟨z0, z1, z2, z3⟩ := HQ8
              go_upto_region 8 with fail
              refine wp_region_held_drew (S := fun w' => w'.cell? ⟨xb, 0, none⟩ = some (.int .i64 t1) ∧ w'.cell? ⟨xb, 1, none⟩ = some (.string (S t2)) ∧ w'.cell? ⟨xb, 2, none⟩ = some (.bool t3) ∧ w'.cell? ⟨xb, 3, none⟩ = some (.bool t4)) (by kernel_rfl) ?_ (fun hHeld => ?_)
              · exact HX.out _ _ S8.drew (by simp)
              refine wpAnyH_take (i := 0) (oi := _) (v := ?_) rfl (by kernel_rfl) (by kernel_rfl) (by kernel_rfl) (fun _ _ _ h => h) (Or.inl ⟨by rfl, ?_⟩) hHeld ?_
              rotate_left
              · intro w' hSw
                (try dsimp only at hSw)
                go_simp
                try with_reducible rfl
              try simp only [Act.put, List.setIfInBounds_toArray, List.set_cons_zero, List.set_cons_succ, List.getElem_toArray, List.getElem_cons_zero, List.getElem_cons_succ]
              refine wpAnyH_take (i := 1) (oi := _) (v := ?_) rfl (by kernel_rfl) (by kernel_rfl) (by kernel_rfl) (fun _ _ _ h => h) (Or.inl ⟨by rfl, ?_⟩) hHeld ?_
              rotate_left
              · intro w' hSw
                (try dsimp only at hSw)
                go_simp
                try with_reducible rfl
              try simp only [Act.put, List.setIfInBounds_toArray, List.set_cons_zero, List.set_cons_succ, List.getElem_toArray, List.getElem_cons_zero, List.getElem_cons_succ]
              refine wpAnyH_take (i := 2) (oi := _) (v := ?_) rfl (by kernel_rfl) (by kernel_rfl) (by kernel_rfl) (fun _ _ _ h => h) (Or.inl ⟨by rfl, ?_⟩) hHeld ?_
              rotate_left
              · intro w' hSw
                (try dsimp only at hSw)
                go_simp
                try with_reducible rfl
              try simp only [Act.put, List.setIfInBounds_toArray, List.set_cons_zero, List.set_cons_succ, List.getElem_toArray, List.getElem_cons_zero, List.getElem_cons_succ]
              refine wpAnyH_take (i := 3) (oi := _) (v := ?_) rfl (by kernel_rfl) (by kernel_rfl) (by kernel_rfl) (fun _ _ _ h => h) (Or.inl ⟨by rfl, ?_⟩) hHeld ?_
              rotate_left
              · intro w' hSw
                (try dsimp only at hSw)
                go_simp
                try with_reducible rfl
              try simp only [Act.put, List.setIfInBounds_toArray, List.set_cons_zero, List.set_cons_succ, List.getElem_toArray, List.getElem_cons_zero, List.getElem_cons_succ]
              refine wpAnyH_take (i := 5) (oi := _) (v := ?_) rfl (by kernel_rfl) (by kernel_rfl) (by kernel_rfl) (fun _ _ _ h => h) (Or.inl ⟨by rfl, ?_⟩) hHeld ?_
              rotate_left
              · intro w' hSw
                (try dsimp only at hSw)
                go_simp
                try with_reducible rfl
              try simp only [Act.put, List.setIfInBounds_toArray, List.set_cons_zero, List.set_cons_succ, List.getElem_toArray, List.getElem_cons_zero, List.getElem_cons_succ]
              refine wpAnyH_ready (rs := [4, 6]) (by kernel_rfl) (by simp) ?_
              refine AllReadyH.cons rfl (fun K hK => ?_) ?_
              · go_simp
                refine hK.out _ _ ?_ (fun hHeld => ?_)
                · exact HX.out _ _ S8.drew (by simp)
                clear hK K
                try simp only [Act.put, List.setIfInBounds_toArray, List.set_cons_zero, List.set_cons_succ, List.getElem_toArray, List.getElem_cons_zero, List.getElem_cons_succ]
                refine wpAnyH_ready (rs := [6]) (by kernel_rfl) (by simp) ?_
                refine AllReadyH.cons rfl (fun K hK => ?_) ?_
                · go_simp
                  refine hK.out _ _ ?_ (fun hHeld => ?_)
                  · exact HX.out _ _ (S8.box #[.int .i64 t1, .string (S t2), .bool t3, .bool t4] 96 rfl).drew (by simp)
                  clear hK K
                  try simp only [Act.put, List.setIfInBounds_toArray, List.set_cons_zero, List.set_cons_succ, List.getElem_toArray, List.getElem_cons_zero, List.getElem_cons_succ]
                  refine wpAnyH_ready (rs := [7]) (by kernel_rfl) (by simp) ?_
                  refine AllReadyH.cons rfl (fun K hK => ?_) ?_
                  · refine step_app slW rfl (.tmp 61) (.tmp 63) rfl (g := g) (S := ((S8.box #[.int .i64 t1, .string (S t2), .bool t3, .bool t4] 96 rfl).drew).p4) (by go_simp) (c := 1) (Src.block (heap_alloc_new _ _) 4 1 rfl) (by go_simp) (by simp [Value.oneCell']) (by unfold maxLen; omega) (by omega) ?_
                    intro A8 c8 w10 S10
                    have k0 := S10.p2.cell 0 _ rfl
                    have k1 := S10.p2.cells_fz 0
                    have HQ10 := HX.out _ _ S10 (by simp)
                    refine hK.out _ _ ?_ (fun hHeld => ?_)
                    · exact HX.out _ _ S10 (by simp)
                    clear hK K
                    try simp only [Act.put, List.setIfInBounds_toArray, List.set_cons_zero, List.set_cons_succ, List.getElem_toArray, List.getElem_cons_zero, List.getElem_cons_succ]
                    refine wpAnyH_take (i := 8) (oi := _) (v := ?_) rfl (by kernel_rfl) (by kernel_rfl) (by kernel_rfl) (fun _ _ _ h => h) (Or.inl ⟨by rfl, ?_⟩) hHeld ?_
                    rotate_left
                    · intro w' hSw
                      (try dsimp only at hSw)
                      go_simp
                      try with_reducible rfl
                    try simp only [Act.put, List.setIfInBounds_toArray, List.set_cons_zero, List.set_cons_succ, List.getElem_toArray, List.getElem_cons_zero, List.getElem_cons_succ]
                    refine wpAnyH_take (i := 9) (oi := _) (v := ?_) rfl (by kernel_rfl) (by kernel_rfl) (by kernel_rfl) (fun _ _ _ h => h) (Or.inl ⟨by rfl, ?_⟩) hHeld ?_
                    rotate_left
                    · intro w' hSw
                      (try dsimp only at hSw)
                      go_simp
                      try with_reducible rfl
                    try simp only [Act.put, List.setIfInBounds_toArray, List.set_cons_zero, List.set_cons_succ, List.getElem_toArray, List.getElem_cons_zero, List.getElem_cons_succ]
                    refine wpAnyH_ready (rs := [10]) (by kernel_rfl) (by simp) ?_
                    refine AllReadyH.cons rfl (fun K hK => ?_) ?_
                    · go_simp
                      refine hK.out _ _ ?_ (fun hHeld => ?_)
                      · exact HX.out _ _ (S10.p2.setc 0 _) (by simp)
                      clear hK K
                      try simp only [Act.put, List.setIfInBounds_toArray, List.set_cons_zero, List.set_cons_succ, List.getElem_toArray, List.getElem_cons_zero, List.getElem_cons_succ]
                      refine wpAnyH_done (by kernel_rfl) ?_ _
                      have S11 := (S10.p2.setc 0 (.slice A8 (0 + 1) c8)).p2.drop.p4.drop.p1.b3
                      have S12 : Sat g (w10.setCell ⟨t, 0, none⟩ (.slice A8 (0 + 1) c8)) (cellsA t 99 #[.slice A8 ([] ++ [(⟨t1, t2, t3, t4⟩ : WatT)]).length c8, ev, .map (some m)] :: rowA 74 5 ev 0 [] :: mapA kW kW m [] :: rowA 96 4 (.slice A8 ([] ++ [(⟨t1, t2, t3, t4⟩ : WatT)]).length c8) ([] ++ [(⟨t1, t2, t3, t4⟩ : WatT)]).length (([] ++ [(⟨t1, t2, t3, t4⟩ : WatT)]).flatMap watC) :: rdA r yy :: L) := by
                        rw [List.length_append, List.length_singleton, List.flatMap_append, List.flatMap_singleton]
                        exact S11
                      have HS12 := hide (((S12.notesShut (es := [])).bookShut (B := ⟨[] ++ [⟨t1, t2, t3, t4⟩], [], []⟩)).p1)
                      clear S8 S10 S11 S12
                      go_wp2_with fail
                      go_roundw
                      case rel => exact ⟨0 + 1, by omega, (by first | rfl | go_num), by rw [HSTP.out]; exact HS12.out⟩
                      case measure => simp [RowKit.intOf] <;> omega
                    exact AllReadyH.nil
                  exact AllReadyH.nil
                exact AllReadyH.nil
              refine AllReadyH.cons rfl (fun K hK => ?_) ?_
              · go_simp
                refine hK.out _ _ ?_ (fun hHeld => ?_)
                · exact HX.out _ _ (S8.box #[.int .i64 t1, .string (S t2), .bool t3, .bool t4] 96 rfl).drew (by simp)
                clear hK K
                try simp only [Act.put, List.setIfInBounds_toArray, List.set_cons_zero, List.set_cons_succ, List.getElem_toArray, List.getElem_cons_zero, List.getElem_cons_succ]
                refine wpAnyH_ready (rs := [4]) (by kernel_rfl) (by simp) ?_
                refine AllReadyH.cons rfl (fun K hK => ?_) ?_
                · go_simp
                  refine hK.out _ _ ?_ (fun hHeld => ?_)
                  · exact HX.out _ _ (S8.box #[.int .i64 t1, .string (S t2), .bool t3, .bool t4] 96 rfl).drew (by simp)
                  clear hK K
                  try simp only [Act.put, List.setIfInBounds_toArray, List.set_cons_zero, List.set_cons_succ, List.getElem_toArray, List.getElem_cons_zero, List.getElem_cons_succ]
                  refine wpAnyH_ready (rs := [7]) (by kernel_rfl) (by simp) ?_
                  refine AllReadyH.cons rfl (fun K hK => ?_) ?_
                  · refine step_app slW rfl (.tmp 61) (.tmp 63) rfl (g := g) (S := ((S8.box #[.int .i64 t1, .string (S t2), .bool t3, .bool t4] 96 rfl).drew).p4) (by go_simp) (c := 1) (Src.block (heap_alloc_new _ _) 4 1 rfl) (by go_simp) (by simp [Value.oneCell']) (by unfold maxLen; omega) (by omega) ?_
                    intro A8 c8 w10 S10
                    have k0 := S10.p2.cell 0 _ rfl
                    have k1 := S10.p2.cells_fz 0
                    have HQ10 := HX.out _ _ S10 (by simp)
                    refine hK.out _ _ ?_ (fun hHeld => ?_)
                    · exact HX.out _ _ S10 (by simp)
                    clear hK K
                    try simp only [Act.put, List.setIfInBounds_toArray, List.set_cons_zero, List.set_cons_succ, List.getElem_toArray, List.getElem_cons_zero, List.getElem_cons_succ]
                    refine wpAnyH_take (i := 8) (oi := _) (v := ?_) rfl (by kernel_rfl) (by kernel_rfl) (by kernel_rfl) (fun _ _ _ h => h) (Or.inl ⟨by rfl, ?_⟩) hHeld ?_
                    rotate_left
                    · intro w' hSw
                      (try dsimp only at hSw)
                      go_simp
                      try with_reducible rfl
                    try simp only [Act.put, List.setIfInBounds_toArray, List.set_cons_zero, List.set_cons_succ, List.getElem_toArray, List.getElem_cons_zero, List.getElem_cons_succ]
                    refine wpAnyH_take (i := 9) (oi := _) (v := ?_) rfl (by kernel_rfl) (by kernel_rfl) (by kernel_rfl) (fun _ _ _ h => h) (Or.inl ⟨by rfl, ?_⟩) hHeld ?_
                    rotate_left
                    · intro w' hSw
                      (try dsimp only at hSw)
                      go_simp
                      try with_reducible rfl
                    try simp only [Act.put, List.setIfInBounds_toArray, List.set_cons_zero, List.set_cons_succ, List.getElem_toArray, List.getElem_cons_zero, List.getElem_cons_succ]
                    refine wpAnyH_ready (rs := [10]) (by kernel_rfl) (by simp) ?_
                    refine AllReadyH.cons rfl (fun K hK => ?_) ?_
                    · go_simp
                      refine hK.out _ _ ?_ (fun hHeld => ?_)
                      · exact HX.out _ _ (S10.p2.setc 0 _) (by simp)
                      clear hK K
                      try simp only [Act.put, List.setIfInBounds_toArray, List.set_cons_zero, List.set_cons_succ, List.getElem_toArray, List.getElem_cons_zero, List.getElem_cons_succ]
                      refine wpAnyH_done (by kernel_rfl) ?_ _
                      have S11 := (S10.p2.setc 0 (.slice A8 (0 + 1) c8)).p2.drop.p4.drop.p1.b3
                      have S12 : Sat g (w10.setCell ⟨t, 0, none⟩ (.slice A8 (0 + 1) c8)) (cellsA t 99 #[.slice A8 ([] ++ [(⟨t1, t2, t3, t4⟩ : WatT)]).length c8, ev, .map (some m)] :: rowA 74 5 ev 0 [] :: mapA kW kW m [] :: rowA 96 4 (.slice A8 ([] ++ [(⟨t1, t2, t3, t4⟩ : WatT)]).length c8) ([] ++ [(⟨t1, t2, t3, t4⟩ : WatT)]).length (([] ++ [(⟨t1, t2, t3, t4⟩ : WatT)]).flatMap watC) :: rdA r yy :: L) := by
                        rw [List.length_append, List.length_singleton, List.flatMap_append, List.flatMap_singleton]
                        exact S11
                      have HS12 := hide (((S12.notesShut (es := [])).bookShut (B := ⟨[] ++ [⟨t1, t2, t3, t4⟩], [], []⟩)).p1)
                      clear S8 S10 S11 S12
                      go_wp2_with fail
                      go_roundw
                      case rel => exact ⟨0 + 1, by omega, (by first | rfl | go_num), by rw [HSTP.out]; exact HS12.out⟩
                      case measure => simp [RowKit.intOf] <;> omega
                    exact AllReadyH.nil
                  exact AllReadyH.nil
                exact AllReadyH.nil
              exact AllReadyH.nil
            exact AllReadyH.nil

          · have hbd : BD = false := by rw [HBW.out, hlb]; simp [ht]
            subst hbd
            have htb : decide (t1 < 1) = false := by simpa using ht
            clear HBW hlb
            refine wp_region_held_drew (S := fun w' => w'.cell? ⟨xb, 0, none⟩ = some (.int .i64 t1) ∧ w'.cell? ⟨xb, 1, none⟩ = some (.string (S t2)) ∧ w'.cell? ⟨xb, 2, none⟩ = some (.bool t3) ∧ w'.cell? ⟨xb, 3, none⟩ = some (.bool t4)) (by kernel_rfl) ?_ (fun hHeld => ?_)
            · exact HSW.out _ (((Keeps.refl (fun _ => False) w5).drew))
            refine wpAnyH_take (i := 0) (oi := _) (v := ?_) rfl (by kernel_rfl) (by kernel_rfl) (by kernel_rfl) (fun _ _ _ h => h) (Or.inl ⟨by rfl, ?_⟩) hHeld ?_
            rotate_left
            · intro w' hSw
              (try dsimp only at hSw)
              go_simp
              try with_reducible rfl
            try simp only [Act.put, List.setIfInBounds_toArray, List.set_cons_zero, List.set_cons_succ, List.getElem_toArray, List.getElem_cons_zero, List.getElem_cons_succ]
            refine wpAnyH_take (i := 1) (oi := _) (v := ?_) rfl (by kernel_rfl) (by kernel_rfl) (by kernel_rfl) (fun _ _ _ h => h) (Or.inl ⟨by rfl, ?_⟩) hHeld ?_
            rotate_left
            · intro w' hSw
              (try dsimp only at hSw)
              go_simp
              try with_reducible rfl
            try simp only [Act.put, List.setIfInBounds_toArray, List.set_cons_zero, List.set_cons_succ, List.getElem_toArray, List.getElem_cons_zero, List.getElem_cons_succ]
            refine wpAnyH_take (i := 2) (oi := _) (v := ?_) rfl (by kernel_rfl) (by kernel_rfl) (by kernel_rfl) (fun _ _ _ h => h) (Or.inl ⟨by rfl, ?_⟩) hHeld ?_
            rotate_left
            · intro w' hSw
              (try dsimp only at hSw)
              go_simp
              try with_reducible rfl
            try simp only [Act.put, List.setIfInBounds_toArray, List.set_cons_zero, List.set_cons_succ, List.getElem_toArray, List.getElem_cons_zero, List.getElem_cons_succ]
            refine wpAnyH_take (i := 3) (oi := _) (v := undef) rfl (by kernel_rfl) (by kernel_rfl) (by kernel_rfl) (fun _ _ _ h => h) (Or.inr ⟨by rfl, rfl⟩) hHeld ?_
            try simp only [Act.put, List.setIfInBounds_toArray, List.set_cons_zero, List.set_cons_succ, List.getElem_toArray, List.getElem_cons_zero, List.getElem_cons_succ]
            refine wpAnyH_take (i := 4) (oi := _) (v := undef) rfl (by kernel_rfl) (by kernel_rfl) (by kernel_rfl) (fun _ _ _ h => h) (Or.inr ⟨by rfl, rfl⟩) hHeld ?_
            try simp only [Act.put, List.setIfInBounds_toArray, List.set_cons_zero, List.set_cons_succ, List.getElem_toArray, List.getElem_cons_zero, List.getElem_cons_succ]
            refine wpAnyH_take (i := 5) (oi := _) (v := undef) rfl (by kernel_rfl) (by kernel_rfl) (by kernel_rfl) (fun _ _ _ h => h) (Or.inr ⟨by rfl, rfl⟩) hHeld ?_
            try simp only [Act.put, List.setIfInBounds_toArray, List.set_cons_zero, List.set_cons_succ, List.getElem_toArray, List.getElem_cons_zero, List.getElem_cons_succ]
            refine wpAnyH_take (i := 6) (oi := _) (v := undef) rfl (by kernel_rfl) (by kernel_rfl) (by kernel_rfl) (fun _ _ _ h => h) (Or.inr ⟨by rfl, rfl⟩) hHeld ?_
            try simp only [Act.put, List.setIfInBounds_toArray, List.set_cons_zero, List.set_cons_succ, List.getElem_toArray, List.getElem_cons_zero, List.getElem_cons_succ]
            refine wpAnyH_take (i := 7) (oi := _) (v := undef) rfl (by kernel_rfl) (by kernel_rfl) (by kernel_rfl) (fun _ _ _ h => h) (Or.inr ⟨by rfl, rfl⟩) hHeld ?_
            try simp only [Act.put, List.setIfInBounds_toArray, List.set_cons_zero, List.set_cons_succ, List.getElem_toArray, List.getElem_cons_zero, List.getElem_cons_succ]
            refine wpAnyH_take (i := 8) (oi := _) (v := undef) rfl (by kernel_rfl) (by kernel_rfl) (by kernel_rfl) (fun _ _ _ h => h) (Or.inr ⟨by rfl, rfl⟩) hHeld ?_
            try simp only [Act.put, List.setIfInBounds_toArray, List.set_cons_zero, List.set_cons_succ, List.getElem_toArray, List.getElem_cons_zero, List.getElem_cons_succ]
            refine wpAnyH_take (i := 9) (oi := _) (v := undef) rfl (by kernel_rfl) (by kernel_rfl) (by kernel_rfl) (fun _ _ _ h => h) (Or.inr ⟨by rfl, rfl⟩) hHeld ?_
            try simp only [Act.put, List.setIfInBounds_toArray, List.set_cons_zero, List.set_cons_succ, List.getElem_toArray, List.getElem_cons_zero, List.getElem_cons_succ]
            refine wpAnyH_take (i := 10) (oi := _) (v := undef) rfl (by kernel_rfl) (by kernel_rfl) (by kernel_rfl) (fun _ _ _ h => h) (Or.inr ⟨by rfl, rfl⟩) hHeld ?_
            try simp only [Act.put, List.setIfInBounds_toArray, List.set_cons_zero, List.set_cons_succ, List.getElem_toArray, List.getElem_cons_zero, List.getElem_cons_succ]
            refine wpAnyH_take (i := 11) (oi := _) (v := undef) rfl (by kernel_rfl) (by kernel_rfl) (by kernel_rfl) (fun _ _ _ h => h) (Or.inr ⟨by rfl, rfl⟩) hHeld ?_
            try simp only [Act.put, List.setIfInBounds_toArray, List.set_cons_zero, List.set_cons_succ, List.getElem_toArray, List.getElem_cons_zero, List.getElem_cons_succ]
            refine wpAnyH_take (i := 12) (oi := _) (v := undef) rfl (by kernel_rfl) (by kernel_rfl) (by kernel_rfl) (fun _ _ _ h => h) (Or.inr ⟨by rfl, rfl⟩) hHeld ?_
            try simp only [Act.put, List.setIfInBounds_toArray, List.set_cons_zero, List.set_cons_succ, List.getElem_toArray, List.getElem_cons_zero, List.getElem_cons_succ]
            refine wpAnyH_take (i := 13) (oi := _) (v := undef) rfl (by kernel_rfl) (by kernel_rfl) (by kernel_rfl) (fun _ _ _ h => h) (Or.inr ⟨by rfl, rfl⟩) hHeld ?_
            try simp only [Act.put, List.setIfInBounds_toArray, List.set_cons_zero, List.set_cons_succ, List.getElem_toArray, List.getElem_cons_zero, List.getElem_cons_succ]
            refine wpAnyH_take (i := 14) (oi := _) (v := ?_) rfl (by kernel_rfl) (by kernel_rfl) (by kernel_rfl) (fun _ _ _ h => h) (Or.inl ⟨by rfl, ?_⟩) hHeld ?_
            rotate_left
            · intro w' hSw
              (try dsimp only at hSw)
              go_simp
              try with_reducible rfl
            try simp only [Act.put, List.setIfInBounds_toArray, List.set_cons_zero, List.set_cons_succ, List.getElem_toArray, List.getElem_cons_zero, List.getElem_cons_succ]
            refine wpAnyH_take (i := 15) (oi := _) (v := ?_) rfl (by kernel_rfl) (by kernel_rfl) (by kernel_rfl) (fun _ _ _ h => h) (Or.inl ⟨by rfl, ?_⟩) hHeld ?_
            rotate_left
            · intro w' hSw
              (try dsimp only at hSw)
              go_simp
              try with_reducible rfl
            try simp only [Act.put, List.setIfInBounds_toArray, List.set_cons_zero, List.set_cons_succ, List.getElem_toArray, List.getElem_cons_zero, List.getElem_cons_succ]
            refine wpAnyH_take (i := 16) (oi := _) (v := ?_) rfl (by kernel_rfl) (by kernel_rfl) (by kernel_rfl) (fun _ _ _ h => h) (Or.inl ⟨by rfl, ?_⟩) hHeld ?_
            rotate_left
            · intro w' hSw
              (try dsimp only at hSw)
              go_simp
              try with_reducible rfl
            try simp only [Act.put, List.setIfInBounds_toArray, List.set_cons_zero, List.set_cons_succ, List.getElem_toArray, List.getElem_cons_zero, List.getElem_cons_succ]
            refine wpAnyH_take (i := 17) (oi := _) (v := ?_) rfl (by kernel_rfl) (by kernel_rfl) (by kernel_rfl) (fun _ _ _ h => h) (Or.inl ⟨by rfl, ?_⟩) hHeld ?_
            rotate_left
            · intro w' hSw
              (try dsimp only at hSw)
              go_simp
              try with_reducible rfl
            try simp only [Act.put, List.setIfInBounds_toArray, List.set_cons_zero, List.set_cons_succ, List.getElem_toArray, List.getElem_cons_zero, List.getElem_cons_succ]
            refine wpAnyH_ready (rs := [18]) (by kernel_rfl) (by simp) ?_
            refine AllReadyH.cons rfl (fun K hK => ?_) ?_
            · go_simp
              go_at_call 60
              refine (HCH.out _ (HKL.out _ (((Keeps.refl (fun _ => False) w5).drew)))).mono ?_
              rintro e w7 ⟨rfl, hk7⟩
              have K7 := (((Keeps.refl (fun _ => False) w5).drew)).trans' hk7
              have HQ7 := HSW.out _ K7
              refine hK.out _ _ ?_ (fun hHeld => ?_)
              · exact HSW.out _ K7
              clear hK K
              try simp only [Act.put, List.setIfInBounds_toArray, List.set_cons_zero, List.set_cons_succ, List.getElem_toArray, List.getElem_cons_zero, List.getElem_cons_succ]
              refine wpAnyH_take (i := 19) (oi := _) (v := ?_) rfl (by kernel_rfl) (by kernel_rfl) (by kernel_rfl) (fun _ _ _ h => h) (Or.inl ⟨by rfl, ?_⟩) hHeld ?_
              rotate_left
              · intro w' hSw
                (try dsimp only at hSw)
                go_simp
                try with_reducible rfl
              try simp only [Act.put, List.setIfInBounds_toArray, List.set_cons_zero, List.set_cons_succ, List.getElem_toArray, List.getElem_cons_zero, List.getElem_cons_succ]
              refine wpAnyH_take (i := 20) (oi := _) (v := ?_) rfl (by kernel_rfl) (by kernel_rfl) (by kernel_rfl) (fun _ _ _ h => h) (Or.inl ⟨by rfl, ?_⟩) hHeld ?_
              rotate_left
              · intro w' hSw
                (try dsimp only at hSw)
                go_simp
                try with_reducible rfl
              try simp only [Act.put, List.setIfInBounds_toArray, List.set_cons_zero, List.set_cons_succ, List.getElem_toArray, List.getElem_cons_zero, List.getElem_cons_succ]
              refine wpAnyH_take (i := 21) (oi := _) (v := ?_) rfl (by kernel_rfl) (by kernel_rfl) (by kernel_rfl) (fun _ _ _ h => h) (Or.inl ⟨by rfl, ?_⟩) hHeld ?_
              rotate_left
              · intro w' hSw
                (try dsimp only at hSw)
                go_simp
                try with_reducible rfl
              try simp only [Act.put, List.setIfInBounds_toArray, List.set_cons_zero, List.set_cons_succ, List.getElem_toArray, List.getElem_cons_zero, List.getElem_cons_succ]
              refine wpAnyH_take (i := 22) (oi := _) (v := ?_) rfl (by kernel_rfl) (by kernel_rfl) (by kernel_rfl) (fun _ _ _ h => h) (Or.inl ⟨by rfl, ?_⟩) hHeld ?_
              rotate_left
              · intro w' hSw
                (try dsimp only at hSw)
                go_simp
                try with_reducible rfl
              try simp only [Act.put, List.setIfInBounds_toArray, List.set_cons_zero, List.set_cons_succ, List.getElem_toArray, List.getElem_cons_zero, List.getElem_cons_succ]
              refine wpAnyH_take (i := 23) (oi := _) (v := ?_) rfl (by kernel_rfl) (by kernel_rfl) (by kernel_rfl) (fun _ _ _ h => h) (Or.inl ⟨by rfl, ?_⟩) hHeld ?_
              rotate_left
              · intro w' hSw
                (try dsimp only at hSw)
                go_simp
                try with_reducible rfl
              try simp only [Act.put, List.setIfInBounds_toArray, List.set_cons_zero, List.set_cons_succ, List.getElem_toArray, List.getElem_cons_zero, List.getElem_cons_succ]
              refine wpAnyH_take (i := 24) (oi := _) (v := ?_) rfl (by kernel_rfl) (by kernel_rfl) (by kernel_rfl) (fun _ _ _ h => h) (Or.inl ⟨by rfl, ?_⟩) hHeld ?_
              rotate_left
              · intro w' hSw
                (try dsimp only at hSw)
                go_simp
                try with_reducible rfl
              try simp only [Act.put, List.setIfInBounds_toArray, List.set_cons_zero, List.set_cons_succ, List.getElem_toArray, List.getElem_cons_zero, List.getElem_cons_succ]
              refine wpAnyH_take (i := 25) (oi := _) (v := ?_) rfl (by kernel_rfl) (by kernel_rfl) (by kernel_rfl) (fun _ _ _ h => h) (Or.inl ⟨by rfl, ?_⟩) hHeld ?_
              rotate_left
              · intro w' hSw
                (try dsimp only at hSw)
                go_simp
                try with_reducible rfl
              try simp only [Act.put, List.setIfInBounds_toArray, List.set_cons_zero, List.set_cons_succ, List.getElem_toArray, List.getElem_cons_zero, List.getElem_cons_succ]
              refine wpAnyH_done (by kernel_rfl) ?_ _
              have S7 := SX.keep (K7)
              clear SX HSW HCH HKL c0 x0' x1' x2' x3'
              have S8 := S7
              clear S7
              have HSTP : Hid (wsR x0 (0 + 1) = ([] ++ [⟨t1, t2, t3, t4⟩], y4)) := hide (by rw [HSB.out]; first | rfl | simp)
              obtain ⟨yy, hyy⟩ : ∃ z : RS, z = y4 := ⟨_, rfl⟩
              rw [← hyy] at S8 HSTP
              clear hyy HSB
              have k0 := S8.cell 0 _ rfl
              have k2 := (S8.box #[.int .i64 t1, .string (S t2), .bool t3, .bool t4] 96 rfl).p1.cell 0 _ rfl
              have HQ8 := HX.out _ _ S8 (by simp)
              obtain ⟨z0, z1, z2, z3⟩ := HQ8
              go_upto_region 8 with fail
              refine wp_region_held_drew (S := fun w' => w'.cell? ⟨xb, 0, none⟩ = some (.int .i64 t1) ∧ w'.cell? ⟨xb, 1, none⟩ = some (.string (S t2)) ∧ w'.cell? ⟨xb, 2, none⟩ = some (.bool t3) ∧ w'.cell? ⟨xb, 3, none⟩ = some (.bool t4)) (by kernel_rfl) ?_ (fun hHeld => ?_)
              · exact HX.out _ _ S8.drew (by simp)
              refine wpAnyH_take (i := 0) (oi := _) (v := ?_) rfl (by kernel_rfl) (by kernel_rfl) (by kernel_rfl) (fun _ _ _ h => h) (Or.inl ⟨by rfl, ?_⟩) hHeld ?_
              rotate_left
              · intro w' hSw
                (try dsimp only at hSw)
                go_simp
                try with_reducible rfl
              try simp only [Act.put, List.setIfInBounds_toArray, List.set_cons_zero, List.set_cons_succ, List.getElem_toArray, List.getElem_cons_zero, List.getElem_cons_succ]
              refine wpAnyH_take (i := 1) (oi := _) (v := ?_) rfl (by kernel_rfl) (by kernel_rfl) (by kernel_rfl) (fun _ _ _ h => h) (Or.inl ⟨by rfl, ?_⟩) hHeld ?_
              rotate_left
              · intro w' hSw
                (try dsimp only at hSw)
                go_simp
                try with_reducible rfl
              try simp only [Act.put, List.setIfInBounds_toArray, List.set_cons_zero, List.set_cons_succ, List.getElem_toArray, List.getElem_cons_zero, List.getElem_cons_succ]
              refine wpAnyH_take (i := 2) (oi := _) (v := ?_) rfl (by kernel_rfl) (by kernel_rfl) (by kernel_rfl) (fun _ _ _ h => h) (Or.inl ⟨by rfl, ?_⟩) hHeld ?_
              rotate_left
              · intro w' hSw
                (try dsimp only at hSw)
                go_simp
                try with_reducible rfl
              try simp only [Act.put, List.setIfInBounds_toArray, List.set_cons_zero, List.set_cons_succ, List.getElem_toArray, List.getElem_cons_zero, List.getElem_cons_succ]
              refine wpAnyH_take (i := 3) (oi := _) (v := ?_) rfl (by kernel_rfl) (by kernel_rfl) (by kernel_rfl) (fun _ _ _ h => h) (Or.inl ⟨by rfl, ?_⟩) hHeld ?_
              rotate_left
              · intro w' hSw
                (try dsimp only at hSw)
                go_simp
                try with_reducible rfl
              try simp only [Act.put, List.setIfInBounds_toArray, List.set_cons_zero, List.set_cons_succ, List.getElem_toArray, List.getElem_cons_zero, List.getElem_cons_succ]
              refine wpAnyH_take (i := 5) (oi := _) (v := ?_) rfl (by kernel_rfl) (by kernel_rfl) (by kernel_rfl) (fun _ _ _ h => h) (Or.inl ⟨by rfl, ?_⟩) hHeld ?_
              rotate_left
              · intro w' hSw
                (try dsimp only at hSw)
                go_simp
                try with_reducible rfl
              try simp only [Act.put, List.setIfInBounds_toArray, List.set_cons_zero, List.set_cons_succ, List.getElem_toArray, List.getElem_cons_zero, List.getElem_cons_succ]
              refine wpAnyH_ready (rs := [4, 6]) (by kernel_rfl) (by simp) ?_
              refine AllReadyH.cons rfl (fun K hK => ?_) ?_
              · go_simp
                refine hK.out _ _ ?_ (fun hHeld => ?_)
                · exact HX.out _ _ S8.drew (by simp)
                clear hK K
                try simp only [Act.put, List.setIfInBounds_toArray, List.set_cons_zero, List.set_cons_succ, List.getElem_toArray, List.getElem_cons_zero, List.getElem_cons_succ]
                refine wpAnyH_ready (rs := [6]) (by kernel_rfl) (by simp) ?_
                refine AllReadyH.cons rfl (fun K hK => ?_) ?_
                · go_simp
                  refine hK.out _ _ ?_ (fun hHeld => ?_)
                  · exact HX.out _ _ (S8.box #[.int .i64 t1, .string (S t2), .bool t3, .bool t4] 96 rfl).drew (by simp)
                  clear hK K
                  try simp only [Act.put, List.setIfInBounds_toArray, List.set_cons_zero, List.set_cons_succ, List.getElem_toArray, List.getElem_cons_zero, List.getElem_cons_succ]
                  refine wpAnyH_ready (rs := [7]) (by kernel_rfl) (by simp) ?_
                  refine AllReadyH.cons rfl (fun K hK => ?_) ?_
                  · refine step_app slW rfl (.tmp 61) (.tmp 63) rfl (g := g) (S := ((S8.box #[.int .i64 t1, .string (S t2), .bool t3, .bool t4] 96 rfl).drew).p4) (by go_simp) (c := 1) (Src.block (heap_alloc_new _ _) 4 1 rfl) (by go_simp) (by simp [Value.oneCell']) (by unfold maxLen; omega) (by omega) ?_
                    intro A8 c8 w10 S10
                    have k0 := S10.p2.cell 0 _ rfl
                    have k1 := S10.p2.cells_fz 0
                    have HQ10 := HX.out _ _ S10 (by simp)
                    refine hK.out _ _ ?_ (fun hHeld => ?_)
                    · exact HX.out _ _ S10 (by simp)
                    clear hK K
                    try simp only [Act.put, List.setIfInBounds_toArray, List.set_cons_zero, List.set_cons_succ, List.getElem_toArray, List.getElem_cons_zero, List.getElem_cons_succ]
                    refine wpAnyH_take (i := 8) (oi := _) (v := ?_) rfl (by kernel_rfl) (by kernel_rfl) (by kernel_rfl) (fun _ _ _ h => h) (Or.inl ⟨by rfl, ?_⟩) hHeld ?_
                    rotate_left
                    · intro w' hSw
                      (try dsimp only at hSw)
                      go_simp
                      try with_reducible rfl
                    try simp only [Act.put, List.setIfInBounds_toArray, List.set_cons_zero, List.set_cons_succ, List.getElem_toArray, List.getElem_cons_zero, List.getElem_cons_succ]
                    refine wpAnyH_take (i := 9) (oi := _) (v := ?_) rfl (by kernel_rfl) (by kernel_rfl) (by kernel_rfl) (fun _ _ _ h => h) (Or.inl ⟨by rfl, ?_⟩) hHeld ?_
                    rotate_left
                    · intro w' hSw
                      (try dsimp only at hSw)
                      go_simp
                      try with_reducible rfl
                    try simp only [Act.put, List.setIfInBounds_toArray, List.set_cons_zero, List.set_cons_succ, List.getElem_toArray, List.getElem_cons_zero, List.getElem_cons_succ]
                    refine wpAnyH_ready (rs := [10]) (by kernel_rfl) (by simp) ?_
                    refine AllReadyH.cons rfl (fun K hK => ?_) ?_
                    · go_simp
                      refine hK.out _ _ ?_ (fun hHeld => ?_)
                      · exact HX.out _ _ (S10.p2.setc 0 _) (by simp)
                      clear hK K
                      try simp only [Act.put, List.setIfInBounds_toArray, List.set_cons_zero, List.set_cons_succ, List.getElem_toArray, List.getElem_cons_zero, List.getElem_cons_succ]
                      refine wpAnyH_done (by kernel_rfl) ?_ _
                      have S11 := (S10.p2.setc 0 (.slice A8 (0 + 1) c8)).p2.drop.p4.drop.p1.b3
                      have S12 : Sat g (w10.setCell ⟨t, 0, none⟩ (.slice A8 (0 + 1) c8)) (cellsA t 99 #[.slice A8 ([] ++ [(⟨t1, t2, t3, t4⟩ : WatT)]).length c8, ev, .map (some m)] :: rowA 74 5 ev 0 [] :: mapA kW kW m [] :: rowA 96 4 (.slice A8 ([] ++ [(⟨t1, t2, t3, t4⟩ : WatT)]).length c8) ([] ++ [(⟨t1, t2, t3, t4⟩ : WatT)]).length (([] ++ [(⟨t1, t2, t3, t4⟩ : WatT)]).flatMap watC) :: rdA r yy :: L) := by
                        rw [List.length_append, List.length_singleton, List.flatMap_append, List.flatMap_singleton]
                        exact S11
                      have HS12 := hide (((S12.notesShut (es := [])).bookShut (B := ⟨[] ++ [⟨t1, t2, t3, t4⟩], [], []⟩)).p1)
                      clear S8 S10 S11 S12
                      go_wp2_with fail
                      go_roundw
                      case rel => exact ⟨0 + 1, by omega, (by first | rfl | go_num), by rw [HSTP.out]; exact HS12.out⟩
                      case measure => simp [RowKit.intOf] <;> omega
                    exact AllReadyH.nil
                  exact AllReadyH.nil
                exact AllReadyH.nil
              refine AllReadyH.cons rfl (fun K hK => ?_) ?_
              · go_simp
                refine hK.out _ _ ?_ (fun hHeld => ?_)
                · exact HX.out _ _ (S8.box #[.int .i64 t1, .string (S t2), .bool t3, .bool t4] 96 rfl).drew (by simp)
                clear hK K
                try simp only [Act.put, List.setIfInBounds_toArray, List.set_cons_zero, List.set_cons_succ, List.getElem_toArray, List.getElem_cons_zero, List.getElem_cons_succ]
                refine wpAnyH_ready (rs := [4]) (by kernel_rfl) (by simp) ?_
                refine AllReadyH.cons rfl (fun K hK => ?_) ?_
                · go_simp
                  refine hK.out _ _ ?_ (fun hHeld => ?_)
                  · exact HX.out _ _ (S8.box #[.int .i64 t1, .string (S t2), .bool t3, .bool t4] 96 rfl).drew (by simp)
                  clear hK K
                  try simp only [Act.put, List.setIfInBounds_toArray, List.set_cons_zero, List.set_cons_succ, List.getElem_toArray, List.getElem_cons_zero, List.getElem_cons_succ]
                  refine wpAnyH_ready (rs := [7]) (by kernel_rfl) (by simp) ?_
                  refine AllReadyH.cons rfl (fun K hK => ?_) ?_
                  · refine step_app slW rfl (.tmp 61) (.tmp 63) rfl (g := g) (S := ((S8.box #[.int .i64 t1, .string (S t2), .bool t3, .bool t4] 96 rfl).drew).p4) (by go_simp) (c := 1) (Src.block (heap_alloc_new _ _) 4 1 rfl) (by go_simp) (by simp [Value.oneCell']) (by unfold maxLen; omega) (by omega) ?_
                    intro A8 c8 w10 S10
                    have k0 := S10.p2.cell 0 _ rfl
                    have k1 := S10.p2.cells_fz 0
                    have HQ10 := HX.out _ _ S10 (by simp)
                    refine hK.out _ _ ?_ (fun hHeld => ?_)
                    · exact HX.out _ _ S10 (by simp)
                    clear hK K
                    try simp only [Act.put, List.setIfInBounds_toArray, List.set_cons_zero, List.set_cons_succ, List.getElem_toArray, List.getElem_cons_zero, List.getElem_cons_succ]
                    refine wpAnyH_take (i := 8) (oi := _) (v := ?_) rfl (by kernel_rfl) (by kernel_rfl) (by kernel_rfl) (fun _ _ _ h => h) (Or.inl ⟨by rfl, ?_⟩) hHeld ?_
                    rotate_left
                    · intro w' hSw
                      (try dsimp only at hSw)
                      go_simp
                      try with_reducible rfl
                    try simp only [Act.put, List.setIfInBounds_toArray, List.set_cons_zero, List.set_cons_succ, List.getElem_toArray, List.getElem_cons_zero, List.getElem_cons_succ]
                    refine wpAnyH_take (i := 9) (oi := _) (v := ?_) rfl (by kernel_rfl) (by kernel_rfl) (by kernel_rfl) (fun _ _ _ h => h) (Or.inl ⟨by rfl, ?_⟩) hHeld ?_
                    rotate_left
                    · intro w' hSw
                      (try dsimp only at hSw)
                      go_simp
                      try with_reducible rfl
                    try simp only [Act.put, List.setIfInBounds_toArray, List.set_cons_zero, List.set_cons_succ, List.getElem_toArray, List.getElem_cons_zero, List.getElem_cons_succ]
                    refine wpAnyH_ready (rs := [10]) (by kernel_rfl) (by simp) ?_
                    refine AllReadyH.cons rfl (fun K hK => ?_) ?_
                    · go_simp
                      refine hK.out _ _ ?_ (fun hHeld => ?_)
                      · exact HX.out _ _ (S10.p2.setc 0 _) (by simp)
                      clear hK K
                      try simp only [Act.put, List.setIfInBounds_toArray, List.set_cons_zero, List.set_cons_succ, List.getElem_toArray, List.getElem_cons_zero, List.getElem_cons_succ]
                      refine wpAnyH_done (by kernel_rfl) ?_ _
                      have S11 := (S10.p2.setc 0 (.slice A8 (0 + 1) c8)).p2.drop.p4.drop.p1.b3
                      have S12 : Sat g (w10.setCell ⟨t, 0, none⟩ (.slice A8 (0 + 1) c8)) (cellsA t 99 #[.slice A8 ([] ++ [(⟨t1, t2, t3, t4⟩ : WatT)]).length c8, ev, .map (some m)] :: rowA 74 5 ev 0 [] :: mapA kW kW m [] :: rowA 96 4 (.slice A8 ([] ++ [(⟨t1, t2, t3, t4⟩ : WatT)]).length c8) ([] ++ [(⟨t1, t2, t3, t4⟩ : WatT)]).length (([] ++ [(⟨t1, t2, t3, t4⟩ : WatT)]).flatMap watC) :: rdA r yy :: L) := by
                        rw [List.length_append, List.length_singleton, List.flatMap_append, List.flatMap_singleton]
                        exact S11
                      have HS12 := hide (((S12.notesShut (es := [])).bookShut (B := ⟨[] ++ [⟨t1, t2, t3, t4⟩], [], []⟩)).p1)
                      clear S8 S10 S11 S12
                      go_wp2_with fail
                      go_roundw
                      case rel => exact ⟨0 + 1, by omega, (by first | rfl | go_num), by rw [HSTP.out]; exact HS12.out⟩
                      case measure => simp [RowKit.intOf] <;> omega
                    exact AllReadyH.nil
                  exact AllReadyH.nil
                exact AllReadyH.nil
              exact AllReadyH.nil
            exact AllReadyH.nil

        · have hbd : BD = true := by rw [HBW.out, hlb]; simp
          subst hbd
          clear HBW hlb
          refine wp_region_held_drew (S := fun w' => w'.cell? ⟨xb, 0, none⟩ = some (.int .i64 t1) ∧ w'.cell? ⟨xb, 1, none⟩ = some (.string (S t2)) ∧ w'.cell? ⟨xb, 2, none⟩ = some (.bool t3) ∧ w'.cell? ⟨xb, 3, none⟩ = some (.bool t4)) (by kernel_rfl) ?_ (fun hHeld => ?_)
          · exact HSW.out _ (((Keeps.refl (fun _ => False) w5).drew))
          refine wpAnyH_take (i := 0) (oi := _) (v := ?_) rfl (by kernel_rfl) (by kernel_rfl) (by kernel_rfl) (fun _ _ _ h => h) (Or.inl ⟨by rfl, ?_⟩) hHeld ?_
          rotate_left
          · intro w' hSw
            (try dsimp only at hSw)
            go_simp
            try with_reducible rfl
          try simp only [Act.put, List.setIfInBounds_toArray, List.set_cons_zero, List.set_cons_succ, List.getElem_toArray, List.getElem_cons_zero, List.getElem_cons_succ]
          refine wpAnyH_take (i := 1) (oi := _) (v := ?_) rfl (by kernel_rfl) (by kernel_rfl) (by kernel_rfl) (fun _ _ _ h => h) (Or.inl ⟨by rfl, ?_⟩) hHeld ?_
          rotate_left
          · intro w' hSw
            (try dsimp only at hSw)
            go_simp
            try with_reducible rfl
          try simp only [Act.put, List.setIfInBounds_toArray, List.set_cons_zero, List.set_cons_succ, List.getElem_toArray, List.getElem_cons_zero, List.getElem_cons_succ]
          refine wpAnyH_take (i := 2) (oi := _) (v := ?_) rfl (by kernel_rfl) (by kernel_rfl) (by kernel_rfl) (fun _ _ _ h => h) (Or.inl ⟨by rfl, ?_⟩) hHeld ?_
          rotate_left
          · intro w' hSw
            (try dsimp only at hSw)
            go_simp
            try with_reducible rfl
          try simp only [Act.put, List.setIfInBounds_toArray, List.set_cons_zero, List.set_cons_succ, List.getElem_toArray, List.getElem_cons_zero, List.getElem_cons_succ]
          refine wpAnyH_take (i := 3) (oi := _) (v := undef) rfl (by kernel_rfl) (by kernel_rfl) (by kernel_rfl) (fun _ _ _ h => h) (Or.inr ⟨by rfl, rfl⟩) hHeld ?_
          try simp only [Act.put, List.setIfInBounds_toArray, List.set_cons_zero, List.set_cons_succ, List.getElem_toArray, List.getElem_cons_zero, List.getElem_cons_succ]
          refine wpAnyH_take (i := 4) (oi := _) (v := undef) rfl (by kernel_rfl) (by kernel_rfl) (by kernel_rfl) (fun _ _ _ h => h) (Or.inr ⟨by rfl, rfl⟩) hHeld ?_
          try simp only [Act.put, List.setIfInBounds_toArray, List.set_cons_zero, List.set_cons_succ, List.getElem_toArray, List.getElem_cons_zero, List.getElem_cons_succ]
          refine wpAnyH_take (i := 5) (oi := _) (v := undef) rfl (by kernel_rfl) (by kernel_rfl) (by kernel_rfl) (fun _ _ _ h => h) (Or.inr ⟨by rfl, rfl⟩) hHeld ?_
          try simp only [Act.put, List.setIfInBounds_toArray, List.set_cons_zero, List.set_cons_succ, List.getElem_toArray, List.getElem_cons_zero, List.getElem_cons_succ]
          refine wpAnyH_take (i := 6) (oi := _) (v := undef) rfl (by kernel_rfl) (by kernel_rfl) (by kernel_rfl) (fun _ _ _ h => h) (Or.inr ⟨by rfl, rfl⟩) hHeld ?_
          try simp only [Act.put, List.setIfInBounds_toArray, List.set_cons_zero, List.set_cons_succ, List.getElem_toArray, List.getElem_cons_zero, List.getElem_cons_succ]
          refine wpAnyH_take (i := 7) (oi := _) (v := undef) rfl (by kernel_rfl) (by kernel_rfl) (by kernel_rfl) (fun _ _ _ h => h) (Or.inr ⟨by rfl, rfl⟩) hHeld ?_
          try simp only [Act.put, List.setIfInBounds_toArray, List.set_cons_zero, List.set_cons_succ, List.getElem_toArray, List.getElem_cons_zero, List.getElem_cons_succ]
          refine wpAnyH_take (i := 8) (oi := _) (v := undef) rfl (by kernel_rfl) (by kernel_rfl) (by kernel_rfl) (fun _ _ _ h => h) (Or.inr ⟨by rfl, rfl⟩) hHeld ?_
          try simp only [Act.put, List.setIfInBounds_toArray, List.set_cons_zero, List.set_cons_succ, List.getElem_toArray, List.getElem_cons_zero, List.getElem_cons_succ]
          refine wpAnyH_take (i := 9) (oi := _) (v := undef) rfl (by kernel_rfl) (by kernel_rfl) (by kernel_rfl) (fun _ _ _ h => h) (Or.inr ⟨by rfl, rfl⟩) hHeld ?_
          try simp only [Act.put, List.setIfInBounds_toArray, List.set_cons_zero, List.set_cons_succ, List.getElem_toArray, List.getElem_cons_zero, List.getElem_cons_succ]
          refine wpAnyH_take (i := 10) (oi := _) (v := undef) rfl (by kernel_rfl) (by kernel_rfl) (by kernel_rfl) (fun _ _ _ h => h) (Or.inr ⟨by rfl, rfl⟩) hHeld ?_
          try simp only [Act.put, List.setIfInBounds_toArray, List.set_cons_zero, List.set_cons_succ, List.getElem_toArray, List.getElem_cons_zero, List.getElem_cons_succ]
          refine wpAnyH_take (i := 11) (oi := _) (v := undef) rfl (by kernel_rfl) (by kernel_rfl) (by kernel_rfl) (fun _ _ _ h => h) (Or.inr ⟨by rfl, rfl⟩) hHeld ?_
          try simp only [Act.put, List.setIfInBounds_toArray, List.set_cons_zero, List.set_cons_succ, List.getElem_toArray, List.getElem_cons_zero, List.getElem_cons_succ]
          refine wpAnyH_take (i := 12) (oi := _) (v := undef) rfl (by kernel_rfl) (by kernel_rfl) (by kernel_rfl) (fun _ _ _ h => h) (Or.inr ⟨by rfl, rfl⟩) hHeld ?_
          try simp only [Act.put, List.setIfInBounds_toArray, List.set_cons_zero, List.set_cons_succ, List.getElem_toArray, List.getElem_cons_zero, List.getElem_cons_succ]
          refine wpAnyH_take (i := 13) (oi := _) (v := undef) rfl (by kernel_rfl) (by kernel_rfl) (by kernel_rfl) (fun _ _ _ h => h) (Or.inr ⟨by rfl, rfl⟩) hHeld ?_
          try simp only [Act.put, List.setIfInBounds_toArray, List.set_cons_zero, List.set_cons_succ, List.getElem_toArray, List.getElem_cons_zero, List.getElem_cons_succ]
          refine wpAnyH_take (i := 14) (oi := _) (v := ?_) rfl (by kernel_rfl) (by kernel_rfl) (by kernel_rfl) (fun _ _ _ h => h) (Or.inl ⟨by rfl, ?_⟩) hHeld ?_
          rotate_left
          · intro w' hSw
            (try dsimp only at hSw)
            go_simp
            try with_reducible rfl
          try simp only [Act.put, List.setIfInBounds_toArray, List.set_cons_zero, List.set_cons_succ, List.getElem_toArray, List.getElem_cons_zero, List.getElem_cons_succ]
          refine wpAnyH_take (i := 15) (oi := _) (v := ?_) rfl (by kernel_rfl) (by kernel_rfl) (by kernel_rfl) (fun _ _ _ h => h) (Or.inl ⟨by rfl, ?_⟩) hHeld ?_
          rotate_left
          · intro w' hSw
            (try dsimp only at hSw)
            go_simp
            try with_reducible rfl
          try simp only [Act.put, List.setIfInBounds_toArray, List.set_cons_zero, List.set_cons_succ, List.getElem_toArray, List.getElem_cons_zero, List.getElem_cons_succ]
          refine wpAnyH_take (i := 16) (oi := _) (v := ?_) rfl (by kernel_rfl) (by kernel_rfl) (by kernel_rfl) (fun _ _ _ h => h) (Or.inl ⟨by rfl, ?_⟩) hHeld ?_
          rotate_left
          · intro w' hSw
            (try dsimp only at hSw)
            go_simp
            try with_reducible rfl
          try simp only [Act.put, List.setIfInBounds_toArray, List.set_cons_zero, List.set_cons_succ, List.getElem_toArray, List.getElem_cons_zero, List.getElem_cons_succ]
          refine wpAnyH_take (i := 17) (oi := _) (v := ?_) rfl (by kernel_rfl) (by kernel_rfl) (by kernel_rfl) (fun _ _ _ h => h) (Or.inl ⟨by rfl, ?_⟩) hHeld ?_
          rotate_left
          · intro w' hSw
            (try dsimp only at hSw)
            go_simp
            try with_reducible rfl
          try simp only [Act.put, List.setIfInBounds_toArray, List.set_cons_zero, List.set_cons_succ, List.getElem_toArray, List.getElem_cons_zero, List.getElem_cons_succ]
          refine wpAnyH_ready (rs := [18]) (by kernel_rfl) (by simp) ?_
          refine AllReadyH.cons rfl (fun K hK => ?_) ?_
          · go_simp
            go_at_call 60
            refine (HCH.out _ (HKL.out _ (((Keeps.refl (fun _ => False) w5).drew)))).mono ?_
            rintro e w7 ⟨rfl, hk7⟩
            have K7 := (((Keeps.refl (fun _ => False) w5).drew)).trans' hk7
            have HQ7 := HSW.out _ K7
            refine hK.out _ _ ?_ (fun hHeld => ?_)
            · exact HSW.out _ K7
            clear hK K
            try simp only [Act.put, List.setIfInBounds_toArray, List.set_cons_zero, List.set_cons_succ, List.getElem_toArray, List.getElem_cons_zero, List.getElem_cons_succ]
            refine wpAnyH_take (i := 19) (oi := _) (v := ?_) rfl (by kernel_rfl) (by kernel_rfl) (by kernel_rfl) (fun _ _ _ h => h) (Or.inl ⟨by rfl, ?_⟩) hHeld ?_
            rotate_left
            · intro w' hSw
              (try dsimp only at hSw)
              go_simp
              try with_reducible rfl
            try simp only [Act.put, List.setIfInBounds_toArray, List.set_cons_zero, List.set_cons_succ, List.getElem_toArray, List.getElem_cons_zero, List.getElem_cons_succ]
            refine wpAnyH_take (i := 20) (oi := _) (v := ?_) rfl (by kernel_rfl) (by kernel_rfl) (by kernel_rfl) (fun _ _ _ h => h) (Or.inl ⟨by rfl, ?_⟩) hHeld ?_
            rotate_left
            · intro w' hSw
              (try dsimp only at hSw)
              go_simp
              try with_reducible rfl
            try simp only [Act.put, List.setIfInBounds_toArray, List.set_cons_zero, List.set_cons_succ, List.getElem_toArray, List.getElem_cons_zero, List.getElem_cons_succ]
            refine wpAnyH_take (i := 21) (oi := _) (v := ?_) rfl (by kernel_rfl) (by kernel_rfl) (by kernel_rfl) (fun _ _ _ h => h) (Or.inl ⟨by rfl, ?_⟩) hHeld ?_
            rotate_left
            · intro w' hSw
              (try dsimp only at hSw)
              go_simp
              try with_reducible rfl
            try simp only [Act.put, List.setIfInBounds_toArray, List.set_cons_zero, List.set_cons_succ, List.getElem_toArray, List.getElem_cons_zero, List.getElem_cons_succ]
            refine wpAnyH_take (i := 22) (oi := _) (v := undef) rfl (by kernel_rfl) (by kernel_rfl) (by kernel_rfl) (fun _ _ _ h => h) (Or.inr ⟨by rfl, rfl⟩) hHeld ?_
            try simp only [Act.put, List.setIfInBounds_toArray, List.set_cons_zero, List.set_cons_succ, List.getElem_toArray, List.getElem_cons_zero, List.getElem_cons_succ]
            refine wpAnyH_take (i := 23) (oi := _) (v := undef) rfl (by kernel_rfl) (by kernel_rfl) (by kernel_rfl) (fun _ _ _ h => h) (Or.inr ⟨by rfl, rfl⟩) hHeld ?_
            try simp only [Act.put, List.setIfInBounds_toArray, List.set_cons_zero, List.set_cons_succ, List.getElem_toArray, List.getElem_cons_zero, List.getElem_cons_succ]
            refine wpAnyH_take (i := 24) (oi := _) (v := undef) rfl (by kernel_rfl) (by kernel_rfl) (by kernel_rfl) (fun _ _ _ h => h) (Or.inr ⟨by rfl, rfl⟩) hHeld ?_
            try simp only [Act.put, List.setIfInBounds_toArray, List.set_cons_zero, List.set_cons_succ, List.getElem_toArray, List.getElem_cons_zero, List.getElem_cons_succ]
            refine wpAnyH_take (i := 25) (oi := _) (v := ?_) rfl (by kernel_rfl) (by kernel_rfl) (by kernel_rfl) (fun _ _ _ h => h) (Or.inl ⟨by rfl, ?_⟩) hHeld ?_
            rotate_left
            · intro w' hSw
              (try dsimp only at hSw)
              go_simp
              try with_reducible rfl
            try simp only [Act.put, List.setIfInBounds_toArray, List.set_cons_zero, List.set_cons_succ, List.getElem_toArray, List.getElem_cons_zero, List.getElem_cons_succ]
            refine wpAnyH_done (by kernel_rfl) ?_ _
            have S7 := SX.keep (K7)
            clear SX HSW HCH HKL c0 x0' x1' x2' x3'
            go_wp2_with fail
            refine (s_rfail S7.p5).mono ?_
            rintro e w8 ⟨rfl, S7b⟩
            have S8 := S7b.b5
            clear S7 S7b
            have HSTP : Hid (wsR x0 (0 + 1) = ([] ++ [⟨t1, t2, t3, t4⟩], fl)) := hide (by rw [HSB.out]; first | rfl | simp)
            obtain ⟨yy, hyy⟩ : ∃ z : RS, z = fl := ⟨_, rfl⟩
            rw [← hyy] at S8 HSTP
            clear hyy HSB
            have k0 := S8.cell 0 _ rfl
            have k2 := (S8.box #[.int .i64 t1, .string (S t2), .bool t3, .bool t4] 96 rfl).p1.cell 0 _ rfl
            have HQ8 := HX.out _ _ S8 (by simp)
            obtain ⟨z0, z1, z2, z3⟩ := HQ8
            go_upto_region 8 with fail
            refine wp_region_held_drew (S := fun w' => w'.cell? ⟨xb, 0, none⟩ = some (.int .i64 t1) ∧ w'.cell? ⟨xb, 1, none⟩ = some (.string (S t2)) ∧ w'.cell? ⟨xb, 2, none⟩ = some (.bool t3) ∧ w'.cell? ⟨xb, 3, none⟩ = some (.bool t4)) (by kernel_rfl) ?_ (fun hHeld => ?_)
            · exact HX.out _ _ S8.drew (by simp)
            refine wpAnyH_take (i := 0) (oi := _) (v := ?_) rfl (by kernel_rfl) (by kernel_rfl) (by kernel_rfl) (fun _ _ _ h => h) (Or.inl ⟨by rfl, ?_⟩) hHeld ?_
            rotate_left
            · intro w' hSw
              (try dsimp only at hSw)
              go_simp
              try with_reducible rfl
            try simp only [Act.put, List.setIfInBounds_toArray, List.set_cons_zero, List.set_cons_succ, List.getElem_toArray, List.getElem_cons_zero, List.getElem_cons_succ]
            refine wpAnyH_take (i := 1) (oi := _) (v := ?_) rfl (by kernel_rfl) (by kernel_rfl) (by kernel_rfl) (fun _ _ _ h => h) (Or.inl ⟨by rfl, ?_⟩) hHeld ?_
            rotate_left
            · intro w' hSw
              (try dsimp only at hSw)
              go_simp
              try with_reducible rfl
            try simp only [Act.put, List.setIfInBounds_toArray, List.set_cons_zero, List.set_cons_succ, List.getElem_toArray, List.getElem_cons_zero, List.getElem_cons_succ]
            refine wpAnyH_take (i := 2) (oi := _) (v := ?_) rfl (by kernel_rfl) (by kernel_rfl) (by kernel_rfl) (fun _ _ _ h => h) (Or.inl ⟨by rfl, ?_⟩) hHeld ?_
            rotate_left
            · intro w' hSw
              (try dsimp only at hSw)
              go_simp
              try with_reducible rfl
            try simp only [Act.put, List.setIfInBounds_toArray, List.set_cons_zero, List.set_cons_succ, List.getElem_toArray, List.getElem_cons_zero, List.getElem_cons_succ]
            refine wpAnyH_take (i := 3) (oi := _) (v := ?_) rfl (by kernel_rfl) (by kernel_rfl) (by kernel_rfl) (fun _ _ _ h => h) (Or.inl ⟨by rfl, ?_⟩) hHeld ?_
            rotate_left
            · intro w' hSw
              (try dsimp only at hSw)
              go_simp
              try with_reducible rfl
            try simp only [Act.put, List.setIfInBounds_toArray, List.set_cons_zero, List.set_cons_succ, List.getElem_toArray, List.getElem_cons_zero, List.getElem_cons_succ]
            refine wpAnyH_take (i := 5) (oi := _) (v := ?_) rfl (by kernel_rfl) (by kernel_rfl) (by kernel_rfl) (fun _ _ _ h => h) (Or.inl ⟨by rfl, ?_⟩) hHeld ?_
            rotate_left
            · intro w' hSw
              (try dsimp only at hSw)
              go_simp
              try with_reducible rfl
            try simp only [Act.put, List.setIfInBounds_toArray, List.set_cons_zero, List.set_cons_succ, List.getElem_toArray, List.getElem_cons_zero, List.getElem_cons_succ]
            refine wpAnyH_ready (rs := [4, 6]) (by kernel_rfl) (by simp) ?_
            refine AllReadyH.cons rfl (fun K hK => ?_) ?_
            · go_simp
              refine hK.out _ _ ?_ (fun hHeld => ?_)
              · exact HX.out _ _ S8.drew (by simp)
              clear hK K
              try simp only [Act.put, List.setIfInBounds_toArray, List.set_cons_zero, List.set_cons_succ, List.getElem_toArray, List.getElem_cons_zero, List.getElem_cons_succ]
              refine wpAnyH_ready (rs := [6]) (by kernel_rfl) (by simp) ?_
              refine AllReadyH.cons rfl (fun K hK => ?_) ?_
              · go_simp
                refine hK.out _ _ ?_ (fun hHeld => ?_)
                · exact HX.out _ _ (S8.box #[.int .i64 t1, .string (S t2), .bool t3, .bool t4] 96 rfl).drew (by simp)
                clear hK K
                try simp only [Act.put, List.setIfInBounds_toArray, List.set_cons_zero, List.set_cons_succ, List.getElem_toArray, List.getElem_cons_zero, List.getElem_cons_succ]
                refine wpAnyH_ready (rs := [7]) (by kernel_rfl) (by simp) ?_
                refine AllReadyH.cons rfl (fun K hK => ?_) ?_
                · refine step_app slW rfl (.tmp 61) (.tmp 63) rfl (g := g) (S := ((S8.box #[.int .i64 t1, .string (S t2), .bool t3, .bool t4] 96 rfl).drew).p4) (by go_simp) (c := 1) (Src.block (heap_alloc_new _ _) 4 1 rfl) (by go_simp) (by simp [Value.oneCell']) (by unfold maxLen; omega) (by omega) ?_
                  intro A8 c8 w10 S10
                  have k0 := S10.p2.cell 0 _ rfl
                  have k1 := S10.p2.cells_fz 0
                  have HQ10 := HX.out _ _ S10 (by simp)
                  refine hK.out _ _ ?_ (fun hHeld => ?_)
                  · exact HX.out _ _ S10 (by simp)
                  clear hK K
                  try simp only [Act.put, List.setIfInBounds_toArray, List.set_cons_zero, List.set_cons_succ, List.getElem_toArray, List.getElem_cons_zero, List.getElem_cons_succ]
                  refine wpAnyH_take (i := 8) (oi := _) (v := ?_) rfl (by kernel_rfl) (by kernel_rfl) (by kernel_rfl) (fun _ _ _ h => h) (Or.inl ⟨by rfl, ?_⟩) hHeld ?_
                  rotate_left
                  · intro w' hSw
                    (try dsimp only at hSw)
                    go_simp
                    try with_reducible rfl
                  try simp only [Act.put, List.setIfInBounds_toArray, List.set_cons_zero, List.set_cons_succ, List.getElem_toArray, List.getElem_cons_zero, List.getElem_cons_succ]
                  refine wpAnyH_take (i := 9) (oi := _) (v := ?_) rfl (by kernel_rfl) (by kernel_rfl) (by kernel_rfl) (fun _ _ _ h => h) (Or.inl ⟨by rfl, ?_⟩) hHeld ?_
                  rotate_left
                  · intro w' hSw
                    (try dsimp only at hSw)
                    go_simp
                    try with_reducible rfl
                  try simp only [Act.put, List.setIfInBounds_toArray, List.set_cons_zero, List.set_cons_succ, List.getElem_toArray, List.getElem_cons_zero, List.getElem_cons_succ]
                  refine wpAnyH_ready (rs := [10]) (by kernel_rfl) (by simp) ?_
                  refine AllReadyH.cons rfl (fun K hK => ?_) ?_
                  · go_simp
                    refine hK.out _ _ ?_ (fun hHeld => ?_)
                    · exact HX.out _ _ (S10.p2.setc 0 _) (by simp)
                    clear hK K
                    try simp only [Act.put, List.setIfInBounds_toArray, List.set_cons_zero, List.set_cons_succ, List.getElem_toArray, List.getElem_cons_zero, List.getElem_cons_succ]
                    refine wpAnyH_done (by kernel_rfl) ?_ _
                    have S11 := (S10.p2.setc 0 (.slice A8 (0 + 1) c8)).p2.drop.p4.drop.p1.b3
                    have S12 : Sat g (w10.setCell ⟨t, 0, none⟩ (.slice A8 (0 + 1) c8)) (cellsA t 99 #[.slice A8 ([] ++ [(⟨t1, t2, t3, t4⟩ : WatT)]).length c8, ev, .map (some m)] :: rowA 74 5 ev 0 [] :: mapA kW kW m [] :: rowA 96 4 (.slice A8 ([] ++ [(⟨t1, t2, t3, t4⟩ : WatT)]).length c8) ([] ++ [(⟨t1, t2, t3, t4⟩ : WatT)]).length (([] ++ [(⟨t1, t2, t3, t4⟩ : WatT)]).flatMap watC) :: rdA r yy :: L) := by
                      rw [List.length_append, List.length_singleton, List.flatMap_append, List.flatMap_singleton]
                      exact S11
                    have HS12 := hide (((S12.notesShut (es := [])).bookShut (B := ⟨[] ++ [⟨t1, t2, t3, t4⟩], [], []⟩)).p1)
                    clear S8 S10 S11 S12
                    go_wp2_with fail
                    go_roundw
                    case rel => exact ⟨0 + 1, by omega, (by first | rfl | go_num), by rw [HSTP.out]; exact HS12.out⟩
                    case measure => simp [RowKit.intOf] <;> omega
                  exact AllReadyH.nil
                exact AllReadyH.nil
              exact AllReadyH.nil
            refine AllReadyH.cons rfl (fun K hK => ?_) ?_
            · go_simp
              refine hK.out _ _ ?_ (fun hHeld => ?_)
              · exact HX.out _ _ (S8.box #[.int .i64 t1, .string (S t2), .bool t3, .bool t4] 96 rfl).drew (by simp)
              clear hK K
              try simp only [Act.put, List.setIfInBounds_toArray, List.set_cons_zero, List.set_cons_succ, List.getElem_toArray, List.getElem_cons_zero, List.getElem_cons_succ]
              refine wpAnyH_ready (rs := [4]) (by kernel_rfl) (by simp) ?_
              refine AllReadyH.cons rfl (fun K hK => ?_) ?_
              · go_simp
                refine hK.out _ _ ?_ (fun hHeld => ?_)
                · exact HX.out _ _ (S8.box #[.int .i64 t1, .string (S t2), .bool t3, .bool t4] 96 rfl).drew (by simp)
                clear hK K
                try simp only [Act.put, List.setIfInBounds_toArray, List.set_cons_zero, List.set_cons_succ, List.getElem_toArray, List.getElem_cons_zero, List.getElem_cons_succ]
                refine wpAnyH_ready (rs := [7]) (by kernel_rfl) (by simp) ?_
                refine AllReadyH.cons rfl (fun K hK => ?_) ?_
                · refine step_app slW rfl (.tmp 61) (.tmp 63) rfl (g := g) (S := ((S8.box #[.int .i64 t1, .string (S t2), .bool t3, .bool t4] 96 rfl).drew).p4) (by go_simp) (c := 1) (Src.block (heap_alloc_new _ _) 4 1 rfl) (by go_simp) (by simp [Value.oneCell']) (by unfold maxLen; omega) (by omega) ?_
                  intro A8 c8 w10 S10
                  have k0 := S10.p2.cell 0 _ rfl
                  have k1 := S10.p2.cells_fz 0
                  have HQ10 := HX.out _ _ S10 (by simp)
                  refine hK.out _ _ ?_ (fun hHeld => ?_)
                  · exact HX.out _ _ S10 (by simp)
                  clear hK K
                  try simp only [Act.put, List.setIfInBounds_toArray, List.set_cons_zero, List.set_cons_succ, List.getElem_toArray, List.getElem_cons_zero, List.getElem_cons_succ]
                  refine wpAnyH_take (i := 8) (oi := _) (v := ?_) rfl (by kernel_rfl) (by kernel_rfl) (by kernel_rfl) (fun _ _ _ h => h) (Or.inl ⟨by rfl, ?_⟩) hHeld ?_
                  rotate_left
                  · intro w' hSw
                    (try dsimp only at hSw)
                    go_simp
                    try with_reducible rfl
                  try simp only [Act.put, List.setIfInBounds_toArray, List.set_cons_zero, List.set_cons_succ, List.getElem_toArray, List.getElem_cons_zero, List.getElem_cons_succ]
                  refine wpAnyH_take (i := 9) (oi := _) (v := ?_) rfl (by kernel_rfl) (by kernel_rfl) (by kernel_rfl) (fun _ _ _ h => h) (Or.inl ⟨by rfl, ?_⟩) hHeld ?_
                  rotate_left
                  · intro w' hSw
                    (try dsimp only at hSw)
                    go_simp
                    try with_reducible rfl
                  try simp only [Act.put, List.setIfInBounds_toArray, List.set_cons_zero, List.set_cons_succ, List.getElem_toArray, List.getElem_cons_zero, List.getElem_cons_succ]
                  refine wpAnyH_ready (rs := [10]) (by kernel_rfl) (by simp) ?_
                  refine AllReadyH.cons rfl (fun K hK => ?_) ?_
                  · go_simp
                    refine hK.out _ _ ?_ (fun hHeld => ?_)
                    · exact HX.out _ _ (S10.p2.setc 0 _) (by simp)
                    clear hK K
                    try simp only [Act.put, List.setIfInBounds_toArray, List.set_cons_zero, List.set_cons_succ, List.getElem_toArray, List.getElem_cons_zero, List.getElem_cons_succ]
                    refine wpAnyH_done (by kernel_rfl) ?_ _
                    have S11 := (S10.p2.setc 0 (.slice A8 (0 + 1) c8)).p2.drop.p4.drop.p1.b3
                    have S12 : Sat g (w10.setCell ⟨t, 0, none⟩ (.slice A8 (0 + 1) c8)) (cellsA t 99 #[.slice A8 ([] ++ [(⟨t1, t2, t3, t4⟩ : WatT)]).length c8, ev, .map (some m)] :: rowA 74 5 ev 0 [] :: mapA kW kW m [] :: rowA 96 4 (.slice A8 ([] ++ [(⟨t1, t2, t3, t4⟩ : WatT)]).length c8) ([] ++ [(⟨t1, t2, t3, t4⟩ : WatT)]).length (([] ++ [(⟨t1, t2, t3, t4⟩ : WatT)]).flatMap watC) :: rdA r yy :: L) := by
                      rw [List.length_append, List.length_singleton, List.flatMap_append, List.flatMap_singleton]
                      exact S11
                    have HS12 := hide (((S12.notesShut (es := [])).bookShut (B := ⟨[] ++ [⟨t1, t2, t3, t4⟩], [], []⟩)).p1)
                    clear S8 S10 S11 S12
                    go_wp2_with fail
                    go_roundw
                    case rel => exact ⟨0 + 1, by omega, (by first | rfl | go_num), by rw [HSTP.out]; exact HS12.out⟩
                    case measure => simp [RowKit.intOf] <;> omega
                  exact AllReadyH.nil
                exact AllReadyH.nil
              exact AllReadyH.nil
            exact AllReadyH.nil
          exact AllReadyH.nil

    · obtain rfl : k = N := by omega
      have HW1 : Hid (WP = wsR x0 k) := HWP
      have hwl2 := wsR_len x0 k
      clear HST hwl
      rw [← HW1.out] at S3 hwl2
      obtain ⟨ws, y1⟩ := WP
      simp only at S3 HRB hwl2
      have HEP : Hid (esP y1 = esR (rn y1 1024).2 (rn y1 1024).1.toNat) := rfl
      have hm1 := rn_lo y1 1024
      have hm2 := rn_hi y1 1024 (by decide)
      clear HWP HW1 hwl2 hlt hk
      go_wp2_with fail
      refine (s_rnum 1024 S3).mono ?_
      rintro e w3 ⟨rfl, S4⟩
      generalize esP y1 = EP at *
      generalize rn y1 1024 = a0 at *
      obtain ⟨n, x1⟩ := a0
      simp only at HEP hm1 hm2 S4 ⊢
      obtain ⟨N2, rfl⟩ := Int.eq_ofNat_of_zero_le hm1
      simp only [Int.toNat_natCast] at HEP
      clear S3
      go_wp2_with fail
      go_loopw [70] (fun i wr => ∃ k : Nat, k ≤ N2 ∧ i = .int .i64 k ∧ Sat g wr (rdA r (esR x1 k).2 :: bookA t ⟨ws, (esR x1 k).1, []⟩ :: L)) (fun i _ => N2 + 1 - (RowKit.intOf i).toNat)
      case atStart => exact ⟨0, by omega, rfl, S4⟩
      case round =>
        obtain ⟨k, hk, rfl, S5⟩ := hrel
        have hel := esR_len x1 k
        have HST : Hid (esR x1 (k + 1) = ((esR x1 k).1 ++ [(evR (esR x1 k).2).1], (evR (esR x1 k).2).2)) := rfl
        clear S4
        by_cases hlt : k < N2
        · generalize (esR x1 k).1 = es at *
          generalize (esR x1 k).2 = y at *
          subst hel
          have HE : Hid (evR y = (⟨(rn y 281474976710655).1, (rn (rn y 281474976710655).2 281474976710655).1, (rt (rn (rn y 281474976710655).2 281474976710655).2 60).1, (rn (rt (rn (rn y 281474976710655).2 281474976710655).2 60).2 4).1, (rn (rn (rt (rn (rn y 281474976710655).2 281474976710655).2 60).2 4).2 281474976710655).1⟩, (rn (rn (rt (rn (rn y 281474976710655).2 281474976710655).2 60).2 4).2 281474976710655).2)) := rfl
          go_wp2_with fail
          refine (s_rnum 281474976710655 S5).mono ?_
          rintro e wq1 ⟨rfl, Q1⟩
          generalize rn y 281474976710655 = a1 at *
          obtain ⟨t1, y1⟩ := a1
          simp only at HE Q1 ⊢
          clear S5
          go_wp2_with fail
          refine (s_rnum 281474976710655 Q1).mono ?_
          rintro e wq2 ⟨rfl, Q2⟩
          generalize rn y1 281474976710655 = a2 at *
          obtain ⟨t2, y2⟩ := a2
          simp only at HE Q2 ⊢
          clear Q1
          go_wp2_with fail
          refine (s_rtext 60 Q2).mono ?_
          rintro e wq3 ⟨rfl, Q3⟩
          have hlt3 := rt_len y2 60 (by decide)
          generalize rt y2 60 = a3 at *
          obtain ⟨t3, y3⟩ := a3
          simp only at HE Q3 hlt3 ⊢
          clear Q2
          go_wp2_with fail
          refine (s_rnum 4 Q3).mono ?_
          rintro e wq4 ⟨rfl, Q4⟩
          generalize rn y3 4 = a4 at *
          obtain ⟨t4, y4⟩ := a4
          simp only at HE Q4 ⊢
          clear Q3
          go_wp2_with fail
          refine (s_rnum 281474976710655 Q4).mono ?_
          rintro e wq5 ⟨rfl, Q5⟩
          generalize rn y4 281474976710655 = a5 at *
          obtain ⟨t5, y5⟩ := a5
          simp only at HE Q5 ⊢
          clear Q4
          have HSTP : Hid (esR x1 (es.length + 1) = (es ++ [⟨t1, t2, t3, t4, t5⟩], y5)) := hide (by rw [HST.out, HE.out])
          clear HST HE
          go_upto_region 13 with fail
          have S4 := (Q5.box #[.int .i64 t1, .int .i64 t2, .string (S t3), .int .i64 t4, .int .i64 t5] 74 rfl).p2
          generalize wq5.alloc (.cells #[.int .i64 t1, .int .i64 t2, .string (S t3), .int .i64 t4, .int .i64 t5] 74) = w8 at *
          generalize wq5.heap.size = xb at *
          obtain ⟨wv, S5⟩ := S4.bookOpen
          obtain ⟨ev, m, S6⟩ := S5.notesOpen
          obtain ⟨A, c, rfl, -⟩ := S6.p1.row.form
          have S8 : Sat g w8 (cellsA t 99 #[wv, .slice A es.length c, .map (some m)] :: rowA 74 5 (.slice A es.length c) es.length (es.flatMap evC) :: mapA kW kW m [] :: rowA 96 4 wv ws.length (ws.flatMap watC) :: cellsA xb 74 #[.int .i64 t1, .int .i64 t2, .string (S t3), .int .i64 t4, .int .i64 t5] :: rdA r y5 :: L) := S6
          clear Q5 S4 S5 S6
          have k0 := S8.cell 1 _ rfl
          have k2 := (S8.box #[.int .i64 t1, .int .i64 t2, .string (S t3), .int .i64 t4, .int .i64 t5] 74 rfl).p1.cell 1 _ rfl
          have HX : Hid (∀ (w' : World) (L' : List Asn), Sat g w' L' → cellsA xb 74 #[.int .i64 t1, .int .i64 t2, .string (S t3), .int .i64 t4, .int .i64 t5] ∈ L' → w'.cell? ⟨xb, 0, none⟩ = some (.int .i64 t1) ∧ w'.cell? ⟨xb, 1, none⟩ = some (.int .i64 t2) ∧ w'.cell? ⟨xb, 2, none⟩ = some (.string (S t3)) ∧ w'.cell? ⟨xb, 3, none⟩ = some (.int .i64 t4) ∧ w'.cell? ⟨xb, 4, none⟩ = some (.int .i64 t5)) := hide fun w' L' S' h => ⟨S'.cell_of h 0 _ rfl, S'.cell_of h 1 _ rfl, S'.cell_of h 2 _ rfl, S'.cell_of h 3 _ rfl, S'.cell_of h 4 _ rfl⟩
          obtain ⟨z0, z1, z2, z3, z4⟩ := HX.out _ _ S8 (by simp)
          refine wp_region_held_drew (S := fun w' => w'.cell? ⟨xb, 0, none⟩ = some (.int .i64 t1) ∧ w'.cell? ⟨xb, 1, none⟩ = some (.int .i64 t2) ∧ w'.cell? ⟨xb, 2, none⟩ = some (.string (S t3)) ∧ w'.cell? ⟨xb, 3, none⟩ = some (.int .i64 t4) ∧ w'.cell? ⟨xb, 4, none⟩ = some (.int .i64 t5)) (by kernel_rfl) ?_ (fun hHeld => ?_)
          · exact HX.out _ _ S8.drew (by simp)
          refine wpAnyH_take (i := 0) (oi := _) (v := ?_) rfl (by kernel_rfl) (by kernel_rfl) (by kernel_rfl) (fun _ _ _ h => h) (Or.inl ⟨by rfl, ?_⟩) hHeld ?_
          rotate_left
          · intro w' hSw
            (try dsimp only at hSw)
            go_simp
            try with_reducible rfl
          try simp only [Act.put, List.setIfInBounds_toArray, List.set_cons_zero, List.set_cons_succ, List.getElem_toArray, List.getElem_cons_zero, List.getElem_cons_succ]
          refine wpAnyH_take (i := 1) (oi := _) (v := ?_) rfl (by kernel_rfl) (by kernel_rfl) (by kernel_rfl) (fun _ _ _ h => h) (Or.inl ⟨by rfl, ?_⟩) hHeld ?_
          rotate_left
          · intro w' hSw
            (try dsimp only at hSw)
            go_simp
            try with_reducible rfl
          try simp only [Act.put, List.setIfInBounds_toArray, List.set_cons_zero, List.set_cons_succ, List.getElem_toArray, List.getElem_cons_zero, List.getElem_cons_succ]
          refine wpAnyH_take (i := 2) (oi := _) (v := ?_) rfl (by kernel_rfl) (by kernel_rfl) (by kernel_rfl) (fun _ _ _ h => h) (Or.inl ⟨by rfl, ?_⟩) hHeld ?_
          rotate_left
          · intro w' hSw
            (try dsimp only at hSw)
            go_simp
            try with_reducible rfl
          try simp only [Act.put, List.setIfInBounds_toArray, List.set_cons_zero, List.set_cons_succ, List.getElem_toArray, List.getElem_cons_zero, List.getElem_cons_succ]
          refine wpAnyH_take (i := 3) (oi := _) (v := ?_) rfl (by kernel_rfl) (by kernel_rfl) (by kernel_rfl) (fun _ _ _ h => h) (Or.inl ⟨by rfl, ?_⟩) hHeld ?_
          rotate_left
          · intro w' hSw
            (try dsimp only at hSw)
            go_simp
            try with_reducible rfl
          try simp only [Act.put, List.setIfInBounds_toArray, List.set_cons_zero, List.set_cons_succ, List.getElem_toArray, List.getElem_cons_zero, List.getElem_cons_succ]
          refine wpAnyH_take (i := 5) (oi := _) (v := ?_) rfl (by kernel_rfl) (by kernel_rfl) (by kernel_rfl) (fun _ _ _ h => h) (Or.inl ⟨by rfl, ?_⟩) hHeld ?_
          rotate_left
          · intro w' hSw
            (try dsimp only at hSw)
            go_simp
            try with_reducible rfl
          try simp only [Act.put, List.setIfInBounds_toArray, List.set_cons_zero, List.set_cons_succ, List.getElem_toArray, List.getElem_cons_zero, List.getElem_cons_succ]
          refine wpAnyH_ready (rs := [4, 6]) (by kernel_rfl) (by simp) ?_
          refine AllReadyH.cons rfl (fun K hK => ?_) ?_
          · go_simp
            refine hK.out _ _ ?_ (fun hHeld => ?_)
            · exact HX.out _ _ S8.drew (by simp)
            clear hK K
            try simp only [Act.put, List.setIfInBounds_toArray, List.set_cons_zero, List.set_cons_succ, List.getElem_toArray, List.getElem_cons_zero, List.getElem_cons_succ]
            refine wpAnyH_ready (rs := [6]) (by kernel_rfl) (by simp) ?_
            refine AllReadyH.cons rfl (fun K hK => ?_) ?_
            · go_simp
              refine hK.out _ _ ?_ (fun hHeld => ?_)
              · exact HX.out _ _ (S8.box #[.int .i64 t1, .int .i64 t2, .string (S t3), .int .i64 t4, .int .i64 t5] 74 rfl).drew (by simp)
              clear hK K
              try simp only [Act.put, List.setIfInBounds_toArray, List.set_cons_zero, List.set_cons_succ, List.getElem_toArray, List.getElem_cons_zero, List.getElem_cons_succ]
              refine wpAnyH_ready (rs := [7]) (by kernel_rfl) (by simp) ?_
              refine AllReadyH.cons rfl (fun K hK => ?_) ?_
              · refine step_app slV rfl (.tmp 87) (.tmp 89) rfl (g := g) (S := ((S8.box #[.int .i64 t1, .int .i64 t2, .string (S t3), .int .i64 t4, .int .i64 t5] 74 rfl).drew).p2) (by go_simp) (c := 1) (Src.block (heap_alloc_new _ _) 5 1 rfl) (by go_simp) (by simp [Value.oneCell']) (by unfold maxLen; omega) (by omega) ?_
                intro A8 c8 w10 S10
                have k0 := S10.p2.cell 1 _ rfl
                have k1 := S10.p2.cells_fz 1
                have HQ10 := HX.out _ _ S10 (by simp)
                refine hK.out _ _ ?_ (fun hHeld => ?_)
                · exact HX.out _ _ S10 (by simp)
                clear hK K
                try simp only [Act.put, List.setIfInBounds_toArray, List.set_cons_zero, List.set_cons_succ, List.getElem_toArray, List.getElem_cons_zero, List.getElem_cons_succ]
                refine wpAnyH_take (i := 8) (oi := _) (v := ?_) rfl (by kernel_rfl) (by kernel_rfl) (by kernel_rfl) (fun _ _ _ h => h) (Or.inl ⟨by rfl, ?_⟩) hHeld ?_
                rotate_left
                · intro w' hSw
                  (try dsimp only at hSw)
                  go_simp
                  try with_reducible rfl
                try simp only [Act.put, List.setIfInBounds_toArray, List.set_cons_zero, List.set_cons_succ, List.getElem_toArray, List.getElem_cons_zero, List.getElem_cons_succ]
                refine wpAnyH_take (i := 9) (oi := _) (v := ?_) rfl (by kernel_rfl) (by kernel_rfl) (by kernel_rfl) (fun _ _ _ h => h) (Or.inl ⟨by rfl, ?_⟩) hHeld ?_
                rotate_left
                · intro w' hSw
                  (try dsimp only at hSw)
                  go_simp
                  try with_reducible rfl
                try simp only [Act.put, List.setIfInBounds_toArray, List.set_cons_zero, List.set_cons_succ, List.getElem_toArray, List.getElem_cons_zero, List.getElem_cons_succ]
                refine wpAnyH_ready (rs := [10]) (by kernel_rfl) (by simp) ?_
                refine AllReadyH.cons rfl (fun K hK => ?_) ?_
                · go_simp
                  refine hK.out _ _ ?_ (fun hHeld => ?_)
                  · exact HX.out _ _ (S10.p2.setc 1 _) (by simp)
                  clear hK K
                  try simp only [Act.put, List.setIfInBounds_toArray, List.set_cons_zero, List.set_cons_succ, List.getElem_toArray, List.getElem_cons_zero, List.getElem_cons_succ]
                  refine wpAnyH_done (by kernel_rfl) ?_ _
                  have S11 := (S10.p2.setc 1 (.slice A8 (es.length + 1) c8)).p2.drop.p4.drop
                  have S12 : Sat g (w10.setCell ⟨t, 1, none⟩ (.slice A8 (es.length + 1) c8)) (cellsA t 99 #[wv, .slice A8 (es ++ [(⟨t1, t2, t3, t4, t5⟩ : EvT)]).length c8, .map (some m)] :: rowA 74 5 (.slice A8 (es ++ [(⟨t1, t2, t3, t4, t5⟩ : EvT)]).length c8) (es ++ [(⟨t1, t2, t3, t4, t5⟩ : EvT)]).length ((es ++ [(⟨t1, t2, t3, t4, t5⟩ : EvT)]).flatMap evC) :: mapA kW kW m [] :: rowA 96 4 wv ws.length (ws.flatMap watC) :: rdA r y5 :: L) := by
                    rw [List.length_append, List.length_singleton, List.flatMap_append, List.flatMap_singleton]
                    exact S11
                  have HS12 := hide ((S12.notesShut.bookShut (B := ⟨ws, es ++ [⟨t1, t2, t3, t4, t5⟩], []⟩)).p1)
                  clear S8 S10 S11 S12
                  go_wp2_with fail
                  go_roundw
                  case rel => exact ⟨es.length + 1, by omega, (by first | rfl | go_num), by rw [HSTP.out]; exact HS12.out⟩
                  case measure => simp [RowKit.intOf] <;> omega
                exact AllReadyH.nil
              exact AllReadyH.nil
            exact AllReadyH.nil
          refine AllReadyH.cons rfl (fun K hK => ?_) ?_
          · go_simp
            refine hK.out _ _ ?_ (fun hHeld => ?_)
            · exact HX.out _ _ (S8.box #[.int .i64 t1, .int .i64 t2, .string (S t3), .int .i64 t4, .int .i64 t5] 74 rfl).drew (by simp)
            clear hK K
            try simp only [Act.put, List.setIfInBounds_toArray, List.set_cons_zero, List.set_cons_succ, List.getElem_toArray, List.getElem_cons_zero, List.getElem_cons_succ]
            refine wpAnyH_ready (rs := [4]) (by kernel_rfl) (by simp) ?_
            refine AllReadyH.cons rfl (fun K hK => ?_) ?_
            · go_simp
              refine hK.out _ _ ?_ (fun hHeld => ?_)
              · exact HX.out _ _ (S8.box #[.int .i64 t1, .int .i64 t2, .string (S t3), .int .i64 t4, .int .i64 t5] 74 rfl).drew (by simp)
              clear hK K
              try simp only [Act.put, List.setIfInBounds_toArray, List.set_cons_zero, List.set_cons_succ, List.getElem_toArray, List.getElem_cons_zero, List.getElem_cons_succ]
              refine wpAnyH_ready (rs := [7]) (by kernel_rfl) (by simp) ?_
              refine AllReadyH.cons rfl (fun K hK => ?_) ?_
              · refine step_app slV rfl (.tmp 87) (.tmp 89) rfl (g := g) (S := ((S8.box #[.int .i64 t1, .int .i64 t2, .string (S t3), .int .i64 t4, .int .i64 t5] 74 rfl).drew).p2) (by go_simp) (c := 1) (Src.block (heap_alloc_new _ _) 5 1 rfl) (by go_simp) (by simp [Value.oneCell']) (by unfold maxLen; omega) (by omega) ?_
                intro A8 c8 w10 S10
                have k0 := S10.p2.cell 1 _ rfl
                have k1 := S10.p2.cells_fz 1
                have HQ10 := HX.out _ _ S10 (by simp)
                refine hK.out _ _ ?_ (fun hHeld => ?_)
                · exact HX.out _ _ S10 (by simp)
                clear hK K
                try simp only [Act.put, List.setIfInBounds_toArray, List.set_cons_zero, List.set_cons_succ, List.getElem_toArray, List.getElem_cons_zero, List.getElem_cons_succ]
                refine wpAnyH_take (i := 8) (oi := _) (v := ?_) rfl (by kernel_rfl) (by kernel_rfl) (by kernel_rfl) (fun _ _ _ h => h) (Or.inl ⟨by rfl, ?_⟩) hHeld ?_
                rotate_left
                · intro w' hSw
                  (try dsimp only at hSw)
                  go_simp
                  try with_reducible rfl
                try simp only [Act.put, List.setIfInBounds_toArray, List.set_cons_zero, List.set_cons_succ, List.getElem_toArray, List.getElem_cons_zero, List.getElem_cons_succ]
                refine wpAnyH_take (i := 9) (oi := _) (v := ?_) rfl (by kernel_rfl) (by kernel_rfl) (by kernel_rfl) (fun _ _ _ h => h) (Or.inl ⟨by rfl, ?_⟩) hHeld ?_
                rotate_left
                · intro w' hSw
                  (try dsimp only at hSw)
                  go_simp
                  try with_reducible rfl
                try simp only [Act.put, List.setIfInBounds_toArray, List.set_cons_zero, List.set_cons_succ, List.getElem_toArray, List.getElem_cons_zero, List.getElem_cons_succ]
                refine wpAnyH_ready (rs := [10]) (by kernel_rfl) (by simp) ?_
                refine AllReadyH.cons rfl (fun K hK => ?_) ?_
                · go_simp
                  refine hK.out _ _ ?_ (fun hHeld => ?_)
                  · exact HX.out _ _ (S10.p2.setc 1 _) (by simp)
                  clear hK K
                  try simp only [Act.put, List.setIfInBounds_toArray, List.set_cons_zero, List.set_cons_succ, List.getElem_toArray, List.getElem_cons_zero, List.getElem_cons_succ]
                  refine wpAnyH_done (by kernel_rfl) ?_ _
                  have S11 := (S10.p2.setc 1 (.slice A8 (es.length + 1) c8)).p2.drop.p4.drop
                  have S12 : Sat g (w10.setCell ⟨t, 1, none⟩ (.slice A8 (es.length + 1) c8)) (cellsA t 99 #[wv, .slice A8 (es ++ [(⟨t1, t2, t3, t4, t5⟩ : EvT)]).length c8, .map (some m)] :: rowA 74 5 (.slice A8 (es ++ [(⟨t1, t2, t3, t4, t5⟩ : EvT)]).length c8) (es ++ [(⟨t1, t2, t3, t4, t5⟩ : EvT)]).length ((es ++ [(⟨t1, t2, t3, t4, t5⟩ : EvT)]).flatMap evC) :: mapA kW kW m [] :: rowA 96 4 wv ws.length (ws.flatMap watC) :: rdA r y5 :: L) := by
                    rw [List.length_append, List.length_singleton, List.flatMap_append, List.flatMap_singleton]
                    exact S11
                  have HS12 := hide ((S12.notesShut.bookShut (B := ⟨ws, es ++ [⟨t1, t2, t3, t4, t5⟩], []⟩)).p1)
                  clear S8 S10 S11 S12
                  go_wp2_with fail
                  go_roundw
                  case rel => exact ⟨es.length + 1, by omega, (by first | rfl | go_num), by rw [HSTP.out]; exact HS12.out⟩
                  case measure => simp [RowKit.intOf] <;> omega
                exact AllReadyH.nil
              exact AllReadyH.nil
            exact AllReadyH.nil
          exact AllReadyH.nil

        · obtain rfl : k = N2 := by omega
          have HE1 : Hid (EP = esR x1 k) := HEP
          clear HST hel
          rw [← HE1.out] at S5
          obtain ⟨es, y2⟩ := EP
          simp only at S5 HRB
          have HNP : Hid (nosP y2 = ((nosR (rn y2 1024).2 (rn y2 1024).1.toNat).1, (nosR (rn y2 1024).2 (rn y2 1024).1.toNat).2.2)) := rfl
          have hp1 := rn_lo y2 1024
          have hp2 := rn_hi y2 1024 (by decide)
          clear HEP HE1 hlt hk
          go_wp2_with fail
          refine (s_rnum 1024 S5).mono ?_
          rintro e w6 ⟨rfl, S6⟩
          generalize nosP y2 = NP at *
          generalize rn y2 1024 = a0 at *
          obtain ⟨n, x2⟩ := a0
          simp only at HNP hp1 hp2 S6 ⊢
          obtain ⟨N3, rfl⟩ := Int.eq_ofNat_of_zero_le hp1
          simp only [Int.toNat_natCast] at HNP
          clear S5
          go_wp2_with fail
          go_loopw [7, 96] (fun la i wr => ∃ k : Nat, k ≤ N3 ∧ i = .int .i64 k ∧ la = .int .i64 (nosR x2 k).2.1 ∧ Sat g wr (rdA r (nosR x2 k).2.2 :: bookA t ⟨ws, es, (nosR x2 k).1⟩ :: L)) (fun _ i _ => N3 + 1 - (RowKit.intOf i).toNat)
          case atStart => exact ⟨0, by omega, rfl, rfl, S6⟩
          case round =>
            obtain ⟨k, hk, rfl, rfl, S7⟩ := hrel
            have HST : Hid (nosR x2 (k + 1) = (mput (nosR x2 k).1 (noR (nosR x2 k).2.2).1.1 (noR (nosR x2 k).2.2).1.2, (noR (nosR x2 k).2.2).1.1, if (noR (nosR x2 k).2.2).1.1 ≤ (nosR x2 k).2.1 then fl else (noR (nosR x2 k).2.2).2)) := rfl
            clear S6
            by_cases hlt : k < N3
            · generalize (nosR x2 k).1 = nos at *
              generalize (nosR x2 k).2.1 = la at *
              generalize (nosR x2 k).2.2 = y at *
              have HE : Hid (noR y = (((rn y 281474976710655).1, (rn (rn y 281474976710655).2 281474976710655).1), (rn (rn y 281474976710655).2 281474976710655).2)) := rfl
              go_wp2_with fail
              refine (s_rnum 281474976710655 S7).mono ?_
              rintro e wq1 ⟨rfl, Q1⟩
              generalize rn y 281474976710655 = a1 at *
              obtain ⟨t1, y1⟩ := a1
              simp only at HE Q1 ⊢
              clear S7
              go_wp2_with fail
              refine (s_rnum 281474976710655 Q1).mono ?_
              rintro e wq2 ⟨rfl, Q2⟩
              generalize rn y1 281474976710655 = a2 at *
              obtain ⟨t2, y2__⟩ := a2
              simp only at HE Q2 ⊢
              clear Q1
              have HSB : Hid (nosR x2 (k + 1) = (mput nos t1 t2, t1, if t1 ≤ la then fl else y2__)) := hide (by rw [HST.out, HE.out])
              clear HST HE
              by_cases hb : t1 ≤ la
              · have HSTP : Hid (nosR x2 (k + 1) = (mput nos t1 t2, t1, fl)) := hide (by rw [HSB.out, if_pos hb])
                clear HSB
                go_wp2_with fail
                refine (s_rfail Q2).mono ?_
                rintro e w8 ⟨rfl, Q3⟩
                clear Q2
                obtain ⟨wv, S9⟩ := Q3.p1.bookOpen
                obtain ⟨ev, m, S10⟩ := S9.notesOpen
                have c2 := S10.cell 2 _ rfl
                obtain ⟨u, st, wA, wB, hme, hes, hcell, hmo, hku⟩ := S10.p2.mapOf.entry kWT Tryz.underlying30 (z := .int .i64 0) (by kernel_rfl) t1 t2
                have hme' : (Instr.mapEntry 30 (.map (some m)) (.int .i64 t1)).run Tryz.prog w8 = .ok (.tuple #[u, .int .i64 st]) wA := hme
                have hes' : (Instr.entryStore 30 (.map (some m)) (.int .i64 st) (.int .i64 t2)).run Tryz.prog wA = .ok () wB := hes
                have HS11 := hide ((((S10.p2.mapPut hku hmo).b2.notesShut (es := es)).bookShut (B := ⟨ws, es, mput nos t1 t2⟩)).p1)
                clear Q3 S9 S10 hme hes hcell hmo hku
                go_wp2_with fail
                go_roundw
                case rel => exact ⟨k + 1, by omega, (by first | rfl | go_num), by rw [HSTP.out], by rw [HSTP.out]; exact HS11.out⟩
                case measure => simp [RowKit.intOf] <;> omega
              · have HSTP : Hid (nosR x2 (k + 1) = (mput nos t1 t2, t1, y2__)) := hide (by rw [HSB.out, if_neg hb])
                have Q3 := Q2
                clear HSB Q2
                obtain ⟨wv, S9⟩ := Q3.p1.bookOpen
                obtain ⟨ev, m, S10⟩ := S9.notesOpen
                have c2 := S10.cell 2 _ rfl
                obtain ⟨u, st, wA, wB, hme, hes, hcell, hmo, hku⟩ := S10.p2.mapOf.entry kWT Tryz.underlying30 (z := .int .i64 0) (by kernel_rfl) t1 t2
                have hme' : (Instr.mapEntry 30 (.map (some m)) (.int .i64 t1)).run Tryz.prog wq2 = .ok (.tuple #[u, .int .i64 st]) wA := hme
                have hes' : (Instr.entryStore 30 (.map (some m)) (.int .i64 st) (.int .i64 t2)).run Tryz.prog wA = .ok () wB := hes
                have HS11 := hide ((((S10.p2.mapPut hku hmo).b2.notesShut (es := es)).bookShut (B := ⟨ws, es, mput nos t1 t2⟩)).p1)
                clear Q3 S9 S10 hme hes hcell hmo hku
                go_wp2_with fail
                go_roundw
                case rel => exact ⟨k + 1, by omega, (by first | rfl | go_num), by rw [HSTP.out], by rw [HSTP.out]; exact HS11.out⟩
                case measure => simp [RowKit.intOf] <;> omega
            · obtain rfl : k = N3 := by omega
              have HN1 : Hid (NP = ((nosR x2 k).1, (nosR x2 k).2.2)) := HNP
              clear HST HNP
              have hn1' : (nosR x2 k).1 = NP.1 := by rw [HN1.out]
              have hn2' : (nosR x2 k).2.2 = NP.2 := by rw [HN1.out]
              rw [hn1', hn2'] at S7
              clear hn1' hn2' HN1
              obtain ⟨nos, yl, yf⟩ := NP
              simp only at S7 HRB
              go_wp2_with fail
              refine (s_rok S7).mono ?_
              rintro e w9 ⟨rfl, S8⟩
              clear S7
              cases yf
              · have e : RB = (⟨ws, es, nos⟩, (yl, false)) := by rw [HRB.out, if_neg (by decide)]
                have HS := hide S8.p1
                clear S8 HRB
                subst e
                go_wp2_with fail
                go_ret
                exact ⟨_, rfl, HS.out⟩
              · have e : RB = (⟨[], [], []⟩, (yl, true)) := by rw [HRB.out, if_pos rfl]
                clear HRB
                subst e
                go_wp2_with fail
                refine (new_book S8).mono ?_
                rintro e wa ⟨t2, rfl, S9⟩
                have HS := hide S9.p2.drop
                clear S8 S9
                go_wp2_with fail
                go_ret
                exact ⟨_, rfl, HS.out⟩
end Go.Proofs.YtbfogieeiobpdaaGreatDoor
