/- What the judge hears, and what it is told of entries, walked. No condition. -/
import Derived.Test.YtanlobdidjednaaGreatDoorJuA
set_option linter.unusedVariables false
set_option linter.unusedSimpArgs false
namespace Go.Proofs.YtanlobdidjednaaGreatDoor
open Go.RowKit

section
variable {g w : World} {L : List Asn} {b : Nat} {s : StT}
set_option maxRecDepth 100000 in
theorem s_sessst (S0 : Sat g w (stateA b s :: L)) (hok : tabOk s.tab) (hl : s.tab.length ≤ 1000) :
    Calls Tryz.prog 43 #[ptr b] w fun e w' => ∃ A cap, e = .returned (.slice A s.tab.length cap) ∧ Sat g w' (rowA 3 1 (.slice A s.tab.length cap) s.tab.length (Is (sortI (keys s.tab))) :: stateA b s :: L) := by
  obtain ⟨t, ts, bk, S1⟩ := S0.stateOpen
  have q1 := S1.cell 1 _ rfl
  have hh := tbl_all (S1.bring 2) hok hl
  go_enter Tryz.func43, Tryz.ntmps43
  go_wp2_with fail
  refine hh.mono ?_
  rintro e w2 ⟨A, cap, rfl, S2⟩
  have HS := hide ((Sat.stateShut ((((S2.bring 4).bring 2).bring 4).bring 4)).p1)
  clear S0 S1 S2 q1 hh
  go_wp2_with fail
  go_ret
  exact ⟨A, cap, rfl, HS.out⟩
end

set_option maxRecDepth 100000 in
set_option maxHeartbeats 8000000 in
theorem hear_j {g w : World} {L : List Asn} {b eb sb N : Nat} {s : StT} {a0 a1 a3 a4 : Value} (S0 : Sat g w (cellsA b 62 #[a0, a1, .map (some eb), a3, a4] :: evsA eb N :: stateA sb s :: L)) (hok : tabOk s.tab) (hl16 : s.tab.length ≤ 16) (hes : s.book.es.length ≤ 80) (hN : N ≤ 900000) :
    Calls Tryz.prog 22 #[ptr b, ptr sb] w fun e w' => e = .returned (.tuple #[]) ∧ Sat g w' (cellsA b 62 #[a0, a1, .map (some eb), a3, a4] :: evsA eb (N + 2000) :: stateA sb s :: L) := by
  have hss := s_sessst (S0.bring 2) hok (by omega)
  have HEV := hide fun (w' : World) (L' : List Asn) (S' : Sat g w' (stateA sb s :: L')) (id : Int) => s_evst S' (by omega) id
  have hsl : (sortI (keys s.tab)).length = s.tab.length := by rw [sortI_length]; simp
  clear hok
  go_enter Tryz.func22, Tryz.ntmps22
  go_wp2_with fail
  refine hss.mono ?_
  rintro e w1 ⟨A, c, rfl, S1⟩
  clear S0 hss
  go_wp2_with fail
  go_loopw [11] (fun i wr => ∃ k : Nat, k ≤ s.tab.length ∧ i = .int .i64 (k : Int) ∧ Sat g wr (stateA sb s :: cellsA b 62 #[a0, a1, .map (some eb), a3, a4] :: evsA eb (N + 80 * k) :: rowA 3 1 (.slice A s.tab.length c) s.tab.length (Is (sortI (keys s.tab))) :: L)) (fun i _ => s.tab.length - (RowKit.intOf i).toNat)
  case atStart => exact ⟨0, by omega, rfl, ((((S1.bring 3).evsLe (by omega)).bring 3).bring 3)⟩
  case round =>
    obtain ⟨k, hk, rfl, S2⟩ := hrel
    clear S1
    by_cases hlt : k < s.tab.length
    · obtain ⟨ad, u, rfl, hu, z0⟩ := Src.at_ (S2.bring 3).srcOf hlt
      obtain ⟨id, rfl⟩ : ∃ id : Int, u = .int .i64 id := by
        obtain ⟨id, -, e⟩ := List.mem_map.1 (List.mem_of_getElem? hu)
        exact ⟨id, e.symm⟩
      have hev := HEV.out wr _ S2 id
      have hfl : (s.book.es.filter fun x => decide (x.session = id)).length ≤ 80 := Nat.le_trans (List.length_filter_le _ _) hes
      clear hu
      generalize (s.book.es.filter fun x => decide (x.session = id)) = E at *
      go_wp2_with fail
      refine hev.mono ?_
      rintro e w3 ⟨v3, rfl, S3⟩
      obtain ⟨A3, c3, rfl, -⟩ := S3.row.form
      clear S2 z0 hev
      go_wp2_with fail
      go_loopw [19] (fun i wr => ∃ j : Nat, j ≤ E.length ∧ i = .int .i64 (j : Int) ∧ Sat g wr (cellsA b 62 #[a0, a1, .map (some eb), a3, a4] :: evsA eb (N + 80 * k + j) :: rowA 95 5 (.slice A3 E.length c3) E.length (E.flatMap evC) :: stateA sb s :: rowA 3 1 (.slice (some ad) s.tab.length c) s.tab.length (Is (sortI (keys s.tab))) :: L)) (fun i _ => E.length - (RowKit.intOf i).toNat)
      case atStart => exact ⟨0, by omega, rfl, (((S3.bring 3).evsLe (by omega)).bring 3)⟩
      case round =>
        obtain ⟨j, hj, rfl, S4⟩ := hrel
        clear S3
        by_cases hlt2 : j < E.length
        · obtain ⟨ad3, x, rfl, hx, z0, z1, z2, z3, z4⟩ := ev_at (S4.bring 2).srcOf hlt2
          obtain ⟨s0, n0, p0, w0, t0⟩ := x
          simp only at z0 z1 z2 z3 z4
          clear hx
          obtain ⟨x, A2, c2, es2, hle, hxa, hxk, S5⟩ := (S4.bring 1).evsAt id
          have hcon := fun w' (hk : Keeps (fun _ => False) _ w') => contains_ev w' A2 c2 es2 ((S5.bring 1).srcOf.keep hk (fun _ _ h => h)) (by omega) ⟨s0, n0, p0, w0, t0⟩
          have HLK := hide fun (w' : World) (L' : List Asn) (S' : Sat g w' (mapA kI evW eb x :: L')) => ev_look S' hxk
          have HXA := hide hxa
          have HXK := hide hxk
          have HND : Hid (keys x).Nodup := hide S5.mapOf.nodup
          have HCON := hide hcon
          clear hxa hxk hcon S4
          have S6 := S5.box #[.int .i64 s0, .int .i64 n0, .string (S p0), .int .i64 w0, .int .i64 t0] 95 rfl
          go_upto_region 6 with fail
          have HK6 : Hid (Keeps (fun _ => False) wr (wr.alloc (.cells #[.int .i64 s0, .int .i64 n0, .string (S p0), .int .i64 w0, .int .i64 t0] 95))) := hide ((Keeps.refl _ _).alloc _)
          generalize wr.alloc (.cells #[.int .i64 s0, .int .i64 n0, .string (S p0), .int .i64 w0, .int .i64 t0] 95) = w6 at *
          generalize wr.heap.size = xb at *
          have HX : Hid (∀ (w' : World) (L' : List Asn), Sat g w' L' → cellsA b 62 #[a0, a1, .map (some eb), a3, a4] ∈ L' → cellsA xb 95 #[.int .i64 s0, .int .i64 n0, .string (S p0), .int .i64 w0, .int .i64 t0] ∈ L' → w'.cell? ⟨b, 2, none⟩ = some (.map (some eb)) ∧ w'.cell? ⟨xb, 0, none⟩ = some (.int .i64 s0) ∧ w'.cell? ⟨xb, 1, none⟩ = some (.int .i64 n0) ∧ w'.cell? ⟨xb, 2, none⟩ = some (.string (S p0)) ∧ w'.cell? ⟨xb, 3, none⟩ = some (.int .i64 w0) ∧ w'.cell? ⟨xb, 4, none⟩ = some (.int .i64 t0)) := hide fun w' L' S' h1 h2 => ⟨S'.cell_of h1 2 _ rfl, S'.cell_of h2 0 _ rfl, S'.cell_of h2 1 _ rfl, S'.cell_of h2 2 _ rfl, S'.cell_of h2 3 _ rfl, S'.cell_of h2 4 _ rfl⟩
          have HXL : Hid (∀ (w' : World) (L' : List Asn), Sat g w' L' → cellsA b 62 #[a0, a1, .map (some eb), a3, a4] ∈ L' → cellsA xb 95 #[.int .i64 s0, .int .i64 n0, .string (S p0), .int .i64 w0, .int .i64 t0] ∈ L' → mapA kI evW eb x ∈ L' → w'.cell? ⟨b, 2, none⟩ = some (.map (some eb)) ∧ w'.cell? ⟨xb, 0, none⟩ = some (.int .i64 s0) ∧ w'.cell? ⟨xb, 1, none⟩ = some (.int .i64 n0) ∧ w'.cell? ⟨xb, 2, none⟩ = some (.string (S p0)) ∧ w'.cell? ⟨xb, 3, none⟩ = some (.int .i64 w0) ∧ w'.cell? ⟨xb, 4, none⟩ = some (.int .i64 t0) ∧ (Instr.lookup 60 (.map (some eb)) (.int .i64 id) false).run Tryz.prog w' = .ok (.slice A2 es2.length c2) w') := hide fun w' L' S' h1 h2 h3 => ⟨S'.cell_of h1 2 _ rfl, S'.cell_of h2 0 _ rfl, S'.cell_of h2 1 _ rfl, S'.cell_of h2 2 _ rfl, S'.cell_of h2 3 _ rfl, S'.cell_of h2 4 _ rfl, (by obtain ⟨L3, S3⟩ := S'.mem_ h3; exact HLK.out _ _ S3)⟩
          obtain ⟨x0, x1, x2, x3, x4, x5, x6⟩ := HXL.out _ _ S6 (by simp) (by simp) (by simp)
          clear S5 z0 z1 z2 z3 z4
          go_region_held3 (fun v' => v'.cell? ⟨b, 2, none⟩ = some (.map (some eb)) ∧ v'.cell? ⟨xb, 0, none⟩ = some (.int .i64 s0) ∧ v'.cell? ⟨xb, 1, none⟩ = some (.int .i64 n0) ∧ v'.cell? ⟨xb, 2, none⟩ = some (.string (S p0)) ∧ v'.cell? ⟨xb, 3, none⟩ = some (.int .i64 w0) ∧ v'.cell? ⟨xb, 4, none⟩ = some (.int .i64 t0) ∧ (Instr.lookup 60 (.map (some eb)) (.int .i64 id) false).run Tryz.prog v' = .ok (.slice A2 es2.length c2) v') (first
            | (go_keep; done)
            | exact HXL.out _ _ (Sat.keep S9 (by (repeat (first | exact Keeps.refl _ _ | refine Keeps.alloc ?_ _ | refine Keeps.drew ?_ | refine Keeps.drewN ?_ _)))) (by simp) (by simp) (by simp)
            | exact HXL.out _ _ (Sat.keep S6 (by (repeat (first | exact Keeps.refl _ _ | refine Keeps.alloc ?_ _ | refine Keeps.drew ?_ | refine Keeps.drewN ?_ _)))) (by simp) (by simp) (by simp)) (first
            | (go_at_call 45; refine (HCON.out _ (HK6.out.trans' (by (repeat (first | exact Keeps.refl _ _ | refine Keeps.alloc ?_ _ | refine Keeps.drew ?_ | refine Keeps.drewN ?_ _))))).mono ?_; rintro e w7 ⟨⟨r, rfl⟩, hk7⟩; have S9 := Sat.keep S6 (Keeps.trans' (show Keeps (fun _ => False) w6 _ from (by (repeat (first | exact Keeps.refl _ _ | refine Keeps.alloc ?_ _ | refine Keeps.drew ?_ | refine Keeps.drewN ?_ _)))) hk7); obtain ⟨x0, x1, x2, x3, x4, x5, x6⟩ := HXL.out _ _ S9 (by simp) (by simp) (by simp)))
          clear x0 x1 x2 x3 x4 x5 x6
          cases r
          · obtain ⟨x0, x1, x2, x3, x4, x5⟩ := HX.out _ _ S9 (by simp) (by simp)
            have hl1 := HLK.out _ _ (S9.drew.bring 1)
            have hl2 := HLK.out _ _ ((S9.box #[.int .i64 s0, .int .i64 n0, .string (S p0), .int .i64 w0, .int .i64 t0] 95 rfl).drew.bring 2)
            clear S6
            go_upto_region 7 with fail
            refine wp_region_held_drew (S := (fun w' => w'.cell? ⟨b, 2, none⟩ = some (.map (some eb)) ∧ w'.cell? ⟨xb, 0, none⟩ = some (.int .i64 s0) ∧ w'.cell? ⟨xb, 1, none⟩ = some (.int .i64 n0) ∧ w'.cell? ⟨xb, 2, none⟩ = some (.string (S p0)) ∧ w'.cell? ⟨xb, 3, none⟩ = some (.int .i64 w0) ∧ w'.cell? ⟨xb, 4, none⟩ = some (.int .i64 t0))) (by kernel_rfl) ?_ (fun hHeld => ?_)
            · exact HX.out _ _ S9.drew (by simp) (by simp)
            refine wpAnyH_take (i := 0) (oi := _) (v := ?_) rfl (by kernel_rfl) (by kernel_rfl) (by kernel_rfl) (fun _ _ _ h => h) (Or.inl ⟨by rfl, ?_⟩) hHeld ?_
            rotate_left
            · intro w' hSw
              (try dsimp only at hSw)
              go_simp
              try with_reducible rfl
            try simp only [Act.put, List.setIfInBounds_toArray, List.set_cons_zero, List.set_cons_succ, List.getElem_toArray, List.getElem_cons_zero, List.getElem_cons_succ]
            refine wpAnyH_take (i := 1) (oi := _) (v := ?_) rfl (by kernel_rfl) (by kernel_rfl) (by kernel_rfl) (fun _ _ _ h => h) (Or.inl ⟨by rfl, ?_⟩) hHeld ?_
            rotate_left
            · intro w' hSw
              (try dsimp only at hSw)
              go_simp
              try with_reducible rfl
            try simp only [Act.put, List.setIfInBounds_toArray, List.set_cons_zero, List.set_cons_succ, List.getElem_toArray, List.getElem_cons_zero, List.getElem_cons_succ]
            refine wpAnyH_take (i := 2) (oi := _) (v := ?_) rfl (by kernel_rfl) (by kernel_rfl) (by kernel_rfl) (fun _ _ _ h => h) (Or.inl ⟨by rfl, ?_⟩) hHeld ?_
            rotate_left
            · intro w' hSw
              (try dsimp only at hSw)
              go_simp
              try with_reducible rfl
            try simp only [Act.put, List.setIfInBounds_toArray, List.set_cons_zero, List.set_cons_succ, List.getElem_toArray, List.getElem_cons_zero, List.getElem_cons_succ]
            refine wpAnyH_take (i := 3) (oi := _) (v := ?_) rfl (by kernel_rfl) (by kernel_rfl) (by kernel_rfl) (fun _ _ _ h => h) (Or.inl ⟨by rfl, ?_⟩) hHeld ?_
            rotate_left
            · intro w' hSw
              (try dsimp only at hSw)
              go_simp
              try with_reducible rfl
            try simp only [Act.put, List.setIfInBounds_toArray, List.set_cons_zero, List.set_cons_succ, List.getElem_toArray, List.getElem_cons_zero, List.getElem_cons_succ]
            refine wpAnyH_take (i := 4) (oi := _) (v := ?_) rfl (by kernel_rfl) (by kernel_rfl) (by kernel_rfl) (fun _ _ _ h => h) (Or.inl ⟨by rfl, ?_⟩) hHeld ?_
            rotate_left
            · intro w' hSw
              (try dsimp only at hSw)
              go_simp
              try with_reducible rfl
            try simp only [Act.put, List.setIfInBounds_toArray, List.set_cons_zero, List.set_cons_succ, List.getElem_toArray, List.getElem_cons_zero, List.getElem_cons_succ]
            refine wpAnyH_take (i := 5) (oi := _) (v := ?_) rfl (by kernel_rfl) (by kernel_rfl) (by kernel_rfl) (fun _ _ _ h => h) (Or.inl ⟨by rfl, ?_⟩) hHeld ?_
            rotate_left
            · intro w' hSw
              (try dsimp only at hSw)
              go_simp
              try with_reducible rfl
            try simp only [Act.put, List.setIfInBounds_toArray, List.set_cons_zero, List.set_cons_succ, List.getElem_toArray, List.getElem_cons_zero, List.getElem_cons_succ]
            refine wpAnyH_take (i := 6) (oi := _) (v := ?_) rfl (by kernel_rfl) (by kernel_rfl) (by kernel_rfl) (fun _ _ _ h => h) (Or.inl ⟨by rfl, ?_⟩) hHeld ?_
            rotate_left
            · intro w' hSw
              (try dsimp only at hSw)
              go_simp
              try with_reducible rfl
            try simp only [Act.put, List.setIfInBounds_toArray, List.set_cons_zero, List.set_cons_succ, List.getElem_toArray, List.getElem_cons_zero, List.getElem_cons_succ]
            refine wpAnyH_take (i := 7) (oi := _) (v := ?_) rfl (by kernel_rfl) (by kernel_rfl) (by kernel_rfl) (fun _ _ _ h => h) (Or.inl ⟨by rfl, ?_⟩) hHeld ?_
            rotate_left
            · intro w' hSw
              (try dsimp only at hSw)
              go_simp
              try with_reducible rfl
            try simp only [Act.put, List.setIfInBounds_toArray, List.set_cons_zero, List.set_cons_succ, List.getElem_toArray, List.getElem_cons_zero, List.getElem_cons_succ]
            refine wpAnyH_take (i := 8) (oi := _) (v := ?_) rfl (by kernel_rfl) (by kernel_rfl) (by kernel_rfl) (fun _ _ _ h => h) (Or.inl ⟨by rfl, ?_⟩) hHeld ?_
            rotate_left
            · intro w' hSw
              (try dsimp only at hSw)
              go_simp
              try with_reducible rfl
            try simp only [Act.put, List.setIfInBounds_toArray, List.set_cons_zero, List.set_cons_succ, List.getElem_toArray, List.getElem_cons_zero, List.getElem_cons_succ]
            refine wpAnyH_take (i := 9) (oi := _) (v := ?_) rfl (by kernel_rfl) (by kernel_rfl) (by kernel_rfl) (fun _ _ _ h => h) (Or.inl ⟨by rfl, ?_⟩) hHeld ?_
            rotate_left
            · intro w' hSw
              (try dsimp only at hSw)
              go_simp
              try with_reducible rfl
            try simp only [Act.put, List.setIfInBounds_toArray, List.set_cons_zero, List.set_cons_succ, List.getElem_toArray, List.getElem_cons_zero, List.getElem_cons_succ]
            refine wpAnyH_take (i := 11) (oi := _) (v := ?_) rfl (by kernel_rfl) (by kernel_rfl) (by kernel_rfl) (fun _ _ _ h => h) (Or.inl ⟨by rfl, ?_⟩) hHeld ?_
            rotate_left
            · intro w' hSw
              (try dsimp only at hSw)
              go_simp
              try with_reducible rfl
            try simp only [Act.put, List.setIfInBounds_toArray, List.set_cons_zero, List.set_cons_succ, List.getElem_toArray, List.getElem_cons_zero, List.getElem_cons_succ]
            refine wpAnyH_ready (rs := [10, 12]) (by kernel_rfl) (by simp) ?_
            refine AllReadyH.cons rfl (fun K hK => ?_) ?_
            · go_simp
              refine hK.out _ _ ?_ (fun hHeld => ?_)
              · exact HX.out _ _ S9.drew (by simp) (by simp)
              clear hK K
              try simp only [Act.put, List.setIfInBounds_toArray, List.set_cons_zero, List.set_cons_succ, List.getElem_toArray, List.getElem_cons_zero, List.getElem_cons_succ]
              refine wpAnyH_ready (rs := [12]) (by kernel_rfl) (by simp) ?_
              refine AllReadyH.cons rfl (fun K hK => ?_) ?_
              · go_simp
                refine hK.out _ _ ?_ (fun hHeld => ?_)
                · exact HX.out _ _ (S9.box #[.int .i64 s0, .int .i64 n0, .string (S p0), .int .i64 w0, .int .i64 t0] 95 rfl).drew (by simp) (by simp)
                clear hK K
                try simp only [Act.put, List.setIfInBounds_toArray, List.set_cons_zero, List.set_cons_succ, List.getElem_toArray, List.getElem_cons_zero, List.getElem_cons_succ]
                refine wpAnyH_ready (rs := [13]) (by kernel_rfl) (by simp) ?_
                refine AllReadyH.cons rfl (fun K hK => ?_) ?_
                · refine step_app slV rfl (.tmp 42) (.tmp 44) rfl (g := g) (S := ((S9.box #[.int .i64 s0, .int .i64 n0, .string (S p0), .int .i64 w0, .int .i64 t0] 95 rfl).drew).bring 3) (by go_simp) (c := 1) (Src.block (heap_alloc_new _ _) 5 1 rfl) (by go_simp) (by simp [Value.oneCell']) (by unfold maxLen; omega) (by omega) ?_
                  intro A8 c8 w10 S10
                  have HQ10 := HX.out _ _ S10 (by simp) (by simp)
                  refine hK.out _ _ ?_ (fun hHeld => ?_)
                  · exact HX.out _ _ S10 (by simp) (by simp)
                  clear hK K
                  try simp only [Act.put, List.setIfInBounds_toArray, List.set_cons_zero, List.set_cons_succ, List.getElem_toArray, List.getElem_cons_zero, List.getElem_cons_succ]
                  refine wpAnyH_ready (rs := [14]) (by kernel_rfl) (by simp) ?_
                  refine AllReadyH.cons rfl (fun K hK => ?_) ?_
                  · obtain ⟨w11, hup, S11⟩ := ev_upd (S10.bring 3) id (.slice A8 (es2.length + 1) c8) (es2 ++ [⟨s0, n0, p0, w0, t0⟩])
                    refine step_upd rfl rfl _ (.tmp 35) (.tmp 36) (.tmp 45) rfl (w2 := w11) (by first | (go_simp; exact hup) | exact hup) ?_
                    refine hK.out _ _ ?_ (fun hHeld => ?_)
                    · exact HX.out _ _ S11 (by simp) (by simp)
                    clear hK K
                    try simp only [Act.put, List.setIfInBounds_toArray, List.set_cons_zero, List.set_cons_succ, List.getElem_toArray, List.getElem_cons_zero, List.getElem_cons_succ]
                    refine wpAnyH_done (by kernel_rfl) ?_ _
                    have S12 := ((S11.bring 2).drop.bring 2).drop
                    have S13 : Sat g w11 (mapA kI evW eb (mput x id (.slice A8 (es2.length + 1) c8, es2 ++ [⟨s0, n0, p0, w0, t0⟩])) :: rowA 95 5 (.slice A8 (es2.length + 1) c8) (es2 ++ [(⟨s0, n0, p0, w0, t0⟩ : EvT)]).length ((es2 ++ [(⟨s0, n0, p0, w0, t0⟩ : EvT)]).flatMap evC) :: stars ((mdel x id).map evrow) :: cellsA b 62 #[a0, a1, .map (some eb), a3, a4] :: rowA 95 5 (.slice (some ad3) E.length c3) E.length (E.flatMap evC) :: stateA sb s :: rowA 3 1 (.slice (some ad) s.tab.length c) s.tab.length (Is (sortI (keys s.tab))) :: L) := by
                      rw [List.length_append, List.length_singleton, List.flatMap_append, List.flatMap_singleton]
                      exact S12
                    have S14 := (S13.evsPut (N := N + 80 * k + (j + 1)) HND.out (fun p hp => by have := HXA.out p hp; omega) (by simp; omega)).bring 1
                    have HS14 := hide S14
                    clear S9 S10 S11 S12 S13 S14 hup HQ10
                    go_wp2_with fail
                    go_roundw
                    case rel => exact ⟨j + 1, by omega, by go_num, HS14.out⟩
                    case measure => simp [RowKit.intOf]; omega
                  exact AllReadyH.nil
                exact AllReadyH.nil
              exact AllReadyH.nil
            refine AllReadyH.cons rfl (fun K hK => ?_) ?_
            · go_simp
              refine hK.out _ _ ?_ (fun hHeld => ?_)
              · exact HX.out _ _ (S9.box #[.int .i64 s0, .int .i64 n0, .string (S p0), .int .i64 w0, .int .i64 t0] 95 rfl).drew (by simp) (by simp)
              clear hK K
              try simp only [Act.put, List.setIfInBounds_toArray, List.set_cons_zero, List.set_cons_succ, List.getElem_toArray, List.getElem_cons_zero, List.getElem_cons_succ]
              refine wpAnyH_ready (rs := [10]) (by kernel_rfl) (by simp) ?_
              refine AllReadyH.cons rfl (fun K hK => ?_) ?_
              · go_simp
                refine hK.out _ _ ?_ (fun hHeld => ?_)
                · exact HX.out _ _ (S9.box #[.int .i64 s0, .int .i64 n0, .string (S p0), .int .i64 w0, .int .i64 t0] 95 rfl).drew (by simp) (by simp)
                clear hK K
                try simp only [Act.put, List.setIfInBounds_toArray, List.set_cons_zero, List.set_cons_succ, List.getElem_toArray, List.getElem_cons_zero, List.getElem_cons_succ]
                refine wpAnyH_ready (rs := [13]) (by kernel_rfl) (by simp) ?_
                refine AllReadyH.cons rfl (fun K hK => ?_) ?_
                · refine step_app slV rfl (.tmp 42) (.tmp 44) rfl (g := g) (S := ((S9.box #[.int .i64 s0, .int .i64 n0, .string (S p0), .int .i64 w0, .int .i64 t0] 95 rfl).drew).bring 3) (by go_simp) (c := 1) (Src.block (heap_alloc_new _ _) 5 1 rfl) (by go_simp) (by simp [Value.oneCell']) (by unfold maxLen; omega) (by omega) ?_
                  intro A8 c8 w10 S10
                  have HQ10 := HX.out _ _ S10 (by simp) (by simp)
                  refine hK.out _ _ ?_ (fun hHeld => ?_)
                  · exact HX.out _ _ S10 (by simp) (by simp)
                  clear hK K
                  try simp only [Act.put, List.setIfInBounds_toArray, List.set_cons_zero, List.set_cons_succ, List.getElem_toArray, List.getElem_cons_zero, List.getElem_cons_succ]
                  refine wpAnyH_ready (rs := [14]) (by kernel_rfl) (by simp) ?_
                  refine AllReadyH.cons rfl (fun K hK => ?_) ?_
                  · obtain ⟨w11, hup, S11⟩ := ev_upd (S10.bring 3) id (.slice A8 (es2.length + 1) c8) (es2 ++ [⟨s0, n0, p0, w0, t0⟩])
                    refine step_upd rfl rfl _ (.tmp 35) (.tmp 36) (.tmp 45) rfl (w2 := w11) (by first | (go_simp; exact hup) | exact hup) ?_
                    refine hK.out _ _ ?_ (fun hHeld => ?_)
                    · exact HX.out _ _ S11 (by simp) (by simp)
                    clear hK K
                    try simp only [Act.put, List.setIfInBounds_toArray, List.set_cons_zero, List.set_cons_succ, List.getElem_toArray, List.getElem_cons_zero, List.getElem_cons_succ]
                    refine wpAnyH_done (by kernel_rfl) ?_ _
                    have S12 := ((S11.bring 2).drop.bring 2).drop
                    have S13 : Sat g w11 (mapA kI evW eb (mput x id (.slice A8 (es2.length + 1) c8, es2 ++ [⟨s0, n0, p0, w0, t0⟩])) :: rowA 95 5 (.slice A8 (es2.length + 1) c8) (es2 ++ [(⟨s0, n0, p0, w0, t0⟩ : EvT)]).length ((es2 ++ [(⟨s0, n0, p0, w0, t0⟩ : EvT)]).flatMap evC) :: stars ((mdel x id).map evrow) :: cellsA b 62 #[a0, a1, .map (some eb), a3, a4] :: rowA 95 5 (.slice (some ad3) E.length c3) E.length (E.flatMap evC) :: stateA sb s :: rowA 3 1 (.slice (some ad) s.tab.length c) s.tab.length (Is (sortI (keys s.tab))) :: L) := by
                      rw [List.length_append, List.length_singleton, List.flatMap_append, List.flatMap_singleton]
                      exact S12
                    have S14 := (S13.evsPut (N := N + 80 * k + (j + 1)) HND.out (fun p hp => by have := HXA.out p hp; omega) (by simp; omega)).bring 1
                    have HS14 := hide S14
                    clear S9 S10 S11 S12 S13 S14 hup HQ10
                    go_wp2_with fail
                    go_roundw
                    case rel => exact ⟨j + 1, by omega, by go_num, HS14.out⟩
                    case measure => simp [RowKit.intOf]; omega
                  exact AllReadyH.nil
                exact AllReadyH.nil
              exact AllReadyH.nil
            exact AllReadyH.nil
          · have HS9 := hide (((S9.drop).evsBack HXA.out HXK.out))
            clear S6 S9
            go_wp2_with fail
            go_roundw
            case rel => exact ⟨j + 1, by omega, by go_num, (HS9.out.evsLe (by omega)).bring 1⟩
            case measure => simp [RowKit.intOf]; omega
        · obtain rfl : j = E.length := by omega
          have S5 := (S4.bring 2).drop
          clear S4
          go_wp2_with fail
          go_roundw
          case rel => exact ⟨k + 1, by omega, by go_num, ((S5.bring 1).evsLe (by omega) |>.bring 1 |>.bring 2)⟩
          case measure => simp [RowKit.intOf]; omega
    · obtain rfl : k = s.tab.length := by omega
      have S3 : Sat g wr (cellsA b 62 #[a0, a1, .map (some eb), a3, a4] :: evsA eb (N + 2000) :: stateA sb s :: L) := ((((S2.bring 3).drop.bring 2).evsLe (by omega)).bring 2)
      clear S2
      go_wp2_with fail
      go_end0
      exact ⟨rfl, S3⟩
end Go.Proofs.YtanlobdidjednaaGreatDoor
