/- A state's clone, and its bytes, walked. No condition. -/
import Derived.Test.YthgiamofndhehaaGreatDoorStA
import Derived.Test.YthgiamofndhehaaGreatDoorTCl
import Derived.Test.YthgiamofndhehaaGreatDoorTLay
import Derived.Test.YthgiamofndhehaaGreatDoorBooM
import Derived.Test.YthgiamofndhehaaGreatDoorWEq
import Derived.Deep.RegionHeld3
set_option linter.unusedVariables false
set_option linter.unusedSimpArgs false
namespace Go.Proofs.YthgiamofndhehaaGreatDoor
open Go.RowKit

set_option maxRecDepth 100000 in
set_option maxHeartbeats 8000000 in
theorem clone_state {g w : World} {L : List Asn} {b : Nat} {s : StT} (S0 : Sat g w (stateA b s :: L)) (hl : s.book.es.length ≤ 1000000) (hl2 : s.book.ws.length ≤ 1000) :
    Calls Tryz.prog 35 #[ptr b] w fun e w' => ∃ b2 nos, e = .returned (ptr b2) ∧ (∀ k, mget nos k = mget s.book.nos k) ∧ Sat g w' (stateA b2 ⟨s.tree, s.tab, ⟨s.book.ws, s.book.es, nos⟩, s.at_⟩ :: stateA b s :: L) := by
  obtain ⟨t, ts, bk, S1⟩ := S0.stateOpen
  have HX : Hid (∀ (w' : World) (L' : List Asn), Sat g w' L' → cellsA b 47 #[ptr t, ptr ts, ptr bk, .int .i64 s.at_] ∈ L' → w'.cell? ⟨b, 0, none⟩ = some (ptr t) ∧ w'.cell? ⟨b, 1, none⟩ = some (ptr ts) ∧ w'.cell? ⟨b, 2, none⟩ = some (ptr bk) ∧ w'.cell? ⟨b, 3, none⟩ = some (.int .i64 s.at_)) := hide fun w' L' S' h => ⟨S'.cell_of h 0 _ rfl, S'.cell_of h 1 _ rfl, S'.cell_of h 2 _ rfl, S'.cell_of h 3 _ rfl⟩
  obtain ⟨q0, q1, q2, q3⟩ := HX.out _ _ S1 (by simp)
  clear S0
  go_enter Tryz.func35, Tryz.ntmps35
  go_upto_region 3 with fail
  go_region_held3 (fun w' => w'.cell? ⟨b, 0, none⟩ = some (ptr t) ∧ w'.cell? ⟨b, 1, none⟩ = some (ptr ts) ∧ w'.cell? ⟨b, 2, none⟩ = some (ptr bk) ∧ w'.cell? ⟨b, 3, none⟩ = some (.int .i64 s.at_)) (first
    | (go_keep; done)
    | exact HX.out _ _ (Sat.keep S4 (by (repeat (first | exact Keeps.refl _ _ | refine Keeps.alloc ?_ _ | refine Keeps.drew ?_ | refine Keeps.drewN ?_ _)))) (by simp)
    | exact HX.out _ _ (Sat.keep S3 (by (repeat (first | exact Keeps.refl _ _ | refine Keeps.alloc ?_ _ | refine Keeps.drew ?_ | refine Keeps.drewN ?_ _)))) (by simp)
    | exact HX.out _ _ (Sat.keep S2 (by (repeat (first | exact Keeps.refl _ _ | refine Keeps.alloc ?_ _ | refine Keeps.drew ?_ | refine Keeps.drewN ?_ _)))) (by simp)
    | exact HX.out _ _ (Sat.keep S1 (by (repeat (first | exact Keeps.refl _ _ | refine Keeps.alloc ?_ _ | refine Keeps.drew ?_ | refine Keeps.drewN ?_ _)))) (by simp)) (first
    | (go_at_call 67; refine (tclone_tree (g := g) (by (repeat (first | refine Sat.drew ?_ | refine Sat.drewN ?_ _)); exact S1.p1)).mono ?_; rintro e w2 ⟨t2, rfl, S2⟩; obtain ⟨q0, q1, q2, q3⟩ := HX.out _ _ S2 (by simp))
    | (go_at_call 68; refine (tbl_clone (g := g) (by (repeat (first | refine Sat.drew ?_ | refine Sat.drewN ?_ _)); exact S2.bring 3)).mono ?_; rintro e w3 ⟨ts2, rfl, S3⟩; obtain ⟨q0, q1, q2, q3⟩ := HX.out _ _ S3 (by simp))
    | (go_at_call 69; refine (clone_book (g := g) (by (repeat (first | refine Sat.drew ?_ | refine Sat.drewN ?_ _)); exact S3.bring 5) (by omega) (by omega)).mono ?_; rintro e w4 ⟨bk2, nos, rfl, hnos, S4⟩; obtain ⟨q0, q1, q2, q3⟩ := HX.out _ _ S4 (by simp)))
  all_goals
    have S5 := S4.box #[ptr t2, ptr ts2, ptr bk2, .int .i64 s.at_] 47 rfl
    have S6 := Sat.stateShut (s := ⟨s.tree, s.tab, ⟨s.book.ws, s.book.es, nos⟩, s.at_⟩) ((((((((S5.bring 4).bring 6).bring 7).bring 4).bring 6).bring 7).bring 6))
    have S7 := Sat.stateShut (((((S6.bring 4).bring 4).bring 4).bring 4))
    have HS := hide S7.p1
    have HN := hide hnos
    clear S1 S2 S3 S4 S5 S6 S7 q0 q1 q2 q3 hnos HX
    go_wp2_with fail
    go_ret
    exact ⟨_, nos, rfl, HN.out, by (repeat (first | refine Sat.drew ?_ | refine Sat.drewN ?_ _)); exact HS.out⟩

def layS (s : StT) : List UInt8 := nums [s.at_] ++ layN s.tree ++ layB s.tab ++ layW s.book
theorem Sat.bookNd {g w : World} {L : List Asn} {b : Nat} {B : BookT} (S0 : Sat g w (bookA b B :: L)) : (keys B.nos).Nodup := by
  obtain ⟨wv, S1⟩ := S0.bookOpen
  obtain ⟨ev, m, S2⟩ := S1.notesOpen
  exact S2.p2.mapOf.nodup
theorem tbl_lay {g w : World} {L : List Asn} {t : Nat} {m : Tab} {v : Value} {l : List UInt8} (S0 : Sat g w (bytesA v l :: tblA t m :: L)) (hk : tabOk m) (hl : m.length ≤ 16) (hb : l.length ≤ 1000000) :
    Calls Tryz.prog 62 #[ptr t, v] w fun e w' => ∃ v', e = .returned v' ∧ Sat g w' (bytesA v' (l ++ layB m) :: tblA t m :: L) := by
  obtain ⟨mb, S1⟩ := S0.p1.tblOpen
  refine (s_lay (S1.p2) hk hl hb).mono ?_
  rintro e w' ⟨v', rfl, S2⟩
  exact ⟨v', rfl, (S2.b2.tblShut).p1⟩

set_option maxRecDepth 100000 in
set_option maxHeartbeats 8000000 in
theorem bytes_state {g w : World} {L : List Asn} {b : Nat} {s : StT} (S0 : Sat g w (stateA b s :: L)) (hP : PathsOk s.tree) (hT : s.tree.length ≤ 100) (hk : tabOk s.tab) (htl : s.tab.length ≤ 16) (hes : s.book.es.length ≤ 1100) (hws : s.book.ws.length ≤ 50) (hno : s.book.nos.length ≤ 1100)
    (hN : (layN s.tree).length ≤ 400000) (hB : (layB s.tab).length ≤ 400000) :
    Calls Tryz.prog 31 #[ptr b] w fun e w' => e = .returned (.string (S (layS s))) ∧ Sat g w' (stateA b s :: L) := by
  have hcl := clone_state S0 (by omega) (by omega)
  have hnd0 : (keys s.book.nos).Nodup := by
    obtain ⟨t, ts, bk, S1⟩ := S0.stateOpen
    exact (S1.bring 3).bookNd
  go_enter Tryz.func31, Tryz.ntmps31
  go_wp2_with fail
  refine hcl.mono ?_
  rintro e w1 ⟨c, nos, rfl, hnos, S1⟩
  obtain ⟨t, ts, bk, S2⟩ := S1.stateOpen
  simp only at S2
  have hnd1 : (keys nos).Nodup := (S2.bring 3).bookNd
  have HLW : Hid (layW ⟨s.book.ws, s.book.es, nos⟩ = layW s.book) := hide (EqB.layW (B := s.book) (C := ⟨s.book.ws, s.book.es, nos⟩) ⟨rfl, rfl, hnos⟩ hnd0 hnd1)
  have hnl : nos.length = s.book.nos.length := (normZ_eq hnd1 hnd0 hnos).2
  have HLS : Hid (layS s = nums [s.at_] ++ layN s.tree ++ layB s.tab ++ layW s.book) := hide rfl
  have q3 := S2.cell 3 _ rfl
  clear S0 S1 hcl hnos hnd0 hnd1
  go_wp2_with fail
  refine (s_num [s.at_] ((S2.bytesNil).box _ _ rfl) rfl (by simp) (by simp)).mono ?_
  rintro e w3 ⟨v3, rfl, S3⟩
  rw [List.nil_append] at S3
  have hnum : (nums [s.at_]).length = 6 := by rw [nums_length]; rfl
  generalize hNA : nums [s.at_] = NA at *
  clear S2 q3 hNA
  have HX : Hid (∀ (w' : World) (L' : List Asn), Sat g w' L' → cellsA c 47 #[ptr t, ptr ts, ptr bk, .int .i64 s.at_] ∈ L' → w'.cell? ⟨c, 0, none⟩ = some (ptr t) ∧ w'.cell? ⟨c, 1, none⟩ = some (ptr ts) ∧ w'.cell? ⟨c, 2, none⟩ = some (ptr bk) ∧ w'.cell? ⟨c, 3, none⟩ = some (.int .i64 s.at_)) := hide fun w' L' S' h => ⟨S'.cell_of h 0 _ rfl, S'.cell_of h 1 _ rfl, S'.cell_of h 2 _ rfl, S'.cell_of h 3 _ rfl⟩
  obtain ⟨q0, q1, q2, q3⟩ := HX.out _ _ S3 (by simp)
  have S3a : Sat g w3 (bytesA v3 NA :: treeA t s.tree :: cellsA c 47 #[ptr t, ptr ts, ptr bk, .int .i64 s.at_] :: tblA ts s.tab :: bookA bk ⟨s.book.ws, s.book.es, nos⟩ :: stateA b s :: L) := ((S3.bring 2).bring 1)
  clear S3
  generalize hLN : layN s.tree = LN at *
  generalize hLB : layB s.tab = LB at *
  go_upto_region 3 with fail
  refine wp_region_held_drew (S := (fun w' => w'.cell? ⟨c, 0, none⟩ = some (ptr t) ∧ w'.cell? ⟨c, 1, none⟩ = some (ptr ts) ∧ w'.cell? ⟨c, 2, none⟩ = some (ptr bk) ∧ w'.cell? ⟨c, 3, none⟩ = some (.int .i64 s.at_))) (by kernel_rfl) ?_ (fun hHeld => ?_)
  · exact HX.out _ _ S3a.drew (by simp [bringA])
  refine wpAnyH_take (i := 0) (oi := _) (v := ?_) rfl (by kernel_rfl) (by kernel_rfl) (by kernel_rfl) (fun _ _ _ h => h) (Or.inl ⟨by rfl, ?_⟩) hHeld ?_
  rotate_left
  · intro w' hSw
    (try dsimp only at hSw)
    go_simp
    try with_reducible rfl
  try simp only [Act.put, List.setIfInBounds_toArray, List.set_cons_zero, List.set_cons_succ, List.getElem_toArray, List.getElem_cons_zero, List.getElem_cons_succ]
  refine wpAnyH_take (i := 1) (oi := _) (v := ?_) rfl (by kernel_rfl) (by kernel_rfl) (by kernel_rfl) (fun _ _ _ h => h) (Or.inl ⟨by rfl, ?_⟩) hHeld ?_
  rotate_left
  · intro w' hSw
    (try dsimp only at hSw)
    go_simp
    try with_reducible rfl
  try simp only [Act.put, List.setIfInBounds_toArray, List.set_cons_zero, List.set_cons_succ, List.getElem_toArray, List.getElem_cons_zero, List.getElem_cons_succ]
  refine wpAnyH_take (i := 2) (oi := _) (v := ?_) rfl (by kernel_rfl) (by kernel_rfl) (by kernel_rfl) (fun _ _ _ h => h) (Or.inl ⟨by rfl, ?_⟩) hHeld ?_
  rotate_left
  · intro w' hSw
    (try dsimp only at hSw)
    go_simp
    try with_reducible rfl
  try simp only [Act.put, List.setIfInBounds_toArray, List.set_cons_zero, List.set_cons_succ, List.getElem_toArray, List.getElem_cons_zero, List.getElem_cons_succ]
  refine wpAnyH_take (i := 3) (oi := _) (v := ?_) rfl (by kernel_rfl) (by kernel_rfl) (by kernel_rfl) (fun _ _ _ h => h) (Or.inl ⟨by rfl, ?_⟩) hHeld ?_
  rotate_left
  · intro w' hSw
    (try dsimp only at hSw)
    go_simp
    try with_reducible rfl
  try simp only [Act.put, List.setIfInBounds_toArray, List.set_cons_zero, List.set_cons_succ, List.getElem_toArray, List.getElem_cons_zero, List.getElem_cons_succ]
  refine wpAnyH_take (i := 4) (oi := _) (v := ?_) rfl (by kernel_rfl) (by kernel_rfl) (by kernel_rfl) (fun _ _ _ h => h) (Or.inl ⟨by rfl, ?_⟩) hHeld ?_
  rotate_left
  · intro w' hSw
    (try dsimp only at hSw)
    go_simp
    try with_reducible rfl
  try simp only [Act.put, List.setIfInBounds_toArray, List.set_cons_zero, List.set_cons_succ, List.getElem_toArray, List.getElem_cons_zero, List.getElem_cons_succ]
  refine wpAnyH_take (i := 5) (oi := _) (v := ?_) rfl (by kernel_rfl) (by kernel_rfl) (by kernel_rfl) (fun _ _ _ h => h) (Or.inl ⟨by rfl, ?_⟩) hHeld ?_
  rotate_left
  · intro w' hSw
    (try dsimp only at hSw)
    go_simp
    try with_reducible rfl
  try simp only [Act.put, List.setIfInBounds_toArray, List.set_cons_zero, List.set_cons_succ, List.getElem_toArray, List.getElem_cons_zero, List.getElem_cons_succ]
  refine wpAnyH_take (i := 6) (oi := _) (v := ?_) rfl (by kernel_rfl) (by kernel_rfl) (by kernel_rfl) (fun _ _ _ h => h) (Or.inl ⟨by rfl, ?_⟩) hHeld ?_
  rotate_left
  · intro w' hSw
    (try dsimp only at hSw)
    go_simp
    try with_reducible rfl
  try simp only [Act.put, List.setIfInBounds_toArray, List.set_cons_zero, List.set_cons_succ, List.getElem_toArray, List.getElem_cons_zero, List.getElem_cons_succ]
  refine wpAnyH_take (i := 7) (oi := _) (v := ?_) rfl (by kernel_rfl) (by kernel_rfl) (by kernel_rfl) (fun _ _ _ h => h) (Or.inl ⟨by rfl, ?_⟩) hHeld ?_
  rotate_left
  · intro w' hSw
    (try dsimp only at hSw)
    go_simp
    try with_reducible rfl
  try simp only [Act.put, List.setIfInBounds_toArray, List.set_cons_zero, List.set_cons_succ, List.getElem_toArray, List.getElem_cons_zero, List.getElem_cons_succ]
  refine wpAnyH_take (i := 8) (oi := _) (v := ?_) rfl (by kernel_rfl) (by kernel_rfl) (by kernel_rfl) (fun _ _ _ h => h) (Or.inl ⟨by rfl, ?_⟩) hHeld ?_
  rotate_left
  · intro w' hSw
    (try dsimp only at hSw)
    go_simp
    try with_reducible rfl
  try simp only [Act.put, List.setIfInBounds_toArray, List.set_cons_zero, List.set_cons_succ, List.getElem_toArray, List.getElem_cons_zero, List.getElem_cons_succ]
  refine wpAnyH_take (i := 9) (oi := _) (v := ?_) rfl (by kernel_rfl) (by kernel_rfl) (by kernel_rfl) (fun _ _ _ h => h) (Or.inl ⟨by rfl, ?_⟩) hHeld ?_
  rotate_left
  · intro w' hSw
    (try dsimp only at hSw)
    go_simp
    try with_reducible rfl
  try simp only [Act.put, List.setIfInBounds_toArray, List.set_cons_zero, List.set_cons_succ, List.getElem_toArray, List.getElem_cons_zero, List.getElem_cons_succ]
  refine wpAnyH_take (i := 10) (oi := _) (v := ?_) rfl (by kernel_rfl) (by kernel_rfl) (by kernel_rfl) (fun _ _ _ h => h) (Or.inl ⟨by rfl, ?_⟩) hHeld ?_
  rotate_left
  · intro w' hSw
    (try dsimp only at hSw)
    go_simp
    try with_reducible rfl
  try simp only [Act.put, List.setIfInBounds_toArray, List.set_cons_zero, List.set_cons_succ, List.getElem_toArray, List.getElem_cons_zero, List.getElem_cons_succ]
  refine wpAnyH_take (i := 11) (oi := _) (v := ?_) rfl (by kernel_rfl) (by kernel_rfl) (by kernel_rfl) (fun _ _ _ h => h) (Or.inl ⟨by rfl, ?_⟩) hHeld ?_
  rotate_left
  · intro w' hSw
    (try dsimp only at hSw)
    go_simp
    try with_reducible rfl
  try simp only [Act.put, List.setIfInBounds_toArray, List.set_cons_zero, List.set_cons_succ, List.getElem_toArray, List.getElem_cons_zero, List.getElem_cons_succ]
  refine wpAnyH_take (i := 12) (oi := _) (v := ?_) rfl (by kernel_rfl) (by kernel_rfl) (by kernel_rfl) (fun _ _ _ h => h) (Or.inl ⟨by rfl, ?_⟩) hHeld ?_
  rotate_left
  · intro w' hSw
    (try dsimp only at hSw)
    go_simp
    try with_reducible rfl
  try simp only [Act.put, List.setIfInBounds_toArray, List.set_cons_zero, List.set_cons_succ, List.getElem_toArray, List.getElem_cons_zero, List.getElem_cons_succ]
  refine wpAnyH_ready (rs := [13]) (by kernel_rfl) (by simp) ?_
  refine AllReadyH.cons rfl (fun K hK => ?_) ?_
  · go_simp
    go_at_call 63
    refine (lay_tree (g := g) (Sat.drew S3a) hP (by omega) (by omega)).mono ?_
    rintro e w4 ⟨v4, rfl, S4⟩
    rw [hLN] at S4
    refine hK.out _ _ ?_ (fun hHeld => ?_)
    · exact HX.out _ _ S4 (by simp [bringA])
    clear hK K
    try simp only [Act.put, List.setIfInBounds_toArray, List.set_cons_zero, List.set_cons_succ, List.getElem_toArray, List.getElem_cons_zero, List.getElem_cons_succ]
    refine wpAnyH_ready (rs := [14]) (by kernel_rfl) (by simp) ?_
    refine AllReadyH.cons rfl (fun K hK => ?_) ?_
    · go_simp
      go_at_call 62
      refine (tbl_lay (g := g) (((S4.bring 3).bring 1)) hk htl (by rw [List.length_append]; omega)).mono ?_
      rintro e w5 ⟨v5, rfl, S5⟩
      rw [hLB] at S5
      refine hK.out _ _ ?_ (fun hHeld => ?_)
      · exact HX.out _ _ S5 (by simp [bringA])
      clear hK K
      try simp only [Act.put, List.setIfInBounds_toArray, List.set_cons_zero, List.set_cons_succ, List.getElem_toArray, List.getElem_cons_zero, List.getElem_cons_succ]
      refine wpAnyH_ready (rs := [15]) (by kernel_rfl) (by simp) ?_
      refine AllReadyH.cons rfl (fun K hK => ?_) ?_
      · go_simp
        go_at_call 61
        refine (lay_book (g := g) (((S5.bring 4).bring 1)) (by simp only; omega) (by simp only; omega) (by simp only; omega) (by rw [List.length_append, List.length_append]; omega)).mono ?_
        rintro e w6 ⟨v6, rfl, S6⟩
        rw [HLW.out] at S6
        obtain ⟨B6, n6, cb6, rfl, hsrc⟩ := S6.bytesForm
        have hconv := run_ofBytes (P := Tryz.prog) (dst := 9) Tryz.underlying82 Tryz.underlying5 Tryz.underlying9 hsrc cb6
        refine hK.out _ _ ?_ (fun hHeld => ?_)
        · exact HX.out _ _ S6 (by simp [bringA])
        clear hK K
        try simp only [Act.put, List.setIfInBounds_toArray, List.set_cons_zero, List.set_cons_succ, List.getElem_toArray, List.getElem_cons_zero, List.getElem_cons_succ]
        refine wpAnyH_ready (rs := [16]) (by kernel_rfl) (by simp) ?_
        refine AllReadyH.cons rfl (fun K hK => ?_) ?_
        · go_simp
          refine hK.out _ _ ?_ (fun hHeld => ?_)
          · exact HX.out _ _ S6 (by simp [bringA])
          clear hK K
          try simp only [Act.put, List.setIfInBounds_toArray, List.set_cons_zero, List.set_cons_succ, List.getElem_toArray, List.getElem_cons_zero, List.getElem_cons_succ]
          refine wpAnyH_take (i := 17) (oi := _) (v := ?_) rfl (by kernel_rfl) (by kernel_rfl) (by kernel_rfl) (fun _ _ _ h => h) (Or.inl ⟨by rfl, ?_⟩) hHeld ?_
          rotate_left
          · intro w' hSw
            (try dsimp only at hSw)
            go_simp
            try with_reducible rfl
          try simp only [Act.put, List.setIfInBounds_toArray, List.set_cons_zero, List.set_cons_succ, List.getElem_toArray, List.getElem_cons_zero, List.getElem_cons_succ]
          refine wpAnyH_done (by kernel_rfl) ?_ _
          have HS := hide (S6.drop.drop.drop.drop.drop)
          clear S3a S4 S5 S6 hsrc hconv q0 q1 q2 q3 HX
          go_wp2_with fail
          go_ret
          exact ⟨by simp [HLS.out, List.append_assoc], by (repeat (first | refine Sat.drew ?_ | refine Sat.drewN ?_ _)); exact HS.out⟩
        exact AllReadyH.nil
      exact AllReadyH.nil
    exact AllReadyH.nil
  exact AllReadyH.nil
end Go.Proofs.YthgiamofndhehaaGreatDoor
