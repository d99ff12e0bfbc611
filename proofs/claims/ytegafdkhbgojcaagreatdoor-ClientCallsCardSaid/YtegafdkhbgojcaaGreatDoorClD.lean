/- The contracts of a client's small functions. No condition. -/
import Derived.Test.YtegafdkhbgojcaaGreatDoorClC
import Derived.StillTailTactics
set_option linter.unusedVariables false
set_option linter.unusedSimpArgs false
namespace Go.Proofs.YtegafdkhbgojcaaGreatDoor
open Go.RowKit

set_option maxRecDepth 100000 in
theorem new_cl {g w : World} {L : List Asn} (S0 : Sat g w L) (id : Int) : Calls Tryz.prog 27 #[.int .i64 id] w fun e w' => ∃ cb, e = .returned (ptr cb) ∧ Sat g w' (cellsA cb 101 (cliC id 0 false ⟨0, 0, 0, 0, [], [], false, false⟩ none 0) :: L) := by
  go_enter Tryz.func27, Tryz.ntmps27
  go_wp2_with fail
  go_ret
  exact ⟨_, rfl, S0.box _ _ rfl⟩
set_option maxRecDepth 100000 in
theorem cmd_cl {g w : World} {L : List Asn} {cb : Nat} {id req : Int} {busy : Bool} {c : CmdT} {A : Option Addr} {cap : Nat} (S0 : Sat g w (cellsA cb 101 (cliC id req busy c A cap) :: L)) : Calls Tryz.prog 31 #[ptr cb] w fun e w' => e = .returned (cmdV c A cap) ∧ Sat g w' (cellsA cb 101 (cliC id req busy c A cap) :: L) := by
  obtain ⟨ck, cs, cr, cn, co, cp, cki, con⟩ := c
  have S1 := S0.box #[.int .i64 0, .int .i64 0, .int .i64 0, .int .i64 0, .slice none 0 0, .string ⟨#[]⟩, .bool false, .bool false] 63 rfl
  have hne : ¬ (w.heap.size = cb) := by have := S0.own_lt; omega
  have hne' : ¬ (cb = w.heap.size) := by have := S0.own_lt; omega
  go_enter Tryz.func31, Tryz.ntmps31
  go_upto_region 1 with fail
  generalize w.alloc (.cells #[.int .i64 0, .int .i64 0, .int .i64 0, .int .i64 0, .slice none 0 0, .string ⟨#[]⟩, .bool false, .bool false] 63) = w1 at *
  generalize w.heap.size = xb at *
  have y6 : w1.cell? ⟨cb, 6, none⟩ = some (.int .i64 ck) := S1.p1.cell 6 _ rfl
  have y7 : w1.cell? ⟨cb, 7, none⟩ = some (.int .i64 cs) := S1.p1.cell 7 _ rfl
  have y8 : w1.cell? ⟨cb, 8, none⟩ = some (.int .i64 cr) := S1.p1.cell 8 _ rfl
  have y9 : w1.cell? ⟨cb, 9, none⟩ = some (.int .i64 cn) := S1.p1.cell 9 _ rfl
  have y10 : w1.cell? ⟨cb, 10, none⟩ = some (.slice A co.length cap) := S1.p1.cell 10 _ rfl
  have y11 : w1.cell? ⟨cb, 11, none⟩ = some (.string (Go.Proofs.YtegafdkhbgojcaaGreatDoor.S cp)) := S1.p1.cell 11 _ rfl
  have y12 : w1.cell? ⟨cb, 12, none⟩ = some (.bool cki) := S1.p1.cell 12 _ rfl
  have y13 : w1.cell? ⟨cb, 13, none⟩ = some (.bool con) := S1.p1.cell 13 _ rfl
  go_wp2_with ((show Go.wpList _ _ _ (Oper.mk none (Op.store _ _ _) _ _ _ _ :: _) _ _); refine wpList_sstore rfl _ (.tmp 2) (.tmp 6) rfl S1 _ rfl rfl (by kernel_rfl) rfl (by simp [Value.oneCell']) ?_; intro S2)
  have x0 := S2.cell 0 _ rfl
  have x1 := S2.cell 1 _ rfl
  have x2 := S2.cell 2 _ rfl
  have x3 := S2.cell 3 _ rfl
  have x4 := S2.cell 4 _ rfl
  have x5 := S2.cell 5 _ rfl
  have x6 := S2.cell 6 _ rfl
  have x7 := S2.cell 7 _ rfl
  go_wp2_with fail
  refine bodyPost_ret (results_cell_row Tryz.results31 _ _ xb _ _ _ _ rfl S2.cells_get Tryz.underlying63 rfl (by kernel_rfl)) rfl ?_
  exact ⟨rfl, S2.drop⟩
set_option maxRecDepth 100000 in
theorem busy_cl {g w : World} {L : List Asn} {cb : Nat} {id req : Int} {busy : Bool} {c : CmdT} {A : Option Addr} {cap : Nat} (S0 : Sat g w (cellsA cb 101 (cliC id req busy c A cap) :: L)) : Calls Tryz.prog 33 #[ptr cb] w fun e w' => e = .returned (.bool busy) ∧ Keeps (fun _ => False) w w' := by
  have y4 : w.cell? ⟨cb, 4, none⟩ = some (.bool busy) := S0.cell 4 _ rfl
  go_enter Tryz.func33, Tryz.ntmps33
  go_wp2_with fail
  go_ret
  exact ⟨rfl, Keeps.refl _ _⟩
set_option maxRecDepth 100000 in
theorem seen_cl {g w : World} {L : List Asn} {cb : Nat} {id req : Int} {busy : Bool} {c : CmdT} {A : Option Addr} {cap : Nat} (S0 : Sat g w (cellsA cb 101 (cliC id req busy c A cap) :: L)) : Calls Tryz.prog 36 #[ptr cb] w fun e w' => e = .returned (.int .i64 0) ∧ Keeps (fun _ => False) w w' := by
  have y3 : w.cell? ⟨cb, 3, none⟩ = some (.int .i64 0) := S0.cell 3 _ rfl
  go_enter Tryz.func36, Tryz.ntmps36
  go_wp2_with fail
  go_ret
  exact ⟨rfl, Keeps.refl _ _⟩
set_option maxRecDepth 100000 in
theorem noted_cl {g w : World} {L : List Asn} {cb : Nat} {id req : Int} {busy : Bool} {c : CmdT} {A : Option Addr} {cap : Nat} (S0 : Sat g w (cellsA cb 101 (cliC id req busy c A cap) :: L)) : Calls Tryz.prog 37 #[ptr cb] w fun e w' => e = .returned (.int .i64 0) ∧ Keeps (fun _ => False) w w' := by
  have y3 : w.cell? ⟨cb, 2, none⟩ = some (.int .i64 0) := S0.cell 2 _ rfl
  go_enter Tryz.func37, Tryz.ntmps37
  go_wp2_with fail
  go_ret
  exact ⟨rfl, Keeps.refl _ _⟩
theorem slEv : Sl Tryz.prog 74 188 5 48 (.agg #[.int .i64 0, .int .i64 0, .string ⟨#[]⟩, .int .i64 0, .int .i64 0]) := Sl.mk' Tryz.underlying74 (by kernel_rfl) rfl (by decide)
set_option maxRecDepth 100000 in
theorem events_cl {g w : World} {L : List Asn} {cb : Nat} {id req : Int} {busy : Bool} {c : CmdT} {A : Option Addr} {cap : Nat} (S0 : Sat g w (cellsA cb 101 (cliC id req busy c A cap) :: L)) : Calls Tryz.prog 38 #[ptr cb] w fun e w' => (∃ A' c', e = .returned (.slice A' 0 c')) ∧ Keeps (fun _ => False) w w' := by
  have y14 : w.cell? ⟨cb, 14, none⟩ = some (.slice none 0 0) := S0.cell 14 _ rfl
  obtain ⟨i1, hi1, hz1, hs1, hb1⟩ := slEv.info
  go_enter Tryz.func38, Tryz.ntmps38
  go_wp2_with (at_make; refine wpList_make_own _ rfl (.tmp 8) (.tmp 8) _ rfl w.heap.size _ i1 _ 5 Tryz.underlying74 hi1 hz1 hs1 .i64 .i64 0 0 rfl rfl rfl (by rw [hb1]; decide) (by decide) (Nat.le_refl _) ?_; intro w1 r1 k1; have y14' : w1.cell? ⟨cb, 14, none⟩ = some (.slice none 0 0) := (Keeps.of_grown k1).cell y14 (by simp); have hcp : (Builtin.copy_ #[74, 74] 3 #[.slice (some ⟨w.heap.size, 0, none⟩) 0 0, .slice none 0 0]).run Tryz.prog w1 = .ok (.int .i64 0) w1 := by first | rfl | (simp [Builtin.copy_]; done))
  go_ret
  exact ⟨⟨_, _, rfl⟩, (Keeps.of_grown k1).mono fun _ _ h => by simp at h⟩
/-- an empty reply with an error -/
def repC (e : Int) : Array Value := #[.int .i64 e, .int .i64 0, .int .i64 0, .slice none 0 0, .int .i64 0, .string ⟨#[]⟩, .int .i64 0, .int .i64 0, .int .i64 0, .int .i64 0, .int .i64 0, .int .i64 0, .slice none 0 0, .slice none 0 0, .int .i64 0, .int .i64 0]
set_option maxRecDepth 100000 in
theorem try_cl {g w : World} {L : List Asn} {cb : Nat} {id req : Int} {c : CmdT} {A : Option Addr} {cap : Nat} (S0 : Sat g w (cellsA cb 101 (cliC id req false c A cap) :: L)) : Calls Tryz.prog 34 #[ptr cb, .pointer none] w fun e w' => e = .returned (.tuple #[.agg (repC 1), .bool false]) ∧ Sat g w' (cellsA cb 101 (cliC id req false c A cap) :: L) := by
  have S1 := S0.box (repC 0) 76 rfl
  have hne : ¬ (w.heap.size = cb) := by have := S0.own_lt; omega
  have hne' : ¬ (cb = w.heap.size) := by have := S0.own_lt; omega
  go_enter Tryz.func34, Tryz.ntmps34
  go_upto_region 1 with fail
  change Code.wp _ _ _ _ (w.alloc (.cells (repC 0) 76))
  generalize w.alloc (.cells (repC 0) 76) = w1 at *
  generalize w.heap.size = xb at *
  have y4 : w1.cell? ⟨cb, 4, none⟩ = some (.bool false) := S1.p1.cell 4 _ rfl
  go_wp2_with ((show Go.wpList _ _ _ (Oper.mk none (Op.store _ _ _) _ _ _ _ :: _) _ _); refine wpList_sstore rfl _ (.tmp 4) (.tmp 12) rfl S1 _ rfl rfl (by kernel_rfl) rfl (by simp [Value.oneCell']) ?_; intro S2)
  refine bodyPost_ret (results_row_tmp Tryz.results34 _ _ xb _ _ _ _ rfl S2.cells_get Tryz.underlying76 rfl (by kernel_rfl)) rfl ?_
  exact ⟨rfl, S2.drop⟩
set_option maxRecDepth 100000 in
theorem knows_nil {g w : World} {L : List Asn} (S0 : Sat g w L) (s a : Int) : Calls Tryz.prog 116 #[.pointer none, .int .i64 s, .int .i64 a] w fun e w' => e = .returned (.tuple #[.agg (repC 21), .bool false]) ∧ Sat g w' L := by
  have S1 := S0.box (repC 0) 76 rfl
  go_enter Tryz.func116, Tryz.ntmps116
  go_upto_region 1 with fail
  change Code.wp _ _ _ _ (w.alloc (.cells (repC 0) 76))
  generalize w.alloc (.cells (repC 0) 76) = w1 at *
  generalize w.heap.size = xb at *
  go_wp2_with ((show Go.wpList _ _ _ (Oper.mk none (Op.store _ _ _) _ _ _ _ :: _) _ _); refine wpList_sstore rfl _ (.tmp 6) (.tmp 34) rfl S1 _ rfl rfl (by kernel_rfl) rfl (by simp [Value.oneCell']) ?_; intro S2)
  refine bodyPost_ret (results_row_tmp Tryz.results116 _ _ xb _ _ _ _ rfl S2.cells_get Tryz.underlying76 rfl (by kernel_rfl)) rfl ?_
  exact ⟨rfl, S2.drop⟩
theorem rep_cells {g w : World} {L : List Asn} {b : Nat} {t : TypeId} {e : Int} (S0 : Sat g w (cellsA b t (repC e) :: L)) : w.cell? ⟨b, 0, none⟩ = some (.int .i64 e) ∧ w.cell? ⟨b, 1, none⟩ = some (.int .i64 0) ∧ w.cell? ⟨b, 2, none⟩ = some (.int .i64 0) ∧ w.cell? ⟨b, 3, none⟩ = some (.slice none 0 0) ∧ w.cell? ⟨b, 4, none⟩ = some (.int .i64 0) ∧ w.cell? ⟨b, 5, none⟩ = some (.string ⟨#[]⟩) ∧ w.cell? ⟨b, 6, none⟩ = some (.int .i64 0) ∧ w.cell? ⟨b, 7, none⟩ = some (.int .i64 0) ∧ w.cell? ⟨b, 8, none⟩ = some (.int .i64 0) ∧ w.cell? ⟨b, 9, none⟩ = some (.int .i64 0) ∧ w.cell? ⟨b, 10, none⟩ = some (.int .i64 0) ∧ w.cell? ⟨b, 11, none⟩ = some (.int .i64 0) ∧ w.cell? ⟨b, 12, none⟩ = some (.slice none 0 0) ∧ w.cell? ⟨b, 13, none⟩ = some (.slice none 0 0) ∧ w.cell? ⟨b, 14, none⟩ = some (.int .i64 0) ∧ w.cell? ⟨b, 15, none⟩ = some (.int .i64 0) :=
  ⟨S0.cell 0 _ rfl, S0.cell 1 _ rfl, S0.cell 2 _ rfl, S0.cell 3 _ rfl, S0.cell 4 _ rfl, S0.cell 5 _ rfl, S0.cell 6 _ rfl, S0.cell 7 _ rfl, S0.cell 8 _ rfl, S0.cell 9 _ rfl, S0.cell 10 _ rfl, S0.cell 11 _ rfl, S0.cell 12 _ rfl, S0.cell 13 _ rfl, S0.cell 14 _ rfl, S0.cell 15 _ rfl⟩
set_option maxRecDepth 100000 in
theorem get_nil {g w : World} {L : List Asn} (S0 : Sat g w L) (s a : Int) (p : Value) : Calls Tryz.prog 78 #[.pointer none, .int .i64 s, p, .int .i64 a] w fun e w' => e = .returned (.agg (repC 21)) ∧ Sat g w' L := by
  have S1 := S0.box (repC 0) 76 rfl
  go_enter Tryz.func78, Tryz.ntmps78
  go_upto_region 1 with fail
  change Code.wp _ _ _ _ (w.alloc (.cells (repC 0) 76))
  generalize w.alloc (.cells (repC 0) 76) = w1 at *
  generalize w.heap.size = xb at *
  go_wp2_with fail
  refine (knows_nil S1 s a).mono ?_
  rintro e w2 ⟨rfl, S2⟩
  go_wp2_with ((show Go.wpList _ _ _ (Oper.mk none (Op.store _ _ _) _ _ _ _ :: _) _ _); first
    | (refine wpList_sstore rfl _ (.tmp 9) (.tmp 16) rfl (S2.box (repC 0) 76 rfl) _ rfl rfl (by kernel_rfl) rfl (by simp [Value.oneCell', repC]) ?_; intro S4; obtain ⟨r0, r1, r2, r3, r4, r5, r6, r7, r8, r9, r10, r11, r12, r13, r14, r15⟩ := rep_cells S4; have S5 := S4.p1)
    | (refine wpList_sstore rfl _ (.tmp 8) (.tmp 46) rfl S5 _ rfl rfl (by kernel_rfl) rfl (by simp [Value.oneCell']) ?_; intro S6))
  refine bodyPost_ret (results_cell_row Tryz.results78 _ _ xb _ _ _ _ rfl S6.cells_get Tryz.underlying76 rfl (by kernel_rfl)) rfl ?_
  exact ⟨rfl, S6.drop.drop⟩
/-- the piece that stands at n, ahead of the others -/
def bringA : Nat → List Asn → List Asn
  | 0, L => L
  | _ + 1, [] => []
  | n + 1, A :: L => match bringA n L with
    | [] => [A]
    | B :: L2 => B :: A :: L2
theorem stars_bring (n : Nat) (L : List Asn) : ∀ h, stars L h → stars (bringA n L) h := by
  induction n generalizing L with
  | zero => exact fun h X => X
  | succ n ih =>
    cases L with
    | nil => exact fun h X => X
    | cons A L =>
      intro h X
      have X2 : star A (stars (bringA n L)) h := star_mono (fun _ h => h) (fun h => ih L h) X
      show stars (match bringA n L with | [] => [A] | B :: L2 => B :: A :: L2) h
      cases e : bringA n L with
      | nil => rw [e] at X2; exact X2
      | cons B L2 => rw [e] at X2; exact star_perm X2
theorem Sat.bring {g w : World} {L : List Asn} (S0 : Sat g w L) (n : Nat) : Sat g w (bringA n L) := S0.map fun h => stars_bring n L h
/-- a whole struct stored into a block of one's own, as one step of a region that draws -/
theorem step_rstore {P : Program} {ops : Array Oper} {o : Oper} {a : Act} {g w : World} {L : List Asn} {K : Act → World → Prop} {Q : Exit → Act → World → Prop} {E : Prop} (hgd : o.guard = none) (ty : TypeId) (x y : Operand) (ho : o.op = .store ty x y)
    {b : Nat} {t : TypeId} {old : Array Value} (S : Sat g w (cellsA b t old :: L)) (cells : Array Value) (hx : a.eval x = .pointer (some ⟨b, 0, none⟩)) (hy : a.eval y = .agg cells)
    (hi : (P.info? ty).map (·.size) = some cells.size) (hold : old.size = cells.size) (h1 : cells.all (·.oneCell') = true)
    (h : Sat g (w.setRow b cells) (cellsA b t cells :: L) → K (a.put o.dst undef) (w.setRow b cells)) : if Region.wanted o (yielded ops a.tmps) = true then Oper.wp P o a w K Q else E := by
  have hw : Region.wanted o (yielded ops a.tmps) = true := by simp [Region.wanted, hgd]
  rw [if_pos hw]
  exact wp_store_row ty x y ho b cells hx hy t old S.cells_get hi hold h1 (h (S.setRow cells))
set_option maxRecDepth 100000 in
theorem read_cl {g w : World} {L : List Asn} {cb : Nat} {id req : Int} {busy : Bool} {c : CmdT} {A : Option Addr} {cap : Nat} (S0 : Sat g w (cellsA cb 101 (cliC id req busy c A cap) :: L)) (p : Value) : Calls Tryz.prog 35 #[ptr cb, .pointer none, p] w fun e w' => e = .returned (.agg (repC 21)) ∧ Sat g w' (cellsA cb 101 (cliC id req busy c A cap) :: L) := by
  have S1 := S0.box (repC 0) 76 rfl
  have HX : Hid (∀ (w' : World) (L' : List Asn), Sat g w' L' → cellsA cb 101 (cliC id req busy c A cap) ∈ L' → w'.cell? ⟨cb, 0, none⟩ = some (.int .i64 id) ∧ w'.cell? ⟨cb, 3, none⟩ = some (.int .i64 0)) := hide fun w' L' S' h => ⟨S'.cell_of h 0 _ rfl, S'.cell_of h 3 _ rfl⟩
  go_enter Tryz.func35, Tryz.ntmps35
  go_upto_region 1 with fail
  change Code.wp _ _ _ _ (w.alloc (.cells (repC 0) 76))
  generalize w.alloc (.cells (repC 0) 76) = w1 at *
  generalize w.heap.size = xb at *
  refine wp_region_held_drew (S := (fun w' => w'.cell? ⟨cb, 0, none⟩ = some (.int .i64 id) ∧ w'.cell? ⟨cb, 3, none⟩ = some (.int .i64 0))) (by kernel_rfl) ?_ (fun hHeld => ?_)
  · exact HX.out _ _ S1.drew (by simp)
  refine wpAnyH_take (i := 0) (oi := _) (v := ?_) rfl (by kernel_rfl) (by kernel_rfl) (by kernel_rfl) (fun _ _ _ h => h) (Or.inl ⟨by rfl, ?_⟩) hHeld ?_
  rotate_left
  · intro w' hSw
    (try dsimp only at hSw)
    go_simp
    try with_reducible rfl
  try simp only [Act.put, List.setIfInBounds_toArray, List.set_cons_zero, List.set_cons_succ, List.getElem_toArray, List.getElem_cons_zero, List.getElem_cons_succ]
  refine wpAnyH_take (i := 1) (oi := _) (v := ?_) rfl (by kernel_rfl) (by kernel_rfl) (by kernel_rfl) (fun _ _ _ h => h) (Or.inl ⟨by rfl, ?_⟩) hHeld ?_
  rotate_left
  · intro w' hSw
    (try dsimp only at hSw)
    go_simp
    try with_reducible rfl
  try simp only [Act.put, List.setIfInBounds_toArray, List.set_cons_zero, List.set_cons_succ, List.getElem_toArray, List.getElem_cons_zero, List.getElem_cons_succ]
  refine wpAnyH_take (i := 2) (oi := _) (v := ?_) rfl (by kernel_rfl) (by kernel_rfl) (by kernel_rfl) (fun _ _ _ h => h) (Or.inl ⟨by rfl, ?_⟩) hHeld ?_
  rotate_left
  · intro w' hSw
    (try dsimp only at hSw)
    go_simp
    try with_reducible rfl
  try simp only [Act.put, List.setIfInBounds_toArray, List.set_cons_zero, List.set_cons_succ, List.getElem_toArray, List.getElem_cons_zero, List.getElem_cons_succ]
  refine wpAnyH_take (i := 3) (oi := _) (v := ?_) rfl (by kernel_rfl) (by kernel_rfl) (by kernel_rfl) (fun _ _ _ h => h) (Or.inl ⟨by rfl, ?_⟩) hHeld ?_
  rotate_left
  · intro w' hSw
    (try dsimp only at hSw)
    go_simp
    try with_reducible rfl
  try simp only [Act.put, List.setIfInBounds_toArray, List.set_cons_zero, List.set_cons_succ, List.getElem_toArray, List.getElem_cons_zero, List.getElem_cons_succ]
  refine wpAnyH_take (i := 4) (oi := _) (v := ?_) rfl (by kernel_rfl) (by kernel_rfl) (by kernel_rfl) (fun _ _ _ h => h) (Or.inl ⟨by rfl, ?_⟩) hHeld ?_
  rotate_left
  · intro w' hSw
    (try dsimp only at hSw)
    go_simp
    try with_reducible rfl
  try simp only [Act.put, List.setIfInBounds_toArray, List.set_cons_zero, List.set_cons_succ, List.getElem_toArray, List.getElem_cons_zero, List.getElem_cons_succ]
  refine wpAnyH_take (i := 5) (oi := _) (v := ?_) rfl (by kernel_rfl) (by kernel_rfl) (by kernel_rfl) (fun _ _ _ h => h) (Or.inl ⟨by rfl, ?_⟩) hHeld ?_
  rotate_left
  · intro w' hSw
    (try dsimp only at hSw)
    go_simp
    try with_reducible rfl
  try simp only [Act.put, List.setIfInBounds_toArray, List.set_cons_zero, List.set_cons_succ, List.getElem_toArray, List.getElem_cons_zero, List.getElem_cons_succ]
  refine wpAnyH_take (i := 6) (oi := _) (v := ?_) rfl (by kernel_rfl) (by kernel_rfl) (by kernel_rfl) (fun _ _ _ h => h) (Or.inl ⟨by rfl, ?_⟩) hHeld ?_
  rotate_left
  · intro w' hSw
    (try dsimp only at hSw)
    go_simp
    try with_reducible rfl
  try simp only [Act.put, List.setIfInBounds_toArray, List.set_cons_zero, List.set_cons_succ, List.getElem_toArray, List.getElem_cons_zero, List.getElem_cons_succ]
  refine wpAnyH_take (i := 7) (oi := _) (v := ?_) rfl (by kernel_rfl) (by kernel_rfl) (by kernel_rfl) (fun _ _ _ h => h) (Or.inl ⟨by rfl, ?_⟩) hHeld ?_
  rotate_left
  · intro w' hSw
    (try dsimp only at hSw)
    go_simp
    try with_reducible rfl
  try simp only [Act.put, List.setIfInBounds_toArray, List.set_cons_zero, List.set_cons_succ, List.getElem_toArray, List.getElem_cons_zero, List.getElem_cons_succ]
  refine wpAnyH_take (i := 8) (oi := _) (v := ?_) rfl (by kernel_rfl) (by kernel_rfl) (by kernel_rfl) (fun _ _ _ h => h) (Or.inl ⟨by rfl, ?_⟩) hHeld ?_
  rotate_left
  · intro w' hSw
    (try dsimp only at hSw)
    go_simp
    try with_reducible rfl
  try simp only [Act.put, List.setIfInBounds_toArray, List.set_cons_zero, List.set_cons_succ, List.getElem_toArray, List.getElem_cons_zero, List.getElem_cons_succ]
  refine wpAnyH_take (i := 9) (oi := _) (v := ?_) rfl (by kernel_rfl) (by kernel_rfl) (by kernel_rfl) (fun _ _ _ h => h) (Or.inl ⟨by rfl, ?_⟩) hHeld ?_
  rotate_left
  · intro w' hSw
    (try dsimp only at hSw)
    go_simp
    try with_reducible rfl
  try simp only [Act.put, List.setIfInBounds_toArray, List.set_cons_zero, List.set_cons_succ, List.getElem_toArray, List.getElem_cons_zero, List.getElem_cons_succ]
  refine wpAnyH_ready (rs := [10, 11]) (by kernel_rfl) (by simp) ?_
  refine AllReadyH.cons rfl (fun K hK => ?_) ?_
  · go_simp
    go_at_call 78
    refine (get_nil S1.drew id 0 p).mono ?_
    rintro e w3 ⟨rfl, S3⟩
    refine hK.out _ _ ?_ (fun hHeld => ?_)
    · exact HX.out _ _ S3 (by simp)
    clear hK K
    try simp only [Act.put, List.setIfInBounds_toArray, List.set_cons_zero, List.set_cons_succ, List.getElem_toArray, List.getElem_cons_zero, List.getElem_cons_succ]
    refine wpAnyH_ready (rs := [11]) (by kernel_rfl) (by simp) ?_
    refine AllReadyH.cons rfl (fun K hK => ?_) ?_
    · go_simp
      refine hK.out _ _ ?_ (fun hHeld => ?_)
      · exact HX.out _ _ (S3.box (repC 0) 76 rfl) (by simp)
      clear hK K
      try simp only [Act.put, List.setIfInBounds_toArray, List.set_cons_zero, List.set_cons_succ, List.getElem_toArray, List.getElem_cons_zero, List.getElem_cons_succ]
      refine wpAnyH_ready (rs := [12]) (by kernel_rfl) (by simp) ?_
      refine AllReadyH.cons rfl (fun K hK => ?_) ?_
      · refine step_rstore rfl _ (.tmp 7) (.tmp 18) rfl (g := g) (S := (S3.box (repC 0) 76 rfl)) _ rfl rfl (by kernel_rfl) rfl (by simp [Value.oneCell', repC]) ?_
        intro S5
        refine hK.out _ _ ?_ (fun hHeld => ?_)
        · exact HX.out _ _ S5 (by simp)
        clear hK K
        try simp only [Act.put, List.setIfInBounds_toArray, List.set_cons_zero, List.set_cons_succ, List.getElem_toArray, List.getElem_cons_zero, List.getElem_cons_succ]
        refine wpAnyH_done (by kernel_rfl) ?_ _
        obtain ⟨r0, r1, r2, r3, r4, r5, r6, r7, r8, r9, r10, r11, r12, r13, r14, r15⟩ := rep_cells S5
        generalize w3.heap.size = kb at *
        have S6 := S5.p1
        go_wp2_with ((show Go.wpList _ _ _ (Oper.mk none (Op.store _ _ _) _ _ _ _ :: _) _ _); refine wpList_sstore rfl _ (.tmp 6) (.tmp 25) rfl S6 _ rfl rfl (by kernel_rfl) rfl (by simp [Value.oneCell']) ?_; intro S7)
        refine bodyPost_ret (results_cell_row Tryz.results35 _ _ xb _ _ _ _ rfl S7.cells_get Tryz.underlying76 rfl (by kernel_rfl)) rfl ?_
        exact ⟨rfl, S7.drop.drop⟩
      exact AllReadyH.nil
    exact AllReadyH.nil
  refine AllReadyH.cons rfl (fun K hK => ?_) ?_
  · go_simp
    refine hK.out _ _ ?_ (fun hHeld => ?_)
    · exact HX.out _ _ (S1.drew.box (repC 0) 76 (b := w1.heap.size) rfl) (by simp)
    clear hK K
    try simp only [Act.put, List.setIfInBounds_toArray, List.set_cons_zero, List.set_cons_succ, List.getElem_toArray, List.getElem_cons_zero, List.getElem_cons_succ]
    refine wpAnyH_ready (rs := [10]) (by kernel_rfl) (by simp) ?_
    refine AllReadyH.cons rfl (fun K hK => ?_) ?_
    · go_simp
      go_at_call 78
      refine (get_nil (S1.drew.box (repC 0) 76 (b := w1.heap.size) rfl) id 0 p).mono ?_
      rintro e w3 ⟨rfl, S3⟩
      refine hK.out _ _ ?_ (fun hHeld => ?_)
      · exact HX.out _ _ S3 (by simp)
      clear hK K
      try simp only [Act.put, List.setIfInBounds_toArray, List.set_cons_zero, List.set_cons_succ, List.getElem_toArray, List.getElem_cons_zero, List.getElem_cons_succ]
      refine wpAnyH_ready (rs := [12]) (by kernel_rfl) (by simp) ?_
      refine AllReadyH.cons rfl (fun K hK => ?_) ?_
      · refine step_rstore rfl _ (.tmp 7) (.tmp 18) rfl (g := g) (S := S3) _ rfl rfl (by kernel_rfl) rfl (by simp [Value.oneCell', repC]) ?_
        intro S5
        refine hK.out _ _ ?_ (fun hHeld => ?_)
        · exact HX.out _ _ S5 (by simp)
        clear hK K
        try simp only [Act.put, List.setIfInBounds_toArray, List.set_cons_zero, List.set_cons_succ, List.getElem_toArray, List.getElem_cons_zero, List.getElem_cons_succ]
        refine wpAnyH_done (by kernel_rfl) ?_ _
        obtain ⟨r0, r1, r2, r3, r4, r5, r6, r7, r8, r9, r10, r11, r12, r13, r14, r15⟩ := rep_cells S5
        generalize w1.heap.size = kb at *
        have S6 := S5.p1
        go_wp2_with ((show Go.wpList _ _ _ (Oper.mk none (Op.store _ _ _) _ _ _ _ :: _) _ _); refine wpList_sstore rfl _ (.tmp 6) (.tmp 25) rfl S6 _ rfl rfl (by kernel_rfl) rfl (by simp [Value.oneCell']) ?_; intro S7)
        refine bodyPost_ret (results_cell_row Tryz.results35 _ _ xb _ _ _ _ rfl S7.cells_get Tryz.underlying76 rfl (by kernel_rfl)) rfl ?_
        exact ⟨rfl, S7.drop.drop⟩
      exact AllReadyH.nil
    exact AllReadyH.nil
  exact AllReadyH.nil
end Go.Proofs.YtegafdkhbgojcaaGreatDoor
