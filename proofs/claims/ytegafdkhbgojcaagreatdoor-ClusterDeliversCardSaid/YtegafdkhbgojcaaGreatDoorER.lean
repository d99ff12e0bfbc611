/- What reading a block gives of a device where nothing was written that isn't safe. No condition. -/
import Derived.Test.YtegafdkhbgojcaaGreatDoorEC
import Derived.Test.YtegafdkhbgojcaaGreatDoorChecked
import Derived.Shelf.SlIter.Collect
import Derived.Deep.QuietTactic
import Derived.BigQuiet
set_option linter.unusedVariables false
set_option linter.unusedSimpArgs false
namespace Go.Proofs.YtegafdkhbgojcaaGreatDoor.Ek
section
open Go.RowKit Go.Maps Go.Sort Go.Shelf Go.MapKept
theorem down_no (w : World) (B o : Nat) (c6 : w.cell? ⟨B, o + 6, none⟩ = some (.bool false)) : Calls Tryz.prog 22 #[.pointer (some ⟨B, o, none⟩)] w fun e w' => e = .returned (.bool false) ∧ w' = w := by
  go_enter Tryz.func22, Tryz.ntmps22
  go_wp2_with fail
  go_ret
  exact ⟨rfl, rfl⟩
/-- a loop over a function that hands over nothing -/
theorem wpIn_range_none {P : Program} {g : Operand} {ps : Array Tmp} {assign body : Code} {Q : Exit → Act → World → Prop} {a : Act} {w : World} {n gf : Nat} {lb : Array Value} (hn : 1 ≤ n) (hg : a.eval g = .func (.func gf) #[] lb) (eg : ∀ args W, (callFunc gf args).run P W = .ok (.enter gf args) W)
    (hit : ∀ W l, Keeps (fun _ => False) w W → CallsIn Fence.wide (n - 1) P gf (#[.func (.yield l) #[] #[]] ++ lb) W fun e w' => e = .returned (.tuple #[]) ∧ w' = W)
    (h : ∀ W D, Keeps (fun _ => False) w W → W.heap[D]? = some (.deferred (some [])) → w.heap.size ≤ D → Q .normal { a with defers := { target := .collected D, args := #[] } :: a.defers } W) : (Code.rangeFunc g ps assign body).wpIn Fence.wide n P Q a w := by
  refine wpIn_rangeFunc ?_
  intro fn hfn
  rw [show Fence.wide.round = none from rfl]
  obtain ⟨W1, hW1⟩ : ∃ W1, (w.alloc (.deferred (some []))).alloc (.loop { state := .ready, pending := none, fn, tmps := a.tmps, params := ps, assign, body, defers := w.heap.size }) = W1 := ⟨_, rfl⟩
  have hL : W1.heap[w.heap.size + 1]? = some (.loop { state := .ready, pending := none, fn, tmps := a.tmps, params := ps, assign, body, defers := w.heap.size }) := by
    rw [← hW1]
    have := World.alloc_heap_new (w.alloc (.deferred (some []))) (.loop { state := .ready, pending := none, fn, tmps := a.tmps, params := ps, assign, body, defers := w.heap.size })
    rwa [World.size_alloc] at this
  have hD : W1.heap[w.heap.size]? = some (.deferred (some [])) := by rw [← hW1]; exact (Below.heap_alloc _ _ _ (by simp)).trans (World.alloc_heap_new w _)
  have hK : Keeps (fun _ => False) w W1 := by rw [← hW1]; exact ((Keeps.refl _ w).alloc _).alloc _
  refine ⟨w.heap.size + 1, [{ target := .collected w.heap.size, args := #[] }], W1, { target := .fn (.func gf) lb, args := #[.func (.yield (w.heap.size + 1)) #[] #[]] }, W1, gf, #[.func (.yield (w.heap.size + 1)) #[] #[]] ++ lb, W1, ?_, ?_, ?_, ?_, fun _ => hn, ?_⟩
  · rw [← hW1]; exact run_enterLoop_outer _ _ _ _ _
  · simp only [resolve, hg]
    simp [go_sem]
  · intro f' hf'; simp [Target.leads] at hf'; subst hf'; trivial
  · simp [invoke, go_sem, eg]
  · refine (hit W1 _ hK).mono ?_
    rintro e w' ⟨rfl, rfl⟩
    refine ⟨none, _, run_endLoop hL (by simp), ?_⟩
    have hlt : w.heap.size + 1 < w'.heap.size := (Array.getElem?_eq_some_iff.1 hL).1
    refine h _ w.heap.size ⟨hK.os, hK.tape, hK.output, by simp [World.putObj]; omega, fun k hk _ => ?_⟩ ((World.putObj_heap_other (by omega)).trans hD) (Nat.le_refl _)
    exact (World.putObj_heap_other (by omega)).trans (hK.block k hk (fun h => h))
theorem back_nil (w : World) : Calls Tryz.prog 320 #[.slice none 0 0] w fun e w' => e = .returned (.func (.func 365) #[] #[.pointer (some ⟨w.heap.size, 0, none⟩)]) ∧ w' = w.alloc (.cells #[.slice none 0 0] 128) := by
  go_enter Tryz.func320, Tryz.ntmps320
  go_wp2_with fail
  go_ret
  exact ⟨rfl, rfl⟩
theorem iter_nil (w : World) (b l : Nat) (c0 : w.cell? ⟨b, 0, none⟩ = some (.slice none 0 0)) : Calls Tryz.prog 365 #[.func (.yield l) #[] #[], .pointer (some ⟨b, 0, none⟩)] w fun e w' => e = .returned (.tuple #[]) ∧ w' = w := by
  go_enter Tryz.func365, Tryz.ntmps365
  go_wp2_with fail
  go_loopw [3] (fun i wi => i = .int .i64 (-1) ∧ wi = w) (fun _ _ => 0)
  case atStart => exact ⟨rfl, rfl⟩
  case round =>
    obtain ⟨rfl, rfl⟩ := hrel
    go_wp2_with fail
    first | go_ret | go_end0
    exact ⟨rfl, rfl⟩
set_option maxHeartbeats 1000000 in
theorem read_near (w : World) (B o size n sb lb : Nat) (Q : List UInt8 → Prop) (c0 : w.cell? ⟨B, o, none⟩ = some (.int .i64 (size : Int))) (c1 : w.cell? ⟨B, o + 1, none⟩ = some (.map (some sb))) (c2 : w.cell? ⟨B, o + 2, none⟩ = some (.slice none 0 0)) (c3 : w.cell? ⟨B, o + 3, none⟩ = some (.map (some lb)))
    (c6 : w.cell? ⟨B, o + 6, none⟩ = some (.bool false)) (hn : n ≤ 1000000000) (hlt : n < size) (hl : ∀ w1, Keeps (fun _ => False) w w1 → (Instr.lookup 129 (.map (some lb)) (.int .i64 (n : Int)) false).run Tryz.prog w1 = .ok (.bool false) w1)
    (hs : ∀ w1, Keeps (fun _ => False) w w1 → ∃ v, Q v ∧ (Instr.lookup 127 (.map (some sb)) (.int .i64 (n : Int)) false).run Tryz.prog w1 = .ok (.string (S v)) w1) :
    Calls Tryz.prog 260 #[.pointer (some ⟨B, o, none⟩), .int .i64 (n : Int)] w fun e w' => ∃ v, Q v ∧ e = .returned (.tuple #[.string (S v), .int .i64 0]) ∧ Keeps (fun _ => False) w w' := by
  refine (callsIn_wide (n := 6)).1 ?_
  have cD : ∀ W : World, W.cell? ⟨B, o + 6, none⟩ = some (.bool false) → CallsIn Fence.wide 5 Tryz.prog 22 #[.pointer (some ⟨B, o, none⟩)] W fun e w' => e = .returned (.bool false) ∧ w' = W := fun W h => callsIn_wide.2 (down_no W B o h)
  have hfD : Fence.wide.fn 22 := trivial
  refine callsIn_of_wp_marks Tryz.func260 rfl trivial ?_ rfl
  simp only [Tryz.ntmps260, List.size_toArray, List.length_cons, List.length_nil, Nat.reduceAdd, Nat.reduceSub, Array.replicate_succ, Array.replicate_zero, List.push_toArray, List.append_toArray, List.nil_append, List.cons_append]
  gi_wp2_with (first
    | (gi_at_call 22; refine (cD _ (((((Keeps.refl (fun _ => False) w).alloc _).alloc _).alloc _).cell c6 (fun h => h))).mono ?_; rintro e w' ⟨rfl, rfl⟩))
  obtain ⟨W, hW⟩ : ∃ W, ((w.alloc (.cells #[.int .i64 (n : Int)] 3)).alloc (.cells #[.string ⟨#[]⟩] 9)).alloc (.cells #[.int .i64 0] 24) = W := ⟨_, rfl⟩
  have hK : Keeps (fun _ => False) w W := by rw [← hW]; exact (((Keeps.refl (fun _ => False) w).alloc _).alloc _).alloc _
  have hsz : W.heap.size = w.heap.size + 3 := by rw [← hW]; simp
  have b0 : W.heap[w.heap.size]? = some (.cells #[.int .i64 (n : Int)] 3 (0, 0)) := by rw [← hW]; exact (Below.heap_alloc _ _ _ (by simp; omega)).trans ((Below.heap_alloc _ _ _ (by simp)).trans (World.alloc_heap_new w _))
  have b1 : W.heap[w.heap.size + 1]? = some (.cells #[.string ⟨#[]⟩] 9 (0, 0)) := by
    rw [← hW]
    have := World.alloc_heap_new (w.alloc (.cells #[.int .i64 (n : Int)] 3)) (.cells #[.string ⟨#[]⟩] 9)
    rw [World.size_alloc] at this
    exact (Below.heap_alloc _ _ _ (by simp)).trans this
  have b2 : W.heap[w.heap.size + 1 + 1]? = some (.cells #[.int .i64 0] 24 (0, 0)) := by
    rw [← hW]
    have := World.alloc_heap_new ((w.alloc (.cells #[.int .i64 (n : Int)] 3)).alloc (.cells #[.string ⟨#[]⟩] 9)) (.cells #[.int .i64 0] 24)
    rw [World.size_alloc, World.size_alloc] at this
    exact this
  rw [hW]
  have d0 := hK.cell c0 (fun h => h)
  have d1 := hK.cell c1 (fun h => h)
  have d2 := hK.cell c2 (fun h => h)
  have d3 := hK.cell c3 (fun h => h)
  have e0 : W.cell? ⟨w.heap.size, 0, none⟩ = some (.int .i64 (n : Int)) := by simp [World.cell?, b0]
  have hnl : ¬ ((size : Int) ≤ (n : Int)) := by omega
  have hn0 : ¬ ((n : Int) < 0) := by omega
  refine wpIn_wide.2 ?_
  go_quiet (fail)
  obtain ⟨W1, hW1⟩ : ∃ W1, W.drewN nq = W1 := ⟨_, rfl⟩
  rw [hW1]
  have hK1 : Keeps (fun _ => False) w W1 := by rw [← hW1]; exact hK.drewN _
  have s1 : W1.heap = W.heap := by rw [← hW1]; rfl
  rw [← s1] at b0 b1 b2
  clear d0 d1 d2 d3 e0 hW hW1 hK s1
  have d3 := hK1.cell c3 (fun h => h)
  have e0 : W1.cell? ⟨w.heap.size, 0, none⟩ = some (.int .i64 (n : Int)) := by simp [World.cell?, b0]
  have l0 : ∀ m, (Instr.lookup 129 (.map (some lb)) (.int .i64 (n : Int)) false).run Tryz.prog (W1.drewN m) = .ok (.bool false) (W1.drewN m) := fun m => hl _ (hK1.drewN m)
  gi_wp2_with fail
  refine wpIn_wide.2 ?_
  go_quiet (fail)
  obtain ⟨W2, hW2⟩ : ∃ W2, W1.drewN nq = W2 := ⟨_, rfl⟩
  rw [hW2]
  have hK2 : Keeps (fun _ => False) w W2 := by rw [← hW2]; exact hK1.drewN _
  have s2 : W2.heap = W1.heap := by rw [← hW2]; rfl
  rw [← s2] at b0 b1 b2
  clear d3 e0 l0 hW2 s2 hK1
  have d2 := hK2.cell c2 (fun h => h)
  have cB : ∀ W : World, CallsIn Fence.wide 5 Tryz.prog 320 #[.slice none 0 0] W fun e w' => e = .returned (.func (.func 365) #[] #[.pointer (some ⟨W.heap.size, 0, none⟩)]) ∧ w' = W.alloc (.cells #[.slice none 0 0] 128) := fun W => callsIn_wide.2 (back_nil W)
  have hfB : Fence.wide.fn 320 := trivial
  gi_wp2_with (gi_at_call 320; refine (cB _).mono ?_; rintro e w' ⟨rfl, rfl⟩)
  obtain ⟨W3, hW3⟩ : ∃ W3, W2.alloc (.cells #[.slice none 0 0] 128) = W3 := ⟨_, rfl⟩
  have hb3 : W3.cell? ⟨W2.heap.size, 0, none⟩ = some (.slice none 0 0) := by
    rw [← hW3]
    have h := World.alloc_heap_new W2 (.cells #[.slice none 0 0] 128)
    simp only [World.cell?, h]
    rfl
  have hK3 : Keeps (fun _ => False) w W3 := by rw [← hW3]; exact hK2.alloc _
  have hs3 : W3.heap.size = W2.heap.size + 1 := by rw [← hW3]; simp
  have hlt2 : w.heap.size + 1 + 1 < W2.heap.size := (Array.getElem?_eq_some_iff.1 b2).1
  have g0 : W3.heap[w.heap.size]? = some (.cells #[.int .i64 (n : Int)] 3 (0, 0)) := by rw [← hW3]; exact (Below.heap_alloc _ _ _ (by omega)).trans b0
  have g1 : W3.heap[w.heap.size + 1]? = some (.cells #[.string ⟨#[]⟩] 9 (0, 0)) := by rw [← hW3]; exact (Below.heap_alloc _ _ _ (by omega)).trans b1
  have g2 : W3.heap[w.heap.size + 1 + 1]? = some (.cells #[.int .i64 0] 24 (0, 0)) := by rw [← hW3]; exact (Below.heap_alloc _ _ _ (by omega)).trans b2
  have hbs : W2.heap.size < W3.heap.size := by omega
  generalize W2.heap.size = bb at hb3 hbs ⊢
  rw [hW3]
  clear hW3 hs3 hK2 d2 b0 b1 b2
  have eg : ∀ args W, (callFunc 365 args).run Tryz.prog W = .ok (.enter 365 args) W := enters_of Tryz.func365 (by kernel_rfl) rfl
  refine wpIn_range_none (gf := 365) (lb := #[.pointer (some ⟨bb, 0, none⟩)]) (by decide) rfl eg (fun W l hk => callsIn_wide.2 (iter_nil W bb l (hk.cell hb3 (fun h => h)))) ?_
  intro W4 D hk4 hD hDlt
  have q0 := hk4.heap g0 (fun h => h)
  have q1 := hk4.heap g1 (fun h => h)
  have q2 := hk4.heap g2 (fun h => h)
  have hK4 := hK3.trans' hk4
  have hsz3 := hK3.size
  clear g0 g1 g2 hk4 hb3 hK3
  gi_wp2_with fail
  obtain ⟨v, hQ, hv⟩ := hs W4.drew hK4.drew
  have d1 := hK4.drew.cell c1 (fun h => h)
  have e0 : W4.drew.cell? ⟨w.heap.size, 0, none⟩ = some (.int .i64 (n : Int)) := by show W4.cell? _ = _; simp [World.cell?, q0]
  have e1 : W4.drew.cell? ⟨w.heap.size + 1, 0, none⟩ = some (.string ⟨#[]⟩) := by show W4.cell? _ = _; simp [World.cell?, q1]
  have f1 : W4.drew.frozen? ⟨w.heap.size + 1, 0, none⟩ = false := by show W4.frozen? _ = _; simp [World.frozen?, q1]
  have e2 : W4.drew.cell? ⟨w.heap.size + 1 + 1, 0, none⟩ = some (.int .i64 0) := by show W4.cell? _ = _; simp [World.cell?, q2]
  have f2 : W4.drew.frozen? ⟨w.heap.size + 1 + 1, 0, none⟩ = false := by show W4.frozen? _ = _; simp [World.frozen?, q2]
  have e2' : W4.cell? ⟨w.heap.size + 1 + 1, 0, none⟩ = some (.int .i64 0) := e2
  have f2' : W4.frozen? ⟨w.heap.size + 1 + 1, 0, none⟩ = false := f2
  refine wpIn_wide.2 ?_
  go_region
  have hne1 : w.heap.size + 1 ≠ D := by
    have := (Array.getElem?_eq_some_iff.1 q2).1
    intro e
    rw [← e] at hD
    rw [hD] at q1
    cases q1
  have hne2 : w.heap.size + 1 + 1 ≠ D := by
    intro e
    rw [← e] at hD
    rw [hD] at q2
    cases q2
  gi_wp2_with fail
  have hlt4 : D < W4.heap.size := (Array.getElem?_eq_some_iff.1 hD).1
  obtain ⟨V1, hV1⟩ : ∃ V1, W4.setCell ⟨w.heap.size + 1, 0, none⟩ (.string (S v)) = V1 := ⟨_, rfl⟩
  have x1 : V1.heap[w.heap.size + 1]? = some (.cells #[.string (S v)] 9 (0, 0)) := by
    rw [← hV1, setCell_eq_setRow W4 _ 0 _ _ _ _ q1]
    exact setRow_heap W4 _ _ _ _ _ q1
  have x2 : V1.heap[w.heap.size + 1 + 1]? = some (.cells #[.int .i64 0] 24 (0, 0)) := by
    rw [← hV1, setCell_eq_setRow W4 _ 0 _ _ _ _ q1]
    exact (setRow_other W4 _ _ _ (by omega)).trans q2
  have x3 : V1.heap[D]? = some (.deferred (some [])) := by
    rw [← hV1, setCell_eq_setRow W4 _ 0 _ _ _ _ q1]
    exact (setRow_other W4 _ _ _ (fun e => hne1 e.symm)).trans hD
  have xK : Keeps (fun _ => False) w V1 := by rw [← hV1]; exact hK4.setCell (fun h => by simp at h; omega) _
  rw [hV1]
  obtain ⟨V2, hV2⟩ : ∃ V2, (V1.setCell ⟨w.heap.size + 1 + 1, 0, none⟩ (.int .i64 0)).drew = V2 := ⟨_, rfl⟩
  have y1 : V2.heap[w.heap.size + 1]? = some (.cells #[.string (S v)] 9 (0, 0)) := by
    rw [← hV2, setCell_eq_setRow V1 _ 0 _ _ _ _ x2]
    exact (setRow_other V1 _ _ _ (by omega)).trans x1
  have y2 : V2.heap[w.heap.size + 1 + 1]? = some (.cells #[.int .i64 0] 24 (0, 0)) := by
    rw [← hV2, setCell_eq_setRow V1 _ 0 _ _ _ _ x2]
    exact setRow_heap V1 _ _ _ _ _ x2
  have y3 : V2.heap[D]? = some (.deferred (some [])) := by
    rw [← hV2, setCell_eq_setRow V1 _ 0 _ _ _ _ x2]
    exact (setRow_other V1 _ _ _ (fun e => hne2 e.symm)).trans x3
  have yK : Keeps (fun _ => False) w V2 := by rw [← hV2]; exact (xK.setCell (fun h => by simp at h; omega) _).drew
  rw [hV2]
  have ylt : D < V2.heap.size := (Array.getElem?_eq_some_iff.1 y3).1
  obtain ⟨V3, hV3⟩ : ∃ V3, V2.putObj D (.deferred none) = V3 := ⟨_, rfl⟩
  have z1 : V3.cell? ⟨w.heap.size + 1, 0, none⟩ = some (.string (S v)) := by
    have : V3.heap[w.heap.size + 1]? = some (.cells #[.string (S v)] 9 (0, 0)) := by rw [← hV3]; exact (World.putObj_heap_other hne1).trans y1
    simp [World.cell?, this]
  have z2 : V3.cell? ⟨w.heap.size + 1 + 1, 0, none⟩ = some (.int .i64 0) := by
    have : V3.heap[w.heap.size + 1 + 1]? = some (.cells #[.int .i64 0] 24 (0, 0)) := by rw [← hV3]; exact (World.putObj_heap_other hne2).trans y2
    simp [World.cell?, this]
  have zK : Keeps (fun _ => False) w V3 := by
    rw [← hV3]
    refine ⟨yK.os, yK.tape, yK.output, by have := yK.size; simp [World.putObj]; omega, fun k hk _ => ?_⟩
    exact (World.putObj_heap_other (by omega)).trans (yK.block k hk (fun h => h))
  have htake := run_takeDeferred (P := Tryz.prog) y3
  rw [hV3] at htake
  refine ⟨by simp, .inl ⟨_, _, rfl, htake, ?_⟩⟩
  refine ⟨.tuple #[.string (S v), .int .i64 0], ?_, v, hQ, rfl, zK⟩
  have a1 : Ex.aggT Tryz.prog 9 = some false := by kernel_rfl
  have a2 : Ex.aggT Tryz.prog 24 = some false := by kernel_rfl
  have r1 := fun W => Ex.run_isAgg' a1 W
  have r2 := fun W => Ex.run_isAgg' a2 W
  unfold results
  rw [show (Tryz.f260).results = #[.cell 4 9, .cell 5 24] from rfl]
  simp [asAddr, loadVar, r1, r2, z1, z2]
set_option maxHeartbeats 1000000 in
theorem read_far (w : World) (B o size n sb lb : Nat) (c0 : w.cell? ⟨B, o, none⟩ = some (.int .i64 (size : Int))) (c1 : w.cell? ⟨B, o + 1, none⟩ = some (.map (some sb))) (c2 : w.cell? ⟨B, o + 2, none⟩ = some (.slice none 0 0)) (c3 : w.cell? ⟨B, o + 3, none⟩ = some (.map (some lb)))
    (c6 : w.cell? ⟨B, o + 6, none⟩ = some (.bool false)) (hn : n ≤ 1000000000) (hle : size ≤ n) :
    Calls Tryz.prog 260 #[.pointer (some ⟨B, o, none⟩), .int .i64 (n : Int)] w fun e w' => e = .returned (.tuple #[.string (S []), .int .i64 7]) ∧ Keeps (fun _ => False) w w' := by
  go_enter Tryz.func260, Tryz.ntmps260
  go_wp2_with fail
  refine (down_no _ B o (((((Keeps.refl (fun _ => False) w).alloc _).alloc _).alloc _).cell c6 (fun h => h))).mono ?_
  rintro e w' ⟨rfl, rfl⟩
  go_wp2_with fail
  obtain ⟨W, hW⟩ : ∃ W, ((w.alloc (.cells #[.int .i64 (n : Int)] 3)).alloc (.cells #[.string ⟨#[]⟩] 9)).alloc (.cells #[.int .i64 0] 24) = W := ⟨_, rfl⟩
  have hK : Keeps (fun _ => False) w W := by rw [← hW]; exact (((Keeps.refl (fun _ => False) w).alloc _).alloc _).alloc _
  have b0 : W.heap[w.heap.size]? = some (.cells #[.int .i64 (n : Int)] 3 (0, 0)) := by rw [← hW]; exact (Below.heap_alloc _ _ _ (by simp; omega)).trans ((Below.heap_alloc _ _ _ (by simp)).trans (World.alloc_heap_new w _))
  have b1 : W.heap[w.heap.size + 1]? = some (.cells #[.string ⟨#[]⟩] 9 (0, 0)) := by
    rw [← hW]
    have := World.alloc_heap_new (w.alloc (.cells #[.int .i64 (n : Int)] 3)) (.cells #[.string ⟨#[]⟩] 9)
    rw [World.size_alloc] at this
    exact (Below.heap_alloc _ _ _ (by simp)).trans this
  have b2 : W.heap[w.heap.size + 1 + 1]? = some (.cells #[.int .i64 0] 24 (0, 0)) := by
    rw [← hW]
    have := World.alloc_heap_new ((w.alloc (.cells #[.int .i64 (n : Int)] 3)).alloc (.cells #[.string ⟨#[]⟩] 9)) (.cells #[.int .i64 0] 24)
    rw [World.size_alloc, World.size_alloc] at this
    exact this
  rw [hW]
  have d0 := hK.cell c0 (fun h => h)
  have e0 : W.cell? ⟨w.heap.size, 0, none⟩ = some (.int .i64 (n : Int)) := by simp [World.cell?, b0]
  have hyl : (size : Int) ≤ (n : Int) := by omega
  have hn0 : ¬ ((n : Int) < 0) := by omega
  go_quiet (fail)
  obtain ⟨W1, hW1⟩ : ∃ W1, W.drewN nq = W1 := ⟨_, rfl⟩
  rw [hW1]
  have hK1 : Keeps (fun _ => False) w W1 := by rw [← hW1]; exact hK.drewN _
  have s1 : W1.heap = W.heap := by rw [← hW1]; rfl
  rw [← s1] at b1 b2
  clear d0 e0 hW hW1 hK s1 b0
  have e1 : W1.cell? ⟨w.heap.size + 1, 0, none⟩ = some (.string ⟨#[]⟩) := by simp [World.cell?, b1]
  have f1 : W1.frozen? ⟨w.heap.size + 1, 0, none⟩ = false := by simp [World.frozen?, b1]
  have e2 : W1.cell? ⟨w.heap.size + 1 + 1, 0, none⟩ = some (.int .i64 0) := by simp [World.cell?, b2]
  have f2 : W1.frozen? ⟨w.heap.size + 1 + 1, 0, none⟩ = false := by simp [World.frozen?, b2]
  go_wp2_with fail
  obtain ⟨V1, hV1⟩ : ∃ V1, W1.setCell ⟨w.heap.size + 1, 0, none⟩ (.string ⟨#[]⟩) = V1 := ⟨_, rfl⟩
  have x1 : V1.heap[w.heap.size + 1]? = some (.cells #[.string ⟨#[]⟩] 9 (0, 0)) := by
    rw [← hV1, setCell_eq_setRow W1 _ 0 _ _ _ _ b1]
    exact setRow_heap W1 _ _ _ _ _ b1
  have x2 : V1.heap[w.heap.size + 1 + 1]? = some (.cells #[.int .i64 0] 24 (0, 0)) := by
    rw [← hV1, setCell_eq_setRow W1 _ 0 _ _ _ _ b1]
    exact (setRow_other W1 _ _ _ (by omega)).trans b2
  have xK : Keeps (fun _ => False) w V1 := by rw [← hV1]; exact hK1.setCell (fun h => by simp at h; omega) _
  rw [hV1]
  obtain ⟨V2, hV2⟩ : ∃ V2, V1.setCell ⟨w.heap.size + 1 + 1, 0, none⟩ (.int .i64 7) = V2 := ⟨_, rfl⟩
  have y1 : V2.heap[w.heap.size + 1]? = some (.cells #[.string ⟨#[]⟩] 9 (0, 0)) := by
    rw [← hV2, setCell_eq_setRow V1 _ 0 _ _ _ _ x2]
    exact (setRow_other V1 _ _ _ (by omega)).trans x1
  have y2 : V2.heap[w.heap.size + 1 + 1]? = some (.cells #[.int .i64 7] 24 (0, 0)) := by
    rw [← hV2, setCell_eq_setRow V1 _ 0 _ _ _ _ x2]
    exact setRow_heap V1 _ _ _ _ _ x2
  have yK : Keeps (fun _ => False) w V2 := by rw [← hV2]; exact xK.setCell (fun h => by simp at h; omega) _
  rw [hV2]
  have z1 : V2.cell? ⟨w.heap.size + 1, 0, none⟩ = some (.string ⟨#[]⟩) := by simp [World.cell?, y1]
  have z2 : V2.cell? ⟨w.heap.size + 1 + 1, 0, none⟩ = some (.int .i64 7) := by simp [World.cell?, y2]
  refine ⟨rfl, .tuple #[.string (S []), .int .i64 7], ?_, rfl, yK⟩
  have a1 : Ex.aggT Tryz.prog 9 = some false := by kernel_rfl
  have a2 : Ex.aggT Tryz.prog 24 = some false := by kernel_rfl
  have r1 := fun W => Ex.run_isAgg' a1 W
  have r2 := fun W => Ex.run_isAgg' a2 W
  unfold results
  rw [show (Tryz.f260).results = #[.cell 4 9, .cell 5 24] from rfl]
  simp [asAddr, loadVar, r1, r2, z1, z2, S]
theorem readC : Ex.ReadC Tryz.prog 260 129 127 :=
  ⟨fun w B o size n sb lb c0 c1 c2 c3 c6 hn hle => read_far w B o size n sb lb c0 c1 c2 c3 c6 hn hle, fun w B o size n sb lb Q c0 c1 c2 c3 c6 hn hlt hl hs => read_near w B o size n sb lb Q c0 c1 c2 c3 c6 hn hlt hl hs⟩
end
end Go.Proofs.YtegafdkhbgojcaaGreatDoor.Ek
