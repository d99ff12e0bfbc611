/- What is kept of a request, walked. No condition. -/
import Derived.Test.YtanlobdidjednaaGreatDoorJuF
set_option linter.unusedVariables false
set_option linter.unusedSimpArgs false
namespace Go.Proofs.YtanlobdidjednaaGreatDoor
open Go.RowKit

theorem results_row_tmp2 {P : Program} {fn : Func} {p u v : Tmp} {ty : TypeId} (h : fn.results = #[.cell p ty, .tmp u, .tmp v]) (tmps : Array Value) (w : World) (g : Nat) (t : TypeId) (cs : Array Value) (fr : Nat × Nat) (d : TypeDesc)
    (hp : tmps.getD p undef = .pointer (some ⟨g, 0, none⟩)) (hg : w.heap[g]? = some (.cells cs t fr))
    (hu : P.underlying ty = some d) (hd : (match d with | .struct _ | .array _ _ => true | _ => false) = true) (hi : (P.info? ty).map (·.size) = some cs.size) :
    (results fn tmps).run P w = .ok (.tuple #[.agg cs, tmps.getD u undef, tmps.getD v undef]) w := by
  simp only [results, h]
  simp only [Array.getD_eq_getD_getElem?] at hp
  simp [Sem.run_bind, Result.andThen, hp, asAddr, run_loadVar_row w g t ty cs fr d hg hu hd hi]
def zRes : ResT := ⟨0, 0, [], 0⟩
def keptSt (s : StT) (id rq : Int) : ResT × Bool × Int :=
  if (seenF s.tab id rq).2.2 ≠ 0 ∨ (seenF s.tab id rq).2.1 = false then (zRes, false, (seenF s.tab id rq).2.2) else ((ansF (seenF s.tab id rq).1).1, true, 0)
theorem RelS.kept {s u : StT} (h : RelS s u) (id rq : Int) : keptSt u id rq = keptSt s id rq := by
  unfold keptSt
  rw [h.tab.seenF]
theorem keptSt_has {s : StT} {id rq : Int} (h1 : (keptSt s id rq).2.2 = 0) : id ∈ keys s.tab := by
  unfold keptSt at h1
  have h2 : (seenF s.tab id rq).2.2 = 0 := by
    split at h1
    · exact h1
    · rename_i hn
      by_cases e : (seenF s.tab id rq).2.2 = 0
      · exact e
      · exact absurd (.inl e) hn
  unfold seenF at h2
  cases hg : mget s.tab id with
  | none => simp [hg] at h2
  | some v => exact mem_keys_mget.2 ⟨v, hg⟩
set_option maxRecDepth 100000 in
set_option maxHeartbeats 8000000 in
theorem kept_state {g w : World} {L : List Asn} {b : Nat} {s : StT} (S0 : Sat g w (stateA b s :: L)) (id rq : Int) (hl : (seenF s.tab id rq).1.length ≤ 1000000) :
    Calls Tryz.prog 10 #[ptr b, .int .i64 id, .int .i64 rq] w fun e w' => ∃ A c, e = .returned (.tuple #[resV (keptSt s id rq).1 A c, .bool (keptSt s id rq).2.1, .int .i64 (keptSt s id rq).2.2]) ∧ Sat g w' (rowA 109 2 (.slice A (keptSt s id rq).1.outs.length c) (keptSt s id rq).1.outs.length ((keptSt s id rq).1.outs.flatMap outC) :: stateA b s :: L) := by
  obtain ⟨t, ts, bk, S1⟩ := S0.stateOpen
  have hseen := hide fun (w' : World) (L' : List Asn) (S' : Sat g w' (tblA ts s.tab :: L')) => tbl_seen S' id rq
  have HK : Hid (keptSt s id rq = if (seenF s.tab id rq).2.2 ≠ 0 ∨ (seenF s.tab id rq).2.1 = false then (zRes, false, (seenF s.tab id rq).2.2) else ((ansF (seenF s.tab id rq).1).1, true, 0)) := hide rfl
  generalize keptSt s id rq = KS at *
  generalize seenF s.tab id rq = SF at *
  obtain ⟨q1, q2, q3⟩ := SF
  simp only at HK hl hseen
  clear S0
  go_enter Tryz.func10, Tryz.ntmps10
  have S2 := S1.box #[.int .i64 0, .int .i64 0, .slice none 0 0, .int .i64 0] 41 rfl
  go_upto_region 1 with fail
  generalize w.alloc (.cells #[.int .i64 0, .int .i64 0, .slice none 0 0, .int .i64 0] 41) = w2 at *
  generalize w.heap.size = zb at *
  have y1 := (S2.bring 1).cell 1 _ rfl
  clear S1
  go_wp2_with fail
  refine (hseen.out _ _ (S2.bring 3)).mono ?_
  rintro e w3 ⟨rfl, S3⟩
  clear S2 y1 hseen
  by_cases h3 : q3 = 0
  · subst h3
    cases q2
    · have e1 : KS = (zRes, false, 0) := by rw [HK.out, if_pos (.inr rfl)]
      subst e1
      go_wp2_with ((show Go.wpList _ _ _ (Oper.mk none (Op.store _ _ _) _ _ _ _ :: _) _ _); refine wpList_sstore rfl _ (.tmp 6) (.tmp 34) rfl (S3.bring 1) _ rfl rfl (by kernel_rfl) rfl (by simp [Value.oneCell']) ?_; intro S4)
      refine bodyPost_ret (results_row_tmp2 Tryz.results10 _ _ zb _ _ _ _ rfl S4.cells_get Tryz.underlying41 rfl (by kernel_rfl)) rfl ?_
      exact ⟨none, 0, rfl, ((Sat.stateShut ((S4.drop.bring 2).bring 2)).nilRow _ _)⟩
    · have e1 : KS = ((ansF q1).1, true, 0) := by rw [HK.out, if_neg (by simp)]
      have HANS : Hid (∀ (w' : World) (L' : List Asn), Sat g w' L' → Calls Tryz.prog 30 #[.string (S q1)] w' fun e w2 => ∃ A cap, e = .returned (.tuple #[resV (ansF q1).1 A cap, .int .i64 (ansF q1).2]) ∧ Sat g w2 (rowA 109 2 (.slice A (ansF q1).1.outs.length cap) (ansF q1).1.outs.length ((ansF q1).1.outs.flatMap outC) :: L')) := hide fun w' L' S' => by
        refine (answer_row w' q1 (by omega)).mono ?_
        rintro e w2 ⟨A, cap, rfl, S''⟩
        exact ⟨A, cap, rfl, S'.fresh S'' rowA_own⟩
      generalize ansF q1 = AN at *
      obtain ⟨⟨r1, r2, r3, r4⟩, ae⟩ := AN
      simp only at HANS e1
      subst e1
      clear HK
      go_wp2_with fail
      refine (HANS.out _ _ S3).mono ?_
      rintro e w5 ⟨A, c, rfl, S5⟩
      clear S3 HANS
      have S6 := S5.box #[.int .i64 r1, .int .i64 r2, .slice A r3.length c, .int .i64 r4] 41 rfl
      go_upto_region 7 with fail
      generalize w5.alloc (.cells #[.int .i64 r1, .int .i64 r2, .slice A r3.length c, .int .i64 r4] 41) = w6 at *
      generalize w5.heap.size = rb at *
      have y0 := S6.cell 0 _ rfl
      have y1 := S6.cell 1 _ rfl
      have y2 := S6.cell 2 _ rfl
      have y3 := S6.cell 3 _ rfl
      clear S5
      go_wp2_with ((show Go.wpList _ _ _ (Oper.mk none (Op.store _ _ _) _ _ _ _ :: _) _ _); refine wpList_sstore rfl _ (.tmp 6) (.tmp 41) rfl (S6.bring 3) _ rfl rfl (by kernel_rfl) rfl (by simp [Value.oneCell']) ?_; intro S7)
      refine bodyPost_ret (results_row_tmp2 Tryz.results10 _ _ zb _ _ _ _ rfl S7.cells_get Tryz.underlying41 rfl (by kernel_rfl)) rfl ?_
      exact ⟨A, c, rfl, (Sat.stateShut ((((S7.drop.drop.bring 4).bring 2).bring 4).bring 4)).p1⟩
  · have h3' : (q3 != 0) = true := by simpa using h3
    have e1 : KS = (zRes, false, q3) := by rw [HK.out, if_pos (.inl h3)]
    subst e1
    go_wp2_with ((show Go.wpList _ _ _ (Oper.mk none (Op.store _ _ _) _ _ _ _ :: _) _ _); refine wpList_sstore rfl _ (.tmp 6) (.tmp 34) rfl (S3.bring 1) _ rfl rfl (by kernel_rfl) rfl (by simp [Value.oneCell']) ?_; intro S4)
    refine bodyPost_ret (results_row_tmp2 Tryz.results10 _ _ zb _ _ _ _ rfl S4.cells_get Tryz.underlying41 rfl (by kernel_rfl)) rfl ?_
    exact ⟨none, 0, rfl, ((Sat.stateShut ((S4.drop.bring 2).bring 2)).nilRow _ _)⟩
end Go.Proofs.YtanlobdidjednaaGreatDoor
