/- The document's example for the package watch; watches and events compared. No condition. -/
import Derived.Test.YtbfogieeiobpdaaGreatDoorWInv
import Derived.Test.YtbfogieeiobpdaaGreatDoorBookH
import Derived.Test.YtbfogieeiobpdaaGreatDoorFullM
set_option linter.unusedVariables false
set_option linter.unusedSimpArgs false
namespace Go.Proofs.YtbfogieeiobpdaaGreatDoor
open Go.RowKit

theorem evT_eq (o p : EvT) : decide (o = p) = ((o.session == p.session) && ((o.no == p.no) && ((o.path == p.path) && ((o.what == p.what) && ((o.when_ == p.when_) && true))))) := by
  obtain ⟨a0, a1, a2, a3, a4⟩ := o
  obtain ⟨b0, b1, b2, b3, b4⟩ := p
  rw [Bool.eq_iff_iff]
  simp
theorem watT_eq (o p : WatT) : decide (o = p) = ((o.session == p.session) && ((o.path == p.path) && ((o.kids == p.kids) && ((o.once == p.once) && true)))) := by
  obtain ⟨a0, a1, a2, a3⟩ := o
  obtain ⟨b0, b1, b2, b3⟩ := p
  rw [Bool.eq_iff_iff]
  simp
theorem ev_fields (w : World) (o p : EvT) : ∃ fs, Tryz.prog.underlying 74 = some (.struct fs) ∧ (Op.eqFields 9999 #[.int .i64 o.session, .int .i64 o.no, .string (Go.Proofs.YtbfogieeiobpdaaGreatDoor.S o.path), .int .i64 o.what, .int .i64 o.when_] #[.int .i64 p.session, .int .i64 p.no, .string (Go.Proofs.YtbfogieeiobpdaaGreatDoor.S p.path), .int .i64 p.what, .int .i64 p.when_] fs.toList).run Tryz.prog w = .ok (decide (o = p)) w := by
  rw [evT_eq]
  exact ⟨_, Tryz.underlying74,
    wf_cons (.int .i64 o.session) (.int .i64 p.session) (by decide) (by kernel_rfl) (by kernel_rfl) (run_equalIn_int _ 9998 _ _ _ _ _ Tryz.underlying3)
    (wf_cons (.int .i64 o.no) (.int .i64 p.no) (by decide) (by kernel_rfl) (by kernel_rfl) (run_equalIn_int _ 9998 _ _ _ _ _ Tryz.underlying3)
    (wf_cons (.string (S o.path)) (.string (S p.path)) (by decide) (by kernel_rfl) (by kernel_rfl) (wstr_eq (d := 9998) Tryz.underlying9)
    (wf_cons (.int .i64 o.what) (.int .i64 p.what) (by decide) (by kernel_rfl) (by kernel_rfl) (run_equalIn_int _ 9998 _ _ _ _ _ Tryz.underlying72)
    (wf_cons (.int .i64 o.when_) (.int .i64 p.when_) (by decide) (by kernel_rfl) (by kernel_rfl) (run_equalIn_int _ 9998 _ _ _ _ _ Tryz.underlying3) rfl))))⟩
theorem wat_fields (w : World) (o p : WatT) : ∃ fs, Tryz.prog.underlying 96 = some (.struct fs) ∧ (Op.eqFields 9999 #[.int .i64 o.session, .string (Go.Proofs.YtbfogieeiobpdaaGreatDoor.S o.path), .bool o.kids, .bool o.once] #[.int .i64 p.session, .string (Go.Proofs.YtbfogieeiobpdaaGreatDoor.S p.path), .bool p.kids, .bool p.once] fs.toList).run Tryz.prog w = .ok (decide (o = p)) w := by
  rw [watT_eq]
  exact ⟨_, Tryz.underlying96,
    wf_cons (.int .i64 o.session) (.int .i64 p.session) (by decide) (by kernel_rfl) (by kernel_rfl) (run_equalIn_int _ 9998 _ _ _ _ _ Tryz.underlying3)
    (wf_cons (.string (S o.path)) (.string (S p.path)) (by decide) (by kernel_rfl) (by kernel_rfl) (wstr_eq (d := 9998) Tryz.underlying9)
    (wf_cons (.bool o.kids) (.bool p.kids) (by decide) (by kernel_rfl) (by kernel_rfl) (run_equalIn_bool' _ 9998 _ _ _ Tryz.underlying4)
    (wf_cons (.bool o.once) (.bool p.once) (by decide) (by kernel_rfl) (by kernel_rfl) (run_equalIn_bool' _ 9998 _ _ _ Tryz.underlying4) rfl)))⟩
theorem neq_ev (w : World) (o p : EvT) : (binOp .neq 74 (evV o) (evV p)).run Tryz.prog w = .ok (.bool (!decide (o = p))) w := by
  obtain ⟨fs, h1, h2⟩ := ev_fields w o p
  exact wneq_of h1 (by kernel_rfl) h2
theorem eq_ev (w : World) (o p : EvT) : (binOp .eql 74 (evV o) (evV p)).run Tryz.prog w = .ok (.bool (decide (o = p))) w := by
  obtain ⟨fs, h1, h2⟩ := ev_fields w o p
  exact weq_of h1 (by kernel_rfl) h2
theorem neq_wat (w : World) (o p : WatT) : (binOp .neq 96 (watV o) (watV p)).run Tryz.prog w = .ok (.bool (!decide (o = p))) w := by
  obtain ⟨fs, h1, h2⟩ := wat_fields w o p
  exact wneq_of h1 (by kernel_rfl) h2
theorem eq_wat (w : World) (o p : WatT) : (binOp .eql 96 (watV o) (watV p)).run Tryz.prog w = .ok (.bool (decide (o = p))) w := by
  obtain ⟨fs, h1, h2⟩ := wat_fields w o p
  exact weq_of h1 (by kernel_rfl) h2

/-! ### the example -/
def exW : WatT := ⟨1, [47, 97], false, true⟩
def exE : EvT := ⟨1, 1, [47, 97], 3, 5⟩
theorem ex_add : addF ⟨[], [], []⟩ exW = (0, ⟨[exW], [], []⟩) := by
  have h : checkF [47, 97] = 0 := by decide
  simp [addF, exW, h, thereF, lowF]
theorem ex_fire : fireF ⟨[exW], [], []⟩ [47, 97] 3 5 = ⟨[], [exE], [(1, 1)]⟩ := by
  have h : hearsF ⟨1, [47, 97], false, true⟩ [47, 97] 3 = (3, true) := by simp [hearsF]
  simp [fireF, firesP, noteF, h, exE, exW, mput, mget]
theorem ex_fire2 : fireF ⟨[], [exE], [(1, 1)]⟩ [47, 97] 3 6 = ⟨[], [exE], [(1, 1)]⟩ := by simp [fireF]

theorem GL.of {g w : World} {L : List Asn} (hG : GL g) (S : Sat g w L) (hm : oldA g ∈ L) : GL w := hG.keep (S.keepsOf hm) (fun h => by
  obtain ⟨m, hm⟩ := hG
  have := World.block_lt_of_cell? g _ hm
  exact Nat.lt_irrefl _ (Nat.lt_of_lt_of_le this h))
theorem parts_nil (x : WatT) : Parts [] x := fun a b p q _ h => by simp at h

set_option maxRecDepth 100000 in
set_option maxHeartbeats 4000000 in
theorem head_watch {g w : World} {L : List Asn} (S : Sat g w L) (hG : GL g) (hm : oldA g ∈ L) :
    Calls Tryz.prog 9 #[] w fun e w' => e = .returned (.bool true) ∧ Sat g w' L := by
  have heq : ∀ w', (binOp .eql 74 (.agg #[.int .i64 1, .int .i64 1, .string (Go.Proofs.YtbfogieeiobpdaaGreatDoor.S [47, 97]), .int .i64 3, .int .i64 5]) (.agg #[.int .i64 1, .int .i64 1, .string (Go.Proofs.YtbfogieeiobpdaaGreatDoor.S [47, 97]), .int .i64 3, .int .i64 5])).run Tryz.prog w' = .ok (.bool true) w' := fun w' => by
    have := eq_ev w' exE exE
    rwa [decide_eq_true rfl] at this
  go_enter Tryz.func9, Tryz.ntmps9
  go_wp2_with fail
  refine (new_book S).mono ?_
  rintro e w1 ⟨t, rfl, S1⟩
  go_wp2_with fail
  refine (add_book S1 (hG.of S1 (by simp [hm])) exW (by decide) (parts_nil _) (by decide)).mono ?_
  rw [ex_add]
  rintro e w2 ⟨rfl, S2⟩
  go_wp2_with fail
  refine (fire_book S2 (by decide) (by decide) (nos_nil _ (by decide)) [47, 97] 3 5 (by decide)).mono ?_
  rw [ex_fire]
  rintro e w3 ⟨rfl, S3⟩
  go_wp2_with fail
  refine (fire_book S3 (by decide) (by decide) (fun k => by simp [mget]; split <;> simp) [47, 97] 3 6 (by decide)).mono ?_
  rw [ex_fire2]
  rintro e w4 ⟨rfl, S4⟩
  go_wp2_with fail
  refine (events_book S4 (by decide) 1).mono ?_
  rintro e w5 ⟨v, rfl, S5⟩
  have hf : ([exE].filter fun x => decide (x.session = 1)) = [exE] := by decide
  simp only [hf] at S5
  obtain ⟨A, c, rfl, -⟩ := S5.row.form
  obtain ⟨ad, x, rfl, hx, d0, d1, d2, d3, d4⟩ := ev_at (xs := [exE]) S5.srcR (k := 0) (by decide)
  obtain rfl : x = exE := by simpa using hx.symm
  have h0 : ad.add (0 * 5) = ad := by unfold Addr.add; split <;> simp_all
  rw [h0] at d0 d1 d2 d3 d4
  simp only [exE] at d0 d1 d2 d3 d4
  have HS := hide S5
  clear S5 hx hf
  go_wp2_with fail
  go_ret
  exact ⟨rfl, HS.out.drop.drop⟩

end Go.Proofs.YtbfogieeiobpdaaGreatDoor
