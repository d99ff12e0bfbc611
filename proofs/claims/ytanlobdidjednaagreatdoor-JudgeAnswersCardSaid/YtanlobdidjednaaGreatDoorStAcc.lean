/- What the statements of layer 13 call, walked: a command's text, an order, what a state tells; states with sessions; the document's example. No condition. -/
import Derived.Test.YtanlobdidjednaaGreatDoorStM
import Derived.Test.YtanlobdidjednaaGreatDoorStK
set_option linter.unusedVariables false
set_option linter.unusedSimpArgs false
namespace Go.Proofs.YtanlobdidjednaaGreatDoor
open Go.RowKit

/-! ### plain: orders one after another -/
theorem text_fit {c : CmdT} (h : cmdR c = true) (h1 : c.ops.length ≤ 1) : bytesF c = (cmdB c, 0) := by
  obtain ⟨_, _, _, _, h5, h6⟩ := cmdR_of h
  have h2 := ops_length c.ops h5
  have h3 : (cut16 c.path).length ≤ 60 := by unfold cut16; simp; omega
  have hl : (cmdB c).length ≤ 488 := by
    simp only [cmdB, List.length_append, nums_length, txts, List.flatMap_cons, List.flatMap_nil, txt_length, flags, List.length_map, List.length_cons, List.length_nil]
    omega
  unfold bytesF
  rw [if_neg (by simp [h]), if_neg (by omega)]
theorem cmdOf_text {c : CmdT} (h : cmdR c = true) (h1 : c.ops.length ≤ 1) : cmdOf (bytesF c).1 = c := by
  have h2 := text_fit h h1
  have h3 := readF_of h2
  rw [h2]
  unfold cmdOf
  rw [h3]
  simp
theorem text_len {c : CmdT} : (bytesF c).1.length ≤ 488 := by
  unfold bytesF
  repeat' split
  all_goals first | (simp; done) | (simp only; omega)
structure RunS (s : StT) (k m : Nat) : Prop where
  it : ∃ M n, InvS s M n ∧ n + M.length ≤ k
  at_ : s.at_ = m
theorem run0 : RunS st0 1 0 := ⟨⟨_, _, inv0, by decide⟩, rfl⟩
theorem end_at (s : StT) (id when_ : Int) : (endF s id when_).at_ = s.at_ := rfl
theorem crowd_at (when_ : Int) (k : Nat) (s : StT) : (crowdL when_ k s).at_ = s.at_ := by
  induction k generalizing s with
  | zero => rfl
  | succ k ih =>
    unfold crowdL
    split
    · rfl
    · rw [ih]; rfl
theorem do_at (s : StT) (c : CmdT) (when_ : Int) : (doF s c when_).2.at_ = s.at_ := by
  unfold doF updateF
  repeat' split
  all_goals rfl
theorem cmd_at (s : StT) (c : CmdT) (when_ : Int) : (cmdF s c when_).2.at_ = s.at_ := by
  unfold cmdF
  repeat' split
  all_goals first | rfl | exact do_at _ _ _
theorem RunS.step {s : StT} {k m : Nat} (h : RunS s k m) {c : CmdT} (hc : cmdR c = true) (hk : k ≤ 800) (hm : m ≤ 800) : RunS (applyC s c).2 (k + 2 * c.ops.length) (m + 1) := by
  obtain ⟨M, n, hi, hn⟩ := h.it
  have e := h.at_
  have hi1 : InvS ⟨s.tree, s.tab, s.book, s.at_ + 1⟩ M n := ⟨hi.tree, hi.book, hi.ok, hi.nd, hi.len, hi.kept, by show 0 ≤ s.at_ + 1; omega, by show s.at_ + 1 ≤ 900; omega⟩
  obtain ⟨M1, n1, g1, g2, g3⟩ := cmdF_inv hi1 (c := c) hc (when_ := s.at_ + 1) ⟨by omega, by omega⟩ (by omega)
  obtain ⟨M2, n2, k1, k2, k3⟩ := crowd_inv (when_ := s.at_ + 1) (cmdF ⟨s.tree, s.tab, s.book, s.at_ + 1⟩ c (s.at_ + 1)).2.tab.length g1
  refine ⟨⟨M2, n2, k1, by omega⟩, ?_⟩
  show (crowdL _ _ _).at_ = _
  rw [crowd_at, cmd_at]
  show s.at_ + 1 = _
  omega

/-! ### walked -/
def madeF (session req : Int) (os : List OpT) : CmdT := ⟨3, session, req, 0, os, [], false, false⟩
section
variable {g w : World} {L : List Asn} {b : Nat} {s : StT}
set_option maxRecDepth 100000 in
set_option maxHeartbeats 2000000 in
theorem text_cmd (w : World) (c : CmdT) (A : Option Addr) (cap : Nat) (h : OpSrc w A c.ops) (hok : CmdOk c) :
    Calls Tryz.prog 18 #[cmdV c A cap] w fun e w' => e = .returned (.string (S (bytesF c).1)) ∧ Keeps (fun _ => False) w w' := by
  have hb := fun w1 (hk : Keeps (fun _ => False) w w1) => bytes_cmd w1 c A cap (h.keep hk (fun _ _ h => h)) hok
  have HB := hide hb
  generalize bytesF c = R at *
  obtain ⟨r1, r2⟩ := R
  simp only at HB
  obtain ⟨kd, ss, rq, nt, ops, pa, ki, oc⟩ := c
  clear h hok hb
  have S1 := (Sat.start w).box #[.int .i64 kd, .int .i64 ss, .int .i64 rq, .int .i64 nt, .slice A ops.length cap, .string (S pa), .bool ki, .bool oc] 35 rfl
  have x0 := S1.cell 0 _ rfl
  have x1 := S1.cell 1 _ rfl
  have x2 := S1.cell 2 _ rfl
  have x3 := S1.cell 3 _ rfl
  have x4 := S1.cell 4 _ rfl
  have x5 := S1.cell 5 _ rfl
  have x6 := S1.cell 6 _ rfl
  have x7 := S1.cell 7 _ rfl
  have HK := hide S1.p1.keep_all
  go_enter Tryz.func18, Tryz.ntmps18
  go_upto_region 1 with fail
  generalize w.alloc (.cells #[.int .i64 kd, .int .i64 ss, .int .i64 rq, .int .i64 nt, .slice A ops.length cap, .string (S pa), .bool ki, .bool oc] 35) = w1 at *
  generalize w.heap.size = cb at *
  clear S1
  go_wp2_with fail
  refine (HB.out _ HK.out).mono ?_
  rintro e w2 ⟨rfl, hk2⟩
  have HK2 := hide (HK.out.trans' hk2)
  clear hk2 x0 x1 x2 x3 x4 x5 x6 x7
  go_wp2_with fail
  go_ret
  exact ⟨rfl, HK2.out⟩
theorem s_textc (S0 : Sat g w L) (c : CmdT) (A : Option Addr) (cap : Nat) (h : OpSrc w A c.ops) (hok : CmdOk c) :
    Calls Tryz.prog 18 #[cmdV c A cap] w fun e w' => e = .returned (.string (S (bytesF c).1)) ∧ Sat g w' L := by
  refine (text_cmd w c A cap h hok).mono ?_
  rintro e w' ⟨rfl, hk⟩
  exact ⟨rfl, S0.keep hk⟩
/-- an order by a command's text -/
theorem s_say (S0 : Sat g w (stateA b s :: L)) (hG : GL g) (hm : oldA g ∈ L) {k m : Nat} (hr : RunS s k m) (hk : k ≤ 90) (hm2 : m ≤ 800) {c : CmdT} (hc : cmdR c = true) (h1 : c.ops.length ≤ 1) :
    Calls Tryz.prog 20 #[ptr b, .string (S (bytesF c).1)] w fun e w' => ∃ A cap, e = .returned (resV (applyC s c).1 A cap) ∧ Sat g w' (rowA 109 2 (.slice A (applyC s c).1.outs.length cap) (applyC s c).1.outs.length ((applyC s c).1.outs.flatMap outC) :: stateA b (applyC s c).2 :: L) := by
  obtain ⟨M, n, hi, hn⟩ := hr.it
  have e := hr.at_
  have h2 := apply_state S0 hG hm hi (.inl (by omega)) (by omega) (bytesF c).1 (by have := text_len (c := c); omega)
  have e2 : applyF s (bytesF c).1 = applyC s c := by unfold applyF; rw [cmdOf_text hc h1]
  rw [e2] at h2
  exact h2
set_option maxRecDepth 100000 in
theorem s_newst (S0 : Sat g w L) : Calls Tryz.prog 16 #[] w fun e w' => ∃ b, e = .returned (ptr b) ∧ Sat g w' (stateA b st0 :: L) := by
  go_enter Tryz.func16, Tryz.ntmps16
  go_wp2_with fail
  refine (new_tree S0).mono ?_
  rintro e w1 ⟨t, rfl, S1⟩
  clear S0
  go_wp2_with fail
  refine (tbl_new S1).mono ?_
  rintro e w2 ⟨ts, rfl, S2⟩
  clear S1
  go_wp2_with fail
  refine (new_book S2).mono ?_
  rintro e w3 ⟨bk, rfl, S3⟩
  have HS := hide (S3.box #[ptr t, ptr ts, ptr bk, .int .i64 0] 78 rfl)
  clear S2 S3
  go_wp2_with fail
  go_ret
  exact ⟨_, rfl, Sat.stateShut (s := st0) ((((HS.out.bring 2).bring 3).bring 2))⟩
set_option maxRecDepth 100000 in
theorem s_hasst (S0 : Sat g w (stateA b s :: L)) (id : Int) : Calls Tryz.prog 31 #[ptr b, .int .i64 id] w fun e w' => e = .returned (.bool (decide (id ∈ keys s.tab))) ∧ Sat g w' (stateA b s :: L) := by
  obtain ⟨t, ts, bk, S1⟩ := S0.stateOpen
  have q1 := S1.cell 1 _ rfl
  have hh := tbl_has (S1.bring 2) id
  go_enter Tryz.func31, Tryz.ntmps31
  go_wp2_with fail
  refine hh.mono ?_
  rintro e w2 ⟨rfl, S2⟩
  have HS := hide (Sat.stateShut (((S2.bring 2).bring 2)))
  clear S0 S1 S2 q1 hh
  go_wp2_with fail
  go_ret
  exact ⟨rfl, HS.out⟩
set_option maxRecDepth 100000 in
theorem s_evst (S0 : Sat g w (stateA b s :: L)) (hl : s.book.es.length ≤ 1000000) (id : Int) : Calls Tryz.prog 44 #[ptr b, .int .i64 id] w fun e w' => ∃ v, e = .returned v ∧ Sat g w' (rowA 95 5 v (s.book.es.filter fun x => decide (x.session = id)).length ((s.book.es.filter fun x => decide (x.session = id)).flatMap evC) :: stateA b s :: L) := by
  obtain ⟨t, ts, bk, S1⟩ := S0.stateOpen
  have q1 := S1.cell 2 _ rfl
  have hh := events_book (S1.bring 3) hl id
  go_enter Tryz.func44, Tryz.ntmps44
  go_wp2_with fail
  refine hh.mono ?_
  rintro e w2 ⟨v, rfl, S2⟩
  have HS := hide ((Sat.stateShut (((((S2.bring 1).bring 4).bring 4).bring 4))).p1)
  clear S0 S1 S2 q1 hh
  go_wp2_with fail
  go_ret
  exact ⟨_, rfl, HS.out⟩
end

/-! ### states with sessions -/
def openC (i : Int) : CmdT := ⟨1, i, 0, 0, [], [], false, false⟩
def openS : Nat → StT
  | 0 => st0
  | k + 1 => (applyC (openS k) (openC ((k : Int) + 1))).2
theorem openC_R (i : Int) (h0 : 0 ≤ i) (h1 : i ≤ 1000) : cmdR (openC i) = true := by
  simp [cmdR, openC, numR, wrongF]
  omega
theorem openS_run (k : Nat) (hk : k ≤ 100) : RunS (openS k) 1 k := by
  induction k with
  | zero => exact run0
  | succ k ih => exact (ih (by omega)).step (openC_R _ (by omega) (by omega)) (by omega) (by omega)
end Go.Proofs.YtanlobdidjednaaGreatDoor
