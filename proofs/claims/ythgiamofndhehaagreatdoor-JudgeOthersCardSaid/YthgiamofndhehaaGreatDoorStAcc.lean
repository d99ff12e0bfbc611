/- What the statements of layer 13 call, walked: a command's text, an order, what a state tells; states with sessions; the document's example. No condition. -/
import Derived.Test.YthgiamofndhehaaGreatDoorStM
import Derived.Test.YthgiamofndhehaaGreatDoorStK
set_option linter.unusedVariables false
set_option linter.unusedSimpArgs false
namespace Go.Proofs.YthgiamofndhehaaGreatDoor
open Go.RowKit

/-! ### plain: orders one after another -/
theorem text_len {c : CmdT} : (bytesF c).1.length ≤ 488 := by
  unfold bytesF
  repeat' split
  all_goals first | (simp; done) | (simp only; omega)
structure RunS (s : StT) (k m : Nat) : Prop where
  it : ∃ M n, InvS s M n ∧ n + M.length ≤ k
  at_ : s.at_ = m
theorem run0 : RunS st0 1 0 := ⟨⟨_, _, inv0, by decide⟩, rfl⟩
theorem crowd_at (when_ : Int) (k : Nat) (s : StT) : (crowdL when_ k s).at_ = s.at_ := by
  induction k generalizing s with
  | zero => rfl
  | succ k ih =>
    unfold crowdL
    split
    · rfl
    · rw [ih]; rfl
theorem do_at (s : StT) (c : CmdT) (when_ : Int) : (doF s c when_).2.at_ = s.at_ := by
  unfold doF updateF
  repeat' split
  all_goals rfl
theorem cmd_at (s : StT) (c : CmdT) (when_ : Int) : (cmdF s c when_).2.at_ = s.at_ := by
  unfold cmdF
  repeat' split
  all_goals first | rfl | exact do_at _ _ _
theorem RunS.step {s : StT} {k m : Nat} (h : RunS s k m) {c : CmdT} (hc : cmdR c = true) (hk : k ≤ 800) (hm : m ≤ 800) : RunS (applyC s c).2 (k + 2 * c.ops.length) (m + 1) := by
  obtain ⟨M, n, hi, hn⟩ := h.it
  have e := h.at_
  have hi1 : InvS ⟨s.tree, s.tab, s.book, s.at_ + 1⟩ M n := ⟨hi.tree, hi.book, hi.ok, hi.nd, hi.len, hi.kept, by show 0 ≤ s.at_ + 1; omega, by show s.at_ + 1 ≤ 900; omega⟩
  obtain ⟨M1, n1, g1, g2, g3⟩ := cmdF_inv hi1 (c := c) hc (when_ := s.at_ + 1) ⟨by omega, by omega⟩ (by omega)
  obtain ⟨M2, n2, k1, k2, k3⟩ := crowd_inv (when_ := s.at_ + 1) (cmdF ⟨s.tree, s.tab, s.book, s.at_ + 1⟩ c (s.at_ + 1)).2.tab.length g1
  refine ⟨⟨M2, n2, k1, by omega⟩, ?_⟩
  show (crowdL _ _ _).at_ = _
  rw [crowd_at, cmd_at]
  show s.at_ + 1 = _
  omega

/-! ### walked -/
def madeF (session req : Int) (os : List OpT) : CmdT := ⟨3, session, req, 0, os, [], false, false⟩
set_option maxRecDepth 100000 in
theorem made_cmd (w : World) (session req : Int) (os : List OpT) (A : Option Addr) (cap : Nat) :
    Calls Tryz.prog 24 #[.int .i64 session, .int .i64 req, .slice A os.length cap] w fun e w' => e = .returned (cmdV (madeF session req os) A cap) ∧ Keeps (fun _ => False) w w' := by
  go_enter Tryz.func24, Tryz.ntmps24
  go_wp2_with fail
  refine bodyPost_ret (results_cell_row Tryz.results24 _ _ w.heap.size _ _ _ _ rfl (heap_alloc_new w _) Tryz.underlying61 rfl (by kernel_rfl)) rfl ?_
  exact ⟨rfl, (Keeps.refl _ w).alloc _⟩
section
variable {g w : World} {L : List Asn} {b : Nat} {s : StT}
theorem s_made (S0 : Sat g w L) (session req : Int) (os : List OpT) (A : Option Addr) (cap : Nat) :
    Calls Tryz.prog 24 #[.int .i64 session, .int .i64 req, .slice A os.length cap] w fun e w' => e = .returned (cmdV (madeF session req os) A cap) ∧ Sat g w' L := by
  refine (made_cmd w session req os A cap).mono ?_
  rintro e w' ⟨rfl, hk⟩
  exact ⟨rfl, S0.keep hk⟩
set_option maxRecDepth 100000 in
set_option maxHeartbeats 2000000 in
theorem text_cmd (w : World) (c : CmdT) (A : Option Addr) (cap : Nat) (h : OpSrc w A c.ops) (hok : CmdOk c) :
    Calls Tryz.prog 30 #[cmdV c A cap] w fun e w' => e = .returned (.string (S (bytesF c).1)) ∧ Keeps (fun _ => False) w w' := by
  have hb := fun w1 (hk : Keeps (fun _ => False) w w1) => bytes_cmd w1 c A cap (h.keep hk (fun _ _ h => h)) hok
  have HB := hide hb
  generalize bytesF c = R at *
  obtain ⟨r1, r2⟩ := R
  simp only at HB
  obtain ⟨kd, ss, rq, nt, ops, pa, ki, oc⟩ := c
  clear h hok hb
  have S1 := (Sat.start w).box #[.int .i64 kd, .int .i64 ss, .int .i64 rq, .int .i64 nt, .slice A ops.length cap, .string (S pa), .bool ki, .bool oc] 61 rfl
  have x0 := S1.cell 0 _ rfl
  have x1 := S1.cell 1 _ rfl
  have x2 := S1.cell 2 _ rfl
  have x3 := S1.cell 3 _ rfl
  have x4 := S1.cell 4 _ rfl
  have x5 := S1.cell 5 _ rfl
  have x6 := S1.cell 6 _ rfl
  have x7 := S1.cell 7 _ rfl
  have HK := hide S1.p1.keep_all
  go_enter Tryz.func30, Tryz.ntmps30
  go_upto_region 1 with fail
  generalize w.alloc (.cells #[.int .i64 kd, .int .i64 ss, .int .i64 rq, .int .i64 nt, .slice A ops.length cap, .string (S pa), .bool ki, .bool oc] 61) = w1 at *
  generalize w.heap.size = cb at *
  clear S1
  go_wp2_with fail
  refine (HB.out _ HK.out).mono ?_
  rintro e w2 ⟨rfl, hk2⟩
  have HK2 := hide (HK.out.trans' hk2)
  clear hk2 x0 x1 x2 x3 x4 x5 x6 x7
  go_wp2_with fail
  go_ret
  exact ⟨rfl, HK2.out⟩
theorem s_textc (S0 : Sat g w L) (c : CmdT) (A : Option Addr) (cap : Nat) (h : OpSrc w A c.ops) (hok : CmdOk c) :
    Calls Tryz.prog 30 #[cmdV c A cap] w fun e w' => e = .returned (.string (S (bytesF c).1)) ∧ Sat g w' L := by
  refine (text_cmd w c A cap h hok).mono ?_
  rintro e w' ⟨rfl, hk⟩
  exact ⟨rfl, S0.keep hk⟩
set_option maxRecDepth 100000 in
theorem s_newst (S0 : Sat g w L) : Calls Tryz.prog 27 #[] w fun e w' => ∃ b, e = .returned (ptr b) ∧ Sat g w' (stateA b st0 :: L) := by
  go_enter Tryz.func27, Tryz.ntmps27
  go_wp2_with fail
  refine (new_tree S0).mono ?_
  rintro e w1 ⟨t, rfl, S1⟩
  clear S0
  go_wp2_with fail
  refine (tbl_new S1).mono ?_
  rintro e w2 ⟨ts, rfl, S2⟩
  clear S1
  go_wp2_with fail
  refine (new_book S2).mono ?_
  rintro e w3 ⟨bk, rfl, S3⟩
  have HS := hide (S3.box #[ptr t, ptr ts, ptr bk, .int .i64 0] 47 rfl)
  clear S2 S3
  go_wp2_with fail
  go_ret
  exact ⟨_, rfl, Sat.stateShut (s := st0) ((((HS.out.bring 2).bring 3).bring 2))⟩
set_option maxRecDepth 100000 in
theorem s_hasst (S0 : Sat g w (stateA b s :: L)) (id : Int) : Calls Tryz.prog 44 #[ptr b, .int .i64 id] w fun e w' => e = .returned (.bool (decide (id ∈ keys s.tab))) ∧ Sat g w' (stateA b s :: L) := by
  obtain ⟨t, ts, bk, S1⟩ := S0.stateOpen
  have q1 := S1.cell 1 _ rfl
  have hh := tbl_has (S1.bring 2) id
  go_enter Tryz.func44, Tryz.ntmps44
  go_wp2_with fail
  refine hh.mono ?_
  rintro e w2 ⟨rfl, S2⟩
  have HS := hide (Sat.stateShut (((S2.bring 2).bring 2)))
  clear S0 S1 S2 q1 hh
  go_wp2_with fail
  go_ret
  exact ⟨rfl, HS.out⟩
set_option maxRecDepth 100000 in
theorem s_evst (S0 : Sat g w (stateA b s :: L)) (hl : s.book.es.length ≤ 1000000) (id : Int) : Calls Tryz.prog 72 #[ptr b, .int .i64 id] w fun e w' => ∃ v, e = .returned v ∧ Sat g w' (rowA 116 5 v (s.book.es.filter fun x => decide (x.session = id)).length ((s.book.es.filter fun x => decide (x.session = id)).flatMap evC) :: stateA b s :: L) := by
  obtain ⟨t, ts, bk, S1⟩ := S0.stateOpen
  have q1 := S1.cell 2 _ rfl
  have hh := events_book (S1.bring 3) hl id
  go_enter Tryz.func72, Tryz.ntmps72
  go_wp2_with fail
  refine hh.mono ?_
  rintro e w2 ⟨v, rfl, S2⟩
  have HS := hide ((Sat.stateShut (((((S2.bring 1).bring 4).bring 4).bring 4))).p1)
  clear S0 S1 S2 q1 hh
  go_wp2_with fail
  go_ret
  exact ⟨_, rfl, HS.out⟩
end

/-! ### states with sessions -/
def openC (i : Int) : CmdT := ⟨1, i, 0, 0, [], [], false, false⟩
def openS : Nat → StT
  | 0 => st0
  | k + 1 => (applyC (openS k) (openC ((k : Int) + 1))).2
end Go.Proofs.YthgiamofndhehaaGreatDoor
