/- The operations of an update, walked. No condition. -/
import Derived.Test.YthgiamofndhehaaGreatDoorStOne
import Derived.Test.YthgiamofndhehaaGreatDoorTCl
import Derived.Deep.RegionHeld3
set_option linter.unusedVariables false
set_option linter.unusedSimpArgs false
namespace Go.Proofs.YthgiamofndhehaaGreatDoor
open Go.RowKit

theorem slChg : Sl Tryz.prog 218 220 2 24 (.agg #[.string ⟨#[]⟩, .int .i64 0]) := .mk' Tryz.underlying218 (by kernel_rfl) rfl (by decide)
theorem chg_at {w : World} {A : Option Addr} {xs : List Chg} {n : Nat} (h : Src w 2 A n (xs.flatMap chgC)) (hn : xs.length = n) {k : Nat} (hk : k < n) :
    ∃ ad x, A = some ad ∧ xs[k]? = some x ∧ w.cell? (ad.add (k * 2)) = some (.string (S x.1)) ∧ w.cell? ⟨(ad.add (k * 2)).block, (ad.add (k * 2)).off + 1, none⟩ = some (.int .i64 x.2) := by
  obtain ⟨ad, e, hc⟩ := h.2 (by have := h.1; omega)
  have hx : xs[k]? = some xs[k] := List.getElem?_eq_getElem (by omega)
  refine ⟨ad, _, e, hx, ?_, ?_⟩
  · exact hc _ _ (by have := flat_at (fun c : Chg => chgC c) 2 (fun _ => rfl) xs k _ hx 0 (.string (S xs[k].1)) rfl; simpa using this)
  · have h1 := hc _ _ (flat_at (fun c : Chg => chgC c) 2 (fun _ => rfl) xs k _ hx 1 (.int .i64 xs[k].2) rfl)
    rw [← add_succ, add_add]
    exact h1
theorem updL_step {ss when_ : Int} {ops : List OpT} {k : Nat} {o : OpT} (hx : ops[k]? = some o) (T : TreeT) (os : List OutT) (cs : List Chg) :
    updL ss when_ (ops.drop k) k T os cs = if (stepF T o ss when_).err ≠ 0 then ((stepF T o ss when_).err, k, T, os, cs) else
      updL ss when_ (ops.drop (k + 1)) (k + 1) (stepF T o ss when_).tree (os ++ [(stepF T o ss when_).out]) (if (stepF T o ss when_).chg.2 ≠ 0 then cs ++ [(stepF T o ss when_).chg] else cs) := by
  obtain ⟨hk, e⟩ := List.getElem?_eq_some_iff.1 hx
  rw [List.drop_eq_getElem_cons hk, e]
  rfl

set_option maxRecDepth 100000 in
set_option maxHeartbeats 16000000 in
theorem update_state {g w : World} {L : List Asn} {b : Nat} {s : StT} {M : TreeT} {n : Nat} {cm : CmdT} {A0 : Option Addr} {c0 : Nat} (S0 : Sat g w (stateA b s :: rowA 103 6 (.slice A0 cm.ops.length c0) cm.ops.length (cm.ops.flatMap opC) :: L)) (hG : GL g) (hm : oldA g ∈ L)
    (hi : InvS s M n) (hn0 : n ≤ 90 ∨ (n ≤ 900 ∧ TabE g)) (hok : ∀ o ∈ cm.ops, opR o = true) (h4 : cm.ops.length ≤ 4) (hss : 0 ≤ cm.session ∧ cm.session ≤ 281474976710655) (when_ : Int) (hw : 0 ≤ when_ ∧ when_ ≤ 1000) :
    Calls Tryz.prog 129 #[ptr b, cmdV cm A0 c0, .int .i64 when_] w fun e w' => ∃ A c, e = .returned (resV (updateF s cm when_).1 A c) ∧ Sat g w' (rowA 129 2 (.slice A (updateF s cm when_).1.outs.length c) (updateF s cm when_).1.outs.length ((updateF s cm when_).1.outs.flatMap outC) :: stateA b (updateF s cm when_).2 :: rowA 103 6 (.slice A0 cm.ops.length c0) cm.ops.length (cm.ops.flatMap opC) :: L) := by
  have HG0 := hide hG
  have hn : n ≤ 900 := by rcases hn0 with h | h <;> omega
  have HN0 : Hid (∀ m, m ≤ n + 4 → (m < 100 ∨ (m < 1000 ∧ TabE g))) := hide fun m hm => hn0.elim (fun h => .inl (by omega)) (fun h => .inr ⟨by omega, h.2⟩)
  clear hn0
  have HI := hide hi
  have HOK := hide hok
  have HUP : Hid (updateF s cm when_ = updateF s cm when_) := hide rfl
  unfold updateF at HUP ⊢
  obtain ⟨kd, ss, rq, nt, ops, pa, ki, oc⟩ := cm
  simp only at S0 h4 hss HOK HUP ⊢
  have HU0 : Hid (updL ss when_ ops 0 s.tree [] [] = updL ss when_ (ops.drop 0) 0 s.tree [] []) := hide rfl
  generalize updL ss when_ ops 0 s.tree [] [] = UP at *
  clear HUP hi hok hG
  obtain ⟨t, ts, bk, S1⟩ := S0.stateOpen
  have S2 := (S1.box #[.int .i64 kd, .int .i64 ss, .int .i64 rq, .int .i64 nt, .slice A0 ops.length c0, .string (S pa), .bool ki, .bool oc] 61 rfl).box #[.int .i64 0, .int .i64 0, .slice none 0 0, .int .i64 0] 52 (b := w.heap.size + 1) (by simp)
  go_enter Tryz.func129, Tryz.ntmps129
  go_upto_region 1 with fail
  generalize (w.alloc (.cells #[.int .i64 kd, .int .i64 ss, .int .i64 rq, .int .i64 nt, .slice A0 ops.length c0, .string (S pa), .bool ki, .bool oc] 61)).alloc (.cells #[.int .i64 0, .int .i64 0, .slice none 0 0, .int .i64 0] 52) = w1 at *
  generalize w.heap.size + 1 = zb at *
  generalize w.heap.size = cb at *
  have q0 := S2.p2.cell 0 _ rfl
  clear S0 S1
  go_wp2_with fail
  refine (tclone_tree S2.p3).mono ?_
  rintro e w2 ⟨t2, rfl, S3⟩
  clear S2 q0
  have S4 := ((S3.box #[.int .i64 0, .int .i64 0, .slice none 0 0, .int .i64 when_] 52 rfl).nilRow 129 2).nilRow 220 2
  go_upto_region 3 with fail
  generalize w2.alloc (.cells #[.int .i64 0, .int .i64 0, .slice none 0 0, .int .i64 when_] 52) = w3 at *
  generalize w2.heap.size = rb at *
  have S5 : Sat g w3 (treeA t2 s.tree :: rowA 129 2 (.slice none 0 0) 0 (([] : List OutT).flatMap outC) :: cellsA rb 52 #[.int .i64 0, .int .i64 0, .slice none 0 0, .int .i64 when_] :: rowA 220 2 (.slice none ([] : List Chg).length 0) ([] : List Chg).length (([] : List Chg).flatMap chgC) :: cellsA cb 61 #[.int .i64 kd, .int .i64 ss, .int .i64 rq, .int .i64 nt, .slice A0 ops.length c0, .string (S pa), .bool ki, .bool oc] :: cellsA zb 52 #[.int .i64 0, .int .i64 0, .slice none 0 0, .int .i64 0] :: cellsA b 47 #[ptr t, ptr ts, ptr bk, .int .i64 s.at_] :: treeA t s.tree :: tblA ts s.tab :: bookA bk s.book :: rowA 103 6 (.slice A0 ops.length c0) ops.length (ops.flatMap opC) :: L) := (((((((S4.bring 7).bring 6).bring 7).bring 3).bring 5).bring 5).bring 6)
  have q4 := Sat.cell_of S5 (t := 61) (cs := #[.int .i64 kd, .int .i64 ss, .int .i64 rq, .int .i64 nt, .slice A0 ops.length c0, .string (S pa), .bool ki, .bool oc]) (b := cb) (by simp) 4 _ rfl
  clear S3 S4
  go_wp2_with fail
  clear q4
  go_loopw [9, 27] (fun v i wr => ∃ k : Nat, k ≤ ops.length ∧ i = .int .i64 k ∧ ∃ (T' M' : TreeT) (n' : Nat) (os : List OutT) (cs : List Chg) (A : Option Addr) (c : Nat) (A2 : Option Addr) (c2 : Nat), v = .slice A2 cs.length c2 ∧ UP = updL ss when_ (ops.drop k) k T' os cs ∧ os.length = k ∧ Mod T' M' n' ∧ n' ≤ n + k ∧ n + cs.length ≤ n' ∧ (∀ x ∈ cs, x.1.length ≤ 60) ∧ Sat g wr (treeA t2 T' :: rowA 129 2 (.slice A k c) k (os.flatMap outC) :: cellsA rb 52 #[.int .i64 0, .int .i64 0, .slice A k c, .int .i64 when_] :: rowA 220 2 (.slice A2 cs.length c2) cs.length (cs.flatMap chgC) :: cellsA cb 61 #[.int .i64 kd, .int .i64 ss, .int .i64 rq, .int .i64 nt, .slice A0 ops.length c0, .string (S pa), .bool ki, .bool oc] :: cellsA zb 52 #[.int .i64 0, .int .i64 0, .slice none 0 0, .int .i64 0] :: cellsA b 47 #[ptr t, ptr ts, ptr bk, .int .i64 s.at_] :: treeA t s.tree :: tblA ts s.tab :: bookA bk s.book :: rowA 103 6 (.slice A0 ops.length c0) ops.length (ops.flatMap opC) :: L)) (fun _ i _ => ops.length - (RowKit.intOf i).toNat)
  case atStart => exact ⟨0, by omega, rfl, s.tree, M, n, [], [], none, 0, none, 0, rfl, HU0.out, rfl, HI.out.tree, by omega, by simp, by simp, S5⟩
  case round =>
    obtain ⟨k, hk, rfl, T', M', n', os, cs, A, c, A2, c2, rfl, hU, hos, hM', hn1, hn2, hcs, S6⟩ := hrel
    clear S5 HU0
    by_cases hlt : k < ops.length
    · have hk0 : (0 : Int) ≤ (k : Int) := by omega
      have hk1 : (k : Int) < (ops.length : Int) := by omega
      obtain ⟨L2, SX⟩ := S6.mem_ (A := rowA 103 6 (.slice A0 ops.length c0) ops.length (ops.flatMap opC)) (by simp)
      obtain ⟨ad, o, rfl, hx, d0, d1, d2, d3, d4, d5⟩ := ops_at SX.srcT hlt
      clear SX
      rw [updL_step hx] at hU
      have hox := HOK.out o (List.mem_of_getElem? hx)
      obtain ⟨o1, o2, o3, o4, o5, o6⟩ := opR_of hox
      have HONE : Hid (∀ (w' : World) (L' : List Asn), Sat g w' (treeA t2 T' :: L') → oldA g ∈ L' → Calls Tryz.prog 157 #[ptr t2, opV o, .int .i64 ss, .int .i64 when_] w' fun e w2 => e = .returned (.tuple #[outV (stepF T' o ss when_).out, chgV (stepF T' o ss when_).chg, .int .i64 (stepF T' o ss when_).err]) ∧ Sat g w2 (treeA t2 (stepF T' o ss when_).tree :: L')) := hide fun w' L' S' h => one_state S' HG0.out h hM' (HN0.out _ (by omega)) o o1 o2 (by omega) (by omega) ss when_
      have HST := hide (step_mod hM' (by omega) o o1 o2 hss hw)
      have HSL := hide (step_len T' o ss when_ o3)
      have HU := hide hU
      clear hU hM' hx hox o1 o2 o3 o4 o5 o6
      generalize stepF T' o ss when_ = R at *
      obtain ⟨⟨r1, r2⟩, ⟨r3, r4⟩, re, rt⟩ := R
      simp only at HONE HST HSL HU
      obtain ⟨d, p, dt, v, sr, ow⟩ := o
      simp only at d0 d1 d2 d3 d4 d5
      go_upto_region 7 with fail
      have S7 := S6.box #[.int .i64 d, .string (S p), .string (S dt), .int .i64 v, .bool sr, .bool ow] 103 rfl
      generalize wr.alloc (.cells #[.int .i64 d, .string (S p), .string (S dt), .int .i64 v, .bool sr, .bool ow] 103) = w7 at *
      generalize wr.heap.size = xb at *
      have x0 := S7.cell 0 _ rfl
      have x1 := S7.cell 1 _ rfl
      have x2 := S7.cell 2 _ rfl
      have x3 := S7.cell 3 _ rfl
      have x4 := S7.cell 4 _ rfl
      have x5 := S7.cell 5 _ rfl
      have y1 := Sat.cell_of S7 (t := 61) (cs := #[.int .i64 kd, .int .i64 ss, .int .i64 rq, .int .i64 nt, .slice (some ad) ops.length c0, .string (S pa), .bool ki, .bool oc]) (b := cb) (by simp) 1 _ rfl
      clear S6 d0 d1 d2 d3 d4 d5
      go_wp2_with fail
      refine (HONE.out _ _ S7.p1 (by simp [hm])).mono ?_
      rintro e w8 ⟨rfl, S8⟩
      clear S7 x0 x1 x2 x3 x4 x5 y1 HONE
      have S9 := (S8.box #[.string (S r1), .int .i64 r2] 129 rfl).box #[.string (S r3), .int .i64 r4] 220 (b := w8.heap.size + 1) (by simp)
      go_upto_region 8 with fail
      generalize (w8.alloc (.cells #[.string (S r1), .int .i64 r2] 129)).alloc (.cells #[.string (S r3), .int .i64 r4] 220) = w9 at *
      generalize w8.heap.size + 1 = hb at *
      generalize w8.heap.size = ob at *
      clear S8
      by_cases hre : re = 0
      · subst hre
        have HU2 : Hid (UP = updL ss when_ (ops.drop (k + 1)) (k + 1) rt (os ++ [⟨r1, r2⟩]) (if r4 ≠ 0 then cs ++ [(r3, r4)] else cs)) := hide (by have := HU.out; rwa [if_neg (by simp)] at this)
        obtain ⟨M2, n2, hM2, hn3, hn4, -, hn5⟩ := HST.out
        have h60 := HSL.out rfl
        clear HU HST HSL
        have z2 := Sat.cell_of S9 (t := 52) (cs := #[.int .i64 0, .int .i64 0, .slice A k c, .int .i64 when_]) (b := rb) (by simp) 2 _ rfl
        have o0 := S9.p1.cell 0 _ rfl
        have o1 := S9.p1.cell 1 _ rfl
        go_upto_region 11 with (at_builtin; refine wpList_sapp slOut rfl (.tmp 49) (.tmp 51) rfl (g := g) (S := (S9.box #[.string (S r1), .int .i64 r2] 129 rfl).p5) rfl (Src.block (heap_alloc_new _ _) 2 1 rfl) rfl (by simp [Value.oneCell']) (by unfold maxLen; omega) (by omega) ?_; intro A9 c9 w10 S10; have z2 := Sat.cell_of S10 (t := 52) (cs := #[.int .i64 0, .int .i64 0, .slice A k c, .int .i64 when_]) (b := rb) (by simp) 2 _ rfl; have f2 := Sat.fz_of S10 (t := 52) (cs := #[.int .i64 0, .int .i64 0, .slice A k c, .int .i64 when_]) (b := rb) (by simp) 2; have l2 : rb < w10.heap.size := World.block_lt_of_cell? w10 _ z2)
        have S11 := S10.p6.setc 2 (.slice A9 (k + 1) c9)
        generalize w10.setCell ⟨rb, 2, none⟩ (.slice A9 (k + 1) c9) = w11 at *
        have S12 : Sat g w11 (cellsA hb 220 #[.string (S r3), .int .i64 r4] :: treeA t2 rt :: rowA 129 2 (.slice A9 (k + 1) c9) (k + 1) ((os ++ [(⟨r1, r2⟩ : OutT)]).flatMap outC) :: cellsA rb 52 #[.int .i64 0, .int .i64 0, .slice A9 (k + 1) c9, .int .i64 when_] :: rowA 220 2 (.slice A2 cs.length c2) cs.length (cs.flatMap chgC) :: cellsA cb 61 #[.int .i64 kd, .int .i64 ss, .int .i64 rq, .int .i64 nt, .slice (some ad) ops.length c0, .string (S pa), .bool ki, .bool oc] :: cellsA zb 52 #[.int .i64 0, .int .i64 0, .slice none 0 0, .int .i64 0] :: cellsA b 47 #[ptr t, ptr ts, ptr bk, .int .i64 s.at_] :: treeA t s.tree :: tblA ts s.tab :: bookA bk s.book :: rowA 103 6 (.slice (some ad) ops.length c0) ops.length (ops.flatMap opC) :: L) := by
          have e1 : (os ++ [(⟨r1, r2⟩ : OutT)]).flatMap outC = os.flatMap outC ++ #[Value.string (S r1), .int .i64 r2].toList := by rw [List.flatMap_append]; rfl
          rw [e1]
          exact ((((((S11.bring 2).drop.bring 3).drop.bring 4).drop.bring 1).bring 3).bring 3)
        clear S9 S10 S11 z2 o0 o1
        have h0 := S12.cell 0 _ rfl
        have h1 := S12.cell 1 _ rfl
        by_cases hr4 : r4 = 0
        · subst hr4
          go_wp2_with fail
          go_roundw
          case rel => exact ⟨k + 1, by omega, by go_num, rt, M2, n2, os ++ [(⟨r1, r2⟩ : OutT)], cs, A9, c9, A2, c2, rfl, by have := HU2.out; rwa [if_neg (by simp)] at this, by simp [hos], hM2, by omega, by omega, hcs, S12.drop⟩
          case measure => simp [RowKit.intOf]; omega
        · have hr42 : (r4 != 0) = true := by simpa using hr4
          have hn6 := hn4 hr4
          go_wp2_with (at_builtin; refine wpList_sapp slChg rfl (.tmp 57) (.tmp 59) rfl (g := g) (S := (S12.box #[.string (S r3), .int .i64 r4] 220 rfl).p5) rfl (Src.block (heap_alloc_new _ _) 2 1 rfl) rfl (by simp [Value.oneCell']) (by unfold maxLen; omega) (by omega) ?_; intro A8 c8 w12 S13)
          have S14 : Sat g w12 (treeA t2 rt :: rowA 129 2 (.slice A9 (k + 1) c9) (k + 1) ((os ++ [(⟨r1, r2⟩ : OutT)]).flatMap outC) :: cellsA rb 52 #[.int .i64 0, .int .i64 0, .slice A9 (k + 1) c9, .int .i64 when_] :: rowA 220 2 (.slice A8 (cs ++ [((r3, r4) : Chg)]).length c8) (cs ++ [((r3, r4) : Chg)]).length ((cs ++ [((r3, r4) : Chg)]).flatMap chgC) :: cellsA cb 61 #[.int .i64 kd, .int .i64 ss, .int .i64 rq, .int .i64 nt, .slice (some ad) ops.length c0, .string (S pa), .bool ki, .bool oc] :: cellsA zb 52 #[.int .i64 0, .int .i64 0, .slice none 0 0, .int .i64 0] :: cellsA b 47 #[ptr t, ptr ts, ptr bk, .int .i64 s.at_] :: treeA t s.tree :: tblA ts s.tab :: bookA bk s.book :: rowA 103 6 (.slice (some ad) ops.length c0) ops.length (ops.flatMap opC) :: L) := by
            have e1 : (cs ++ [((r3, r4) : Chg)]).flatMap chgC = cs.flatMap chgC ++ #[Value.string (S r3), .int .i64 r4].toList := by rw [List.flatMap_append]; rfl
            have e2 : (cs ++ [((r3, r4) : Chg)]).length = cs.length + 1 := by simp
            rw [e1, e2]
            exact (((((S13.bring 1).drop.bring 1).drop.bring 3).bring 3).bring 3)
          clear S13 S12 h0 h1
          go_wp2_with fail
          go_roundw
          case rel => exact ⟨k + 1, by omega, by go_num, rt, M2, n2, os ++ [(⟨r1, r2⟩ : OutT)], cs ++ [(r3, r4)], A9, c9, A8, c8, by simp, by have := HU2.out; rwa [if_pos hr4] at this, by simp [hos], hM2, by omega, by simp only [List.length_append, List.length_cons, List.length_nil]; omega, fun x hx => (List.mem_append.1 hx).elim (fun h => hcs x h) (fun h => by simp only [List.mem_singleton] at h; subst h; exact h60), S14⟩
          case measure => simp [RowKit.intOf]; omega
      · have e : UP = (re, k, T', os, cs) := by have := HU.out; rwa [if_pos hre] at this
        subst e
        have hre2 : (re != 0) = true := by simpa using hre
        clear HU HST HSL
        go_wp2_with ((show Go.wpList _ _ _ (Oper.mk none (Op.store _ _ _) _ _ _ _ :: _) _ _); refine wpList_sstore rfl _ (.tmp 6) (.tmp 47) rfl (S9.bring 8) _ rfl rfl (by kernel_rfl) rfl (by simp [Value.oneCell']) ?_; intro S10)
        refine bodyPost_ret (results_cell_row Tryz.results129 _ _ zb _ _ _ _ rfl S10.cells_get Tryz.underlying52 rfl (by kernel_rfl)) rfl ?_
        try rw [if_pos hre]
        exact ⟨none, 0, rfl, (S10.drop.drop.drop.drop.drop.drop.drop.drop.drop).stateShut.nilRow _ _⟩
    · obtain rfl : k = ops.length := by omega
      have e : UP = (0, ops.length, T', os, cs) := by rw [hU, List.drop_length]; rfl
      subst e
      clear hU
      have z0 := Sat.cell_of S6 (t := 47) (cs := #[ptr t, ptr ts, ptr bk, .int .i64 s.at_]) (b := b) (by simp) 0 _ rfl
      have f0 := Sat.fz_of S6 (t := 47) (cs := #[ptr t, ptr ts, ptr bk, .int .i64 s.at_]) (b := b) (by simp) 0
      have l0 : b < wr.heap.size := World.block_lt_of_cell? wr _ z0
      go_upto_region 15 with fail
      have S7 := (S6.bring 6).setc 0 (ptr t2)
      generalize wr.setCell ⟨b, 0, none⟩ (ptr t2) = w7 at *
      have S8 : Sat g w7 (bookA bk (firesF s.book (cs.take 0) when_) :: cellsA b 47 #[ptr t2, ptr ts, ptr bk, .int .i64 s.at_] :: treeA t2 T' :: rowA 129 2 (.slice A ops.length c) ops.length (os.flatMap outC) :: cellsA rb 52 #[.int .i64 0, .int .i64 0, .slice A ops.length c, .int .i64 when_] :: rowA 220 2 (.slice A2 cs.length c2) cs.length (cs.flatMap chgC) :: cellsA cb 61 #[.int .i64 kd, .int .i64 ss, .int .i64 rq, .int .i64 nt, .slice A0 ops.length c0, .string (S pa), .bool ki, .bool oc] :: cellsA zb 52 #[.int .i64 0, .int .i64 0, .slice none 0 0, .int .i64 0] :: tblA ts s.tab :: rowA 103 6 (.slice A0 ops.length c0) ops.length (ops.flatMap opC) :: L) := ((S7.bring 7).drop.bring 8)
      have HFT : Hid (∀ j x, cs[j]? = some x → firesF s.book (cs.take (j + 1)) when_ = fireF (firesF s.book (cs.take j) when_) x.1 x.2 when_) := hide fun j x h => fires_take s.book cs when_ h
      have HFI : Hid (∀ j, InvW (firesF s.book (cs.take j) when_) (n + (cs.take j).length)) := hide fun j => fires_inv HI.out.book (cs.take j) when_
      clear S6 S7 z0 f0 l0
      go_wp2_with fail
      go_loopw [68] (fun i wr => ∃ j : Nat, j ≤ cs.length ∧ i = .int .i64 j ∧ Sat g wr (bookA bk (firesF s.book (cs.take j) when_) :: cellsA b 47 #[ptr t2, ptr ts, ptr bk, .int .i64 s.at_] :: treeA t2 T' :: rowA 129 2 (.slice A ops.length c) ops.length (os.flatMap outC) :: cellsA rb 52 #[.int .i64 0, .int .i64 0, .slice A ops.length c, .int .i64 when_] :: rowA 220 2 (.slice A2 cs.length c2) cs.length (cs.flatMap chgC) :: cellsA cb 61 #[.int .i64 kd, .int .i64 ss, .int .i64 rq, .int .i64 nt, .slice A0 ops.length c0, .string (S pa), .bool ki, .bool oc] :: cellsA zb 52 #[.int .i64 0, .int .i64 0, .slice none 0 0, .int .i64 0] :: tblA ts s.tab :: rowA 103 6 (.slice A0 ops.length c0) ops.length (ops.flatMap opC) :: L)) (fun i _ => cs.length - (RowKit.intOf i).toNat)
      case atStart => exact ⟨0, by omega, rfl, S8⟩
      case round =>
        obtain ⟨j, hj, rfl, S9⟩ := hrel
        clear S8
        by_cases hlt2 : j < cs.length
        · have hj0 : (0 : Int) ≤ (j : Int) := by omega
          have hj1 : (j : Int) < (cs.length : Int) := by omega
          obtain ⟨L2, SX⟩ := S9.mem_ (A := rowA 220 2 (.slice A2 cs.length c2) cs.length (cs.flatMap chgC)) (by simp)
          obtain ⟨ad, x, rfl, hx, d0, d1⟩ := chg_at SX.srcT rfl hlt2
          clear SX
          have hx60 := hcs x (List.mem_of_getElem? hx)
          have HF1 := hide (HFT.out j x hx)
          have hinv := HFI.out j
          have htl : (cs.take j).length ≤ j := List.length_take_le _ _
          have hes := hinv.es
          have hws := hinv.ws
          have hno := hinv.nos
          obtain ⟨x1, x2⟩ := x
          simp only at d0 d1 hx60 HF1
          generalize firesF s.book (cs.take j) when_ = BJ at *
          have HFIRE : Hid (∀ (w' : World) (L' : List Asn), Sat g w' (bookA bk BJ :: L') → Calls Tryz.prog 126 #[ptr bk, .string (S x1), .int .i64 x2, .int .i64 when_] w' fun e w2 => e = .returned (.tuple #[]) ∧ Sat g w2 (bookA bk (fireF BJ x1 x2 when_) :: L')) := hide fun w' L' S' => fire_book S' (by omega) (by omega) (hno.mono (by omega)) x1 x2 when_ (by omega)
          clear hinv hes hws hno hx hx60
          go_upto_region 18 with fail
          have S10 := S9.box #[.string (S x1), .int .i64 x2] 220 rfl
          generalize wr.alloc (.cells #[.string (S x1), .int .i64 x2] 220) = w10 at *
          generalize wr.heap.size = xb at *
          have HX : Hid (∀ (w' : World) (L' : List Asn), Sat g w' L' → cellsA xb 220 #[.string (S x1), .int .i64 x2] ∈ L' → cellsA b 47 #[ptr t2, ptr ts, ptr bk, .int .i64 s.at_] ∈ L' → w'.cell? ⟨b, 2, none⟩ = some (ptr bk) ∧ w'.cell? ⟨xb, 0, none⟩ = some (.string (S x1)) ∧ w'.cell? ⟨xb, 1, none⟩ = some (.int .i64 x2)) := hide fun w' L' S' h1 h2 => ⟨S'.cell_of h2 2 _ rfl, S'.cell_of h1 0 _ rfl, S'.cell_of h1 1 _ rfl⟩
          obtain ⟨q0, q1, q2⟩ := HX.out _ _ S10 (by simp) (by simp)
          clear S9 d0 d1
          go_region_held3 (fun v' => (v'.cell? ⟨b, 2, none⟩ = some (ptr bk) ∧ v'.cell? ⟨xb, 0, none⟩ = some (.string (S x1)) ∧ v'.cell? ⟨xb, 1, none⟩ = some (.int .i64 x2))) (first
            | (go_keep; done)
            | exact HX.out _ _ (Sat.keep S11 (by (repeat (first | exact Keeps.refl _ _ | refine Keeps.alloc ?_ _ | refine Keeps.drew ?_ | refine Keeps.drewN ?_ _)))) (by simp) (by simp)
            | exact HX.out _ _ (Sat.keep S10 (by (repeat (first | exact Keeps.refl _ _ | refine Keeps.alloc ?_ _ | refine Keeps.drew ?_ | refine Keeps.drewN ?_ _)))) (by simp) (by simp)) (first
            | (go_at_call 126; refine (HFIRE.out _ _ (by (repeat (first | refine Sat.drew ?_ | refine Sat.drewN ?_ _)); exact S10.p1)).mono ?_; rintro e w11 ⟨rfl, S11⟩; obtain ⟨q0, q1, q2⟩ := HX.out _ _ S11 (by simp) (by simp)))
          all_goals
            have S12 := S11.p1.drop
            rw [← HF1.out] at S12
            clear S10 S11 q0 q1 q2 HX HFIRE
            go_wp2_with fail
            go_roundw
            case rel => exact ⟨j + 1, by omega, by go_num, S12⟩
            case measure => simp [RowKit.intOf]; omega
        · obtain rfl : j = cs.length := by omega
          rw [List.take_length] at S9
          have z0 := Sat.cell_of S9 (t := 52) (cs := #[.int .i64 0, .int .i64 0, .slice A ops.length c, .int .i64 when_]) (b := rb) (by simp) 0 _ rfl
          have z1 := Sat.cell_of S9 (t := 52) (cs := #[.int .i64 0, .int .i64 0, .slice A ops.length c, .int .i64 when_]) (b := rb) (by simp) 1 _ rfl
          have z2 := Sat.cell_of S9 (t := 52) (cs := #[.int .i64 0, .int .i64 0, .slice A ops.length c, .int .i64 when_]) (b := rb) (by simp) 2 _ rfl
          have z3 := Sat.cell_of S9 (t := 52) (cs := #[.int .i64 0, .int .i64 0, .slice A ops.length c, .int .i64 when_]) (b := rb) (by simp) 3 _ rfl
          go_wp2_with ((show Go.wpList _ _ _ (Oper.mk none (Op.store _ _ _) _ _ _ _ :: _) _ _); refine wpList_sstore rfl _ (.tmp 6) (.tmp 83) rfl (S9.bring 7) _ rfl rfl (by kernel_rfl) rfl (by simp [Value.oneCell']) ?_; intro S10)
          refine bodyPost_ret (results_cell_row Tryz.results129 _ _ zb _ _ _ _ rfl S10.cells_get Tryz.underlying52 rfl (by kernel_rfl)) rfl ?_
          have hos2 : os.length = ops.length := hos
          refine ⟨A, c, by simp [hos2], ?_⟩
          try simp only [ne_eq, not_true_eq_false, if_false, hos2]
          try rw [hos2]
          exact Sat.p1 (Sat.stateShut (b := b) (s := ⟨T', s.tab, firesF s.book cs when_, s.at_⟩) (((((((S10.drop.bring 4).drop.bring 4).drop.bring 4).drop.bring 4).bring 3).bring 3)))
end Go.Proofs.YthgiamofndhehaaGreatDoor
