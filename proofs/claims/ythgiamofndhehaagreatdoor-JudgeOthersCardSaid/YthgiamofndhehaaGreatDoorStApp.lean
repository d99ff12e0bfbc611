/- An order to a state, walked. No condition. -/
import Derived.Test.YthgiamofndhehaaGreatDoorStCmd
set_option linter.unusedVariables false
set_option linter.unusedSimpArgs false
namespace Go.Proofs.YthgiamofndhehaaGreatDoor
open Go.RowKit

theorem least_nat (P : Nat → Prop) : ∀ n k, P k → k ≤ n → ∃ m, P m ∧ ∀ j, P j → m ≤ j := by
  intro n
  induction n with
  | zero => exact fun k h hk => ⟨k, h, fun j _ => by omega⟩
  | succ n ih =>
    intro k h hk
    by_cases hex : ∃ j, P j ∧ j ≤ n
    · obtain ⟨j, hj, hjn⟩ := hex
      exact ih j hj hjn
    · refine ⟨k, h, fun j hj => ?_⟩
      by_cases hjn : j ≤ n
      · exact absurd ⟨j, hj, hjn⟩ hex
      · omega
/-- what a loop lessens, where no slot tells it -/
theorem least_fn (R : Nat → World → Prop) : ∃ mu : World → Nat, (∀ w, (∃ k, R k w) → R (mu w) w) ∧ ∀ k w, R k w → mu w ≤ k := by
  have h : ∀ w, ∃ m, ((∃ k, R k w) → R m w) ∧ ∀ k, R k w → m ≤ k := fun w => by
    by_cases hex : ∃ k, R k w
    · obtain ⟨k, hk⟩ := hex
      obtain ⟨m, hm, hl⟩ := least_nat (fun k => R k w) k k hk (Nat.le_refl _)
      exact ⟨m, fun _ => hm, hl⟩
    · exact ⟨0, fun h => absurd h hex, fun k hk => absurd ⟨k, hk⟩ hex⟩
  refine ⟨fun w => Classical.choose (h w), fun w => (Classical.choose_spec (h w)).1, fun k w => (Classical.choose_spec (h w)).2 k⟩
theorem is_at2 {ks : List Int} {j : Nat} {x : Int} (h : ks[j]? = some x) : (Is ks)[j]? = some (.int .i64 x) := by simp [Is, h]
theorem findp_at {α : Type} {l : List α} {p : α → Bool} {j : Nat} {a : α} (hb : ∀ x ∈ l.take j, p x = false) (ha : l[j]? = some a) (hp : p a = true) : l.find? p = some a := by
  induction l generalizing j with
  | nil => cases ha
  | cons x r ih =>
    cases j with
    | zero =>
      simp only [List.getElem?_cons_zero, Option.some.injEq] at ha
      subst ha
      simp [hp]
    | succ j =>
      have hx := hb x (by simp)
      rw [List.find?_cons, hx]
      exact ih (fun y hy => hb y (by simp only [List.take_succ_cons, List.mem_cons]; exact .inr hy)) (by simpa using ha)
theorem crowdL_none {s : StT} {when_ : Int} (h : crowdF s = none) (k : Nat) : crowdL when_ k s = s := by
  cases k with
  | zero => rfl
  | succ k => unfold crowdL; rw [h]
theorem crowdL_some {s : StT} {when_ id : Int} (h : crowdF s = some id) (k : Nat) : crowdL when_ (k + 1) s = crowdL when_ k (endF s id when_) := by
  conv => lhs; unfold crowdL
  rw [h]
theorem crowd_step {s : StT} {M : TreeT} {n : Nat} (hi : InvS s M n) (id : Int) (h : crowdF s = some id) (when_ : Int) : ∃ M' n', InvS (endF s id when_) M' n' ∧ n' + M'.length ≤ n + M.length ∧ (endF s id when_).tab.length + 1 = s.tab.length := by
  obtain ⟨M', n', g1, g2, -⟩ := endF_inv hi id when_
  refine ⟨M', n', g1, g2, ?_⟩
  have hin : id ∈ keys s.tab := (sortI_mem _ _).1 (List.mem_of_find?_eq_some h)
  unfold endF closeF
  rw [if_pos hin]
  exact length_mdel hi.nd id hin

set_option maxRecDepth 100000 in
set_option maxHeartbeats 16000000 in
theorem crowded_state {g w : World} {L : List Asn} {b : Nat} {s : StT} {M : TreeT} {n : Nat} (S0 : Sat g w (stateA b s :: L)) (hG : GL g) (hm : oldA g ∈ L) (hi : InvS s M n) (hn : n + M.length ≤ 1000) (when_ : Int) :
    Calls Tryz.prog 59 #[ptr b, .int .i64 when_] w fun e w' => match crowdF s with
      | none => e = .returned (.bool false) ∧ Sat g w' (stateA b s :: L)
      | some id => e = .returned (.bool true) ∧ Sat g w' (stateA b (endF s id when_) :: L) := by
  have HG0 := hide hG
  have HI := hide hi
  have HFA : Hid (∀ j id, (∀ x ∈ (sortI (keys s.tab)).take j, overF s.book x = false) → (sortI (keys s.tab))[j]? = some id → overF s.book id = true → crowdF s = some id) := hide fun j id h1 h2 h3 => findp_at h1 h2 h3
  have HFN : Hid ((∀ x ∈ sortI (keys s.tab), overF s.book x = false) → crowdF s = none) := hide fun h => List.find?_eq_none.2 fun x hx => by simp [h x hx]
  generalize crowdF s = CF at *
  obtain ⟨t, ts, bk, S1⟩ := S0.stateOpen
  have hsl : (sortI (keys s.tab)).length = s.tab.length := by rw [sortI_length]; simp
  have hall := tbl_all (S1.bring 2) hi.ok (by have := hi.len; omega)
  have hes := hi.book.es
  have hml := hi.tree.len
  have hl16 := hi.len
  have hq1 := S1.cell 1 _ rfl
  go_enter Tryz.func59, Tryz.ntmps59
  go_wp2_with fail
  refine hall.mono ?_
  rintro e w2 ⟨A0, c0, rfl, S2⟩
  have S3 : Sat g w2 (rowA 3 1 (.slice A0 s.tab.length c0) s.tab.length (Is (sortI (keys s.tab))) :: stateA b s :: L) := (Sat.stateShut (((((S2.bring 4).bring 2).bring 4).bring 4))).p1
  clear S0 S1 S2 hq1 hall hG
  go_wp2_with fail
  go_loopw [13] (fun i wr => ∃ j : Nat, j ≤ s.tab.length ∧ i = .int .i64 j ∧ (∀ x ∈ (sortI (keys s.tab)).take j, overF s.book x = false) ∧ Sat g wr (rowA 3 1 (.slice A0 s.tab.length c0) s.tab.length (Is (sortI (keys s.tab))) :: stateA b s :: L)) (fun i _ => s.tab.length - (RowKit.intOf i).toNat)
  case atStart => exact ⟨0, by omega, rfl, by simp, S3⟩
  case round =>
    obtain ⟨j, hj, rfl, hb, S4⟩ := hrel
    clear S3
    by_cases hlt : j < s.tab.length
    · have hj0 : (0 : Int) ≤ (j : Int) := by omega
      have hj1 : (j : Int) < (s.tab.length : Int) := by omega
      obtain ⟨id, hid⟩ : ∃ id, (sortI (keys s.tab))[j]? = some id := ⟨_, List.getElem?_eq_getElem (by omega)⟩
      obtain ⟨ad, e1, hc⟩ := S4.srcT.2 (by omega)
      subst e1
      have d0 := hc j _ (is_at2 hid)
      clear hc
      obtain ⟨t2, ts2, bk2, S5⟩ := S4.p1.stateOpen
      have q2 := S5.cell 2 _ rfl
      have hev := events_book (S5.bring 3) (by omega) id
      have HOV : Hid (overF s.book id = decide (5 < (s.book.es.filter fun x => decide (x.session = id)).length)) := hide rfl
      have HTK : Hid ((sortI (keys s.tab)).take (j + 1) = (sortI (keys s.tab)).take j ++ [id]) := hide (by
        obtain ⟨hk, e⟩ := List.getElem?_eq_some_iff.1 hid
        rw [List.take_succ_eq_append_getElem hk, e])
      go_wp2_with fail
      refine hev.mono ?_
      rintro e w5 ⟨v, rfl, S6⟩
      obtain ⟨A5, c5, rfl, -⟩ := S6.row.form
      have S7 : Sat g w5 (stateA b s :: rowA 3 1 (.slice (some ad) s.tab.length c0) s.tab.length (Is (sortI (keys s.tab))) :: L) := Sat.stateShut ((((S6.drop.bring 3).bring 3).bring 3))
      clear S4 S5 S6 q2 d0 hev
      by_cases h5 : 5 < (s.book.es.filter fun x => decide (x.session = id)).length
      · have h5i : (5 : Int) < ((s.book.es.filter fun x => decide (x.session = id)).length : Int) := by omega
        have hov : overF s.book id = true := by rw [HOV.out]; simpa using h5
        have hcf := HFA.out j id hb hid hov
        subst hcf
        have hend := end_state S7 HG0.out (by simp [hm]) HI.out hn id when_
        generalize (s.book.es.filter fun x => decide (x.session = id)).length = evn at *
        go_wp2_with fail
        refine hend.mono ?_
        rintro e w7 ⟨rfl, S8⟩
        have HS := hide S8.p1.drop
        clear S7 S8 hend
        go_wp2_with fail
        go_ret
        exact ⟨rfl, HS.out⟩
      · have h5i : ¬ (5 : Int) < ((s.book.es.filter fun x => decide (x.session = id)).length : Int) := by omega
        have hov : overF s.book id = false := by rw [HOV.out]; simpa using h5
        have HS := hide S7.p1
        generalize (s.book.es.filter fun x => decide (x.session = id)).length = evn at *
        clear S7
        go_wp2_with fail
        go_roundw
        case rel => exact ⟨j + 1, by omega, by go_num, by rw [HTK.out]; intro x hx; exact (List.mem_append.1 hx).elim (fun h => hb x h) (fun h => by simp only [List.mem_singleton] at h; subst h; exact hov), HS.out⟩
        case measure => simp [RowKit.intOf]; omega
    · obtain rfl : j = s.tab.length := by omega
      have hcf := HFN.out (by rw [← hsl, List.take_length] at hb; exact hb)
      subst hcf
      have HS := hide S4.drop
      clear S4 hb
      go_wp2_with fail
      go_ret
      exact ⟨rfl, HS.out⟩

set_option maxRecDepth 100000 in
set_option maxHeartbeats 16000000 in
theorem apply_state {g w : World} {L : List Asn} {b : Nat} {s : StT} {M : TreeT} {n : Nat} (S0 : Sat g w (stateA b s :: L)) (hG : GL g) (hm : oldA g ∈ L) (hi : InvS s M n) (hn0 : n ≤ 90 ∨ (n ≤ 900 ∧ TabE g)) (hat : s.at_ < 900) (tx : List UInt8) (ht : tx.length ≤ 9223372036854775807) :
    Calls Tryz.prog 29 #[ptr b, .string (S tx)] w fun e w' => ∃ A c, e = .returned (resV (applyF s tx).1 A c) ∧ Sat g w' (rowA 129 2 (.slice A (applyF s tx).1.outs.length c) (applyF s tx).1.outs.length ((applyF s tx).1.outs.flatMap outC) :: stateA b (applyF s tx).2 :: L) := by
  have HR : Hid (∀ r s2, applyF s tx = (r, s2) → ∀ w' A c, Sat g w' (rowA 129 2 (.slice A r.outs.length c) r.outs.length (r.outs.flatMap outC) :: stateA b s2 :: L) → ∃ A' c', Ending.returned (resV r A c) = .returned (resV (applyF s tx).1 A' c') ∧ Sat g w' (rowA 129 2 (.slice A' (applyF s tx).1.outs.length c') (applyF s tx).1.outs.length ((applyF s tx).1.outs.flatMap outC) :: stateA b (applyF s tx).2 :: L)) := hide fun r s2 e w' A c S' => by rw [e]; exact ⟨A, c, rfl, S'⟩
  have HG0 := hide hG
  have hn : n ≤ 900 := by rcases hn0 with h | h <;> omega
  have HN0 := hide hn0
  clear hn0
  have hml := hi.tree.len
  have hat0 := hi.at0
  have HI1 : Hid (InvS ⟨s.tree, s.tab, s.book, s.at_ + 1⟩ M n) := hide ⟨hi.tree, hi.book, hi.ok, hi.nd, hi.len, hi.kept, by show 0 ≤ s.at_ + 1; omega, by show s.at_ + 1 ≤ 900; omega⟩
  have HCR : Hid (cmdR (cmdOf tx) = true) := hide (by
    unfold cmdOf
    split
    · decide
    · rename_i h
      exact (readF_bytes (by simpa using h)).2)
  have HCO0 : Hid (cmdOf tx = if (readF tx).2 ≠ 0 then noCmd else (readF tx).1) := hide rfl
  have hread := fun wr => read_row wr tx ht
  generalize readF tx = RF at *
  obtain ⟨rc, re⟩ := RF
  simp only at hread HCO0
  have HRD := hide hread
  obtain ⟨t, ts, bk, S1⟩ := S0.stateOpen
  have S2 := S1.box #[.int .i64 0, .int .i64 0, .slice none 0 0, .int .i64 0] 52 rfl
  have hwr : IntKind.i64.wrap (s.at_ + 1) = s.at_ + 1 := IntWalk.i64_in _ ⟨by omega, by omega⟩
  go_enter Tryz.func29, Tryz.ntmps29
  go_upto_region 1 with fail
  generalize w.alloc (.cells #[.int .i64 0, .int .i64 0, .slice none 0 0, .int .i64 0] 52) = w1 at *
  generalize w.heap.size = zb at *
  have q3 := S2.p1.cell 3 _ rfl
  have f3 := S2.p1.cells_fz 3
  have l3 : b < w1.heap.size := World.block_lt_of_cell? w1 _ q3
  clear S0 S1 hread hi hG
  go_upto_region 2 with fail
  have S3 := S2.p1.setc 3 (.int .i64 (s.at_ + 1))
  generalize w1.setCell ⟨b, 3, none⟩ (.int .i64 (s.at_ + 1)) = w2 at *
  have q3' := S3.cell 3 _ rfl
  have S4 : Sat g w2 (stateA b ⟨s.tree, s.tab, s.book, s.at_ + 1⟩ :: cellsA zb 52 #[.int .i64 0, .int .i64 0, .slice none 0 0, .int .i64 0] :: L) := Sat.stateShut (s := ⟨s.tree, s.tab, s.book, s.at_ + 1⟩) (((((S3.bring 4).bring 4).bring 4).bring 3))
  clear S2 S3 q3 f3 l3
  go_wp2_with fail
  refine (HRD.out _).mono ?_
  rintro e w5 ⟨A0, c0, rfl, hrow, hk5⟩
  have S5 := S4.newRow hk5 hrow
  clear S4 hrow hk5 q3' HRD
  have S6 := S5.box #[.int .i64 rc.kind, .int .i64 rc.session, .int .i64 rc.req, .int .i64 rc.noted, .slice A0 rc.ops.length c0, .string (S rc.path), .bool rc.kids, .bool rc.once] 61 rfl
  go_upto_region 4 with fail
  generalize w5.alloc (.cells #[.int .i64 rc.kind, .int .i64 rc.session, .int .i64 rc.req, .int .i64 rc.noted, .slice A0 rc.ops.length c0, .string (S rc.path), .bool rc.kids, .bool rc.once] 61) = w6 at *
  generalize w5.heap.size = cb at *
  clear S5
  by_cases hre : re = 0
  · subst hre
    have HCO : Hid (cmdOf tx = rc) := hide (by rw [HCO0.out]; simp)
    replace HCR : Hid (cmdR rc = true) := hide (by rw [← HCO.out]; exact HCR.out)
    clear HCO0
    have S6b := ((S6.bring 2).bring 1)
    clear S6
    have hcmd := cmd_state (cm := rc) (A0 := A0) (c0 := c0) (((S6b.bring 2).bring 2)) HG0.out (by simp [hm]) HI1.out HN0.out HCR.out (s.at_ + 1) ⟨by omega, by omega⟩
    have HCM := hide hcmd
    have x0 := S6b.cell 0 _ rfl
    have x1 := S6b.cell 1 _ rfl
    have x2 := S6b.cell 2 _ rfl
    have x3 := S6b.cell 3 _ rfl
    have x4 := S6b.cell 4 _ rfl
    have x5 := S6b.cell 5 _ rfl
    have x6 := S6b.cell 6 _ rfl
    have x7 := S6b.cell 7 _ rfl
    clear hcmd
    have HAP : Hid (applyF s tx = ((cmdF ⟨s.tree, s.tab, s.book, s.at_ + 1⟩ rc (s.at_ + 1)).1, crowdL (s.at_ + 1) (cmdF ⟨s.tree, s.tab, s.book, s.at_ + 1⟩ rc (s.at_ + 1)).2.tab.length (cmdF ⟨s.tree, s.tab, s.book, s.at_ + 1⟩ rc (s.at_ + 1)).2)) := hide (by unfold applyF applyC; rw [HCO.out])
    have HIC := hide (cmdF_inv HI1.out (c := rc) HCR.out (when_ := s.at_ + 1) ⟨by omega, by omega⟩ (by omega))
    generalize cmdF ⟨s.tree, s.tab, s.book, s.at_ + 1⟩ rc (s.at_ + 1) = CF at *
    obtain ⟨⟨r1, r2, r3, r4⟩, s2⟩ := CF
    simp only at HCM HAP HIC
    go_wp2_with fail
    refine HCM.out.mono ?_
    rintro e w7 ⟨A, c, rfl, S7⟩
    clear S6b HCM x0 x1 x2 x3 x4 x5 x6 x7
    have S8 := S7.box #[.int .i64 r1, .int .i64 r2, .slice A r3.length c, .int .i64 r4] 52 rfl
    go_upto_block 0 with fail
    generalize w7.alloc (.cells #[.int .i64 r1, .int .i64 r2, .slice A r3.length c, .int .i64 r4] 52) = w8 at *
    generalize w7.heap.size = rb at *
    clear S7
    obtain ⟨M2, n2, hI2, hn2, hn3⟩ := HIC.out
    have h44 := (cmdR_at HCR.out).2.2.2.2.1
    replace hn2 : n2 + M2.length ≤ n + M.length + 8 := by omega
    obtain ⟨mu, hmu1, hmu2⟩ := least_fn (fun k wr => ∃ (s' : StT) (M' : TreeT) (n' : Nat), InvS s' M' n' ∧ n' + M'.length ≤ n + M.length + 8 ∧ s'.tab.length = k ∧ crowdL (s.at_ + 1) s2.tab.length s2 = crowdL (s.at_ + 1) k s' ∧ Sat g wr (cellsA rb 52 #[.int .i64 r1, .int .i64 r2, .slice A r3.length c, .int .i64 r4] :: rowA 129 2 (.slice A (⟨r1, r2, r3, r4⟩ : ResT).outs.length c) (⟨r1, r2, r3, r4⟩ : ResT).outs.length ((⟨r1, r2, r3, r4⟩ : ResT).outs.flatMap outC) :: stateA b s' :: cellsA zb 52 #[.int .i64 0, .int .i64 0, .slice none 0 0, .int .i64 0] :: L))
    have S9 : Sat g w8 (cellsA rb 52 #[.int .i64 r1, .int .i64 r2, .slice A r3.length c, .int .i64 r4] :: rowA 129 2 (.slice A (⟨r1, r2, r3, r4⟩ : ResT).outs.length c) (⟨r1, r2, r3, r4⟩ : ResT).outs.length ((⟨r1, r2, r3, r4⟩ : ResT).outs.flatMap outC) :: stateA b s2 :: cellsA zb 52 #[.int .i64 0, .int .i64 0, .slice none 0 0, .int .i64 0] :: L) := ((S8.bring 3).drop.bring 3).drop
    clear S8
    go_wp2_with fail
    go_loopw [] (fun wr => ∃ (k : Nat) (s' : StT) (M' : TreeT) (n' : Nat), InvS s' M' n' ∧ n' + M'.length ≤ n + M.length + 8 ∧ s'.tab.length = k ∧ crowdL (s.at_ + 1) s2.tab.length s2 = crowdL (s.at_ + 1) k s' ∧ Sat g wr (cellsA rb 52 #[.int .i64 r1, .int .i64 r2, .slice A r3.length c, .int .i64 r4] :: rowA 129 2 (.slice A (⟨r1, r2, r3, r4⟩ : ResT).outs.length c) (⟨r1, r2, r3, r4⟩ : ResT).outs.length ((⟨r1, r2, r3, r4⟩ : ResT).outs.flatMap outC) :: stateA b s' :: cellsA zb 52 #[.int .i64 0, .int .i64 0, .slice none 0 0, .int .i64 0] :: L)) (fun wr => mu wr)
    case atStart => exact ⟨s2.tab.length, s2, M2, n2, hI2, hn2, rfl, rfl, S9⟩
    case round =>
      have hk0 := hmu1 wr hrel
      clear hrel S9 hmu1
      obtain ⟨s', M', n', hI', hnn, hlen, hcl, S10⟩ := hk0
      have hcw := crowded_state (S10.bring 2) HG0.out (by simp [hm]) hI' (by omega) (s.at_ + 1)
      have HMU := hide (fun k wx (h : ∃ (s' : StT) (M' : TreeT) (n' : Nat), InvS s' M' n' ∧ n' + M'.length ≤ n + M.length + 8 ∧ s'.tab.length = k ∧ crowdL (s.at_ + 1) s2.tab.length s2 = crowdL (s.at_ + 1) k s' ∧ Sat g wx (cellsA rb 52 #[.int .i64 r1, .int .i64 r2, .slice A r3.length c, .int .i64 r4] :: rowA 129 2 (.slice A (⟨r1, r2, r3, r4⟩ : ResT).outs.length c) (⟨r1, r2, r3, r4⟩ : ResT).outs.length ((⟨r1, r2, r3, r4⟩ : ResT).outs.flatMap outC) :: stateA b s' :: cellsA zb 52 #[.int .i64 0, .int .i64 0, .slice none 0 0, .int .i64 0] :: L)) => hmu2 k wx h)
      clear hmu2
      have HSTEP := hide (fun id h => crowd_step hI' id h (s.at_ + 1))
      generalize hq : crowdF s' = CQ at *
      have HQ := hide hq
      clear hq
      cases CQ with
      | none =>
        have HCL : Hid (crowdL (s.at_ + 1) s2.tab.length s2 = s') := hide (by rw [hcl]; exact crowdL_none HQ.out _)
        clear hcl HSTEP
        go_wp2_with fail
        refine hcw.mono ?_
        rintro e w11 ⟨rfl, S11⟩
        clear S10 hcw
        have y0 := S11.p1.cell 0 _ rfl
        have y1 := S11.p1.cell 1 _ rfl
        have y2 := S11.p1.cell 2 _ rfl
        have y3 := S11.p1.cell 3 _ rfl
        go_wp2_with ((show Go.wpList _ _ _ (Oper.mk none (Op.store _ _ _) _ _ _ _ :: _) _ _); refine wpList_sstore rfl _ (.tmp 4) (.tmp 35) rfl (S11.bring 3) _ rfl rfl (by kernel_rfl) rfl (by simp [Value.oneCell']) ?_; intro S12)
        refine bodyPost_ret (results_cell_row Tryz.results29 _ _ zb _ _ _ _ rfl S12.cells_get Tryz.underlying52 rfl (by kernel_rfl)) rfl ?_
        refine HR.out ⟨r1, r2, r3, r4⟩ s' (by rw [HAP.out, HCL.out]) _ A c (((S12.drop.bring 1).drop.bring 1))
      | some id =>
        obtain ⟨M3, n3, hI3, hn4, hl3⟩ := HSTEP.out id rfl
        have hmupos : mu wr = s'.tab.length := hlen.symm
        have HCL : Hid (crowdL (s.at_ + 1) s2.tab.length s2 = crowdL (s.at_ + 1) (endF s' id (s.at_ + 1)).tab.length (endF s' id (s.at_ + 1))) := hide (by rw [hcl, hmupos, ← hl3]; exact crowdL_some HQ.out _)
        clear hcl hlen
        go_wp2_with fail
        refine hcw.mono ?_
        rintro e w11 ⟨rfl, S11⟩
        have S12 := ((S11.bring 2).bring 2)
        clear S10 hcw S11
        have hle := HMU.out (endF s' id (s.at_ + 1)).tab.length w11 ⟨endF s' id (s.at_ + 1), M3, n3, hI3, by omega, rfl, HCL.out, S12⟩
        go_wp2_with fail
        go_roundw
        case rel => exact ⟨(endF s' id (s.at_ + 1)).tab.length, endF s' id (s.at_ + 1), M3, n3, hI3, by omega, rfl, HCL.out, S12⟩
        case measure => omega

  · have hre2 : (re != 0) = true := by simpa using hre
    have HCO : Hid (cmdOf tx = noCmd) := hide (by rw [HCO0.out, if_pos hre])
    replace HCR : Hid (cmdR noCmd = true) := hide (by decide)
    clear HCO0
    go_upto_region 6 with ((show Go.wpList _ _ _ (Oper.mk none (Op.store _ _ _) _ _ _ _ :: _) _ _); refine wpList_sstore rfl _ (.tmp 6) (.tmp 27) rfl S6 _ rfl rfl (by kernel_rfl) rfl (by simp [Value.oneCell']) ?_; intro S6x)
    have S6b : Sat g (w6.setRow cb #[.int .i64 0, .int .i64 0, .int .i64 0, .int .i64 0, .slice none 0 0, .string ⟨#[]⟩, .bool false, .bool false]) (cellsA cb 61 #[.int .i64 noCmd.kind, .int .i64 noCmd.session, .int .i64 noCmd.req, .int .i64 noCmd.noted, .slice none noCmd.ops.length 0, .string (S noCmd.path), .bool noCmd.kids, .bool noCmd.once] :: stateA b ⟨s.tree, s.tab, s.book, s.at_ + 1⟩ :: rowA 103 6 (.slice none noCmd.ops.length 0) noCmd.ops.length (noCmd.ops.flatMap opC) :: cellsA zb 52 #[.int .i64 0, .int .i64 0, .slice none 0 0, .int .i64 0] :: L) := (((Sat.nilRow ((S6x.bring 1).drop) 103 6).bring 2).bring 2)
    generalize w6.setRow cb #[.int .i64 0, .int .i64 0, .int .i64 0, .int .i64 0, .slice none 0 0, .string ⟨#[]⟩, .bool false, .bool false] = w6b at *
    clear S6 S6x
    have hcmd := cmd_state (cm := noCmd) (A0 := none) (c0 := 0) (((S6b.bring 2).bring 2)) HG0.out (by simp [hm]) HI1.out HN0.out HCR.out (s.at_ + 1) ⟨by omega, by omega⟩
    have HCM := hide hcmd
    have x0 := S6b.cell 0 _ rfl
    have x1 := S6b.cell 1 _ rfl
    have x2 := S6b.cell 2 _ rfl
    have x3 := S6b.cell 3 _ rfl
    have x4 := S6b.cell 4 _ rfl
    have x5 := S6b.cell 5 _ rfl
    have x6 := S6b.cell 6 _ rfl
    have x7 := S6b.cell 7 _ rfl
    clear hcmd
    have HAP : Hid (applyF s tx = ((cmdF ⟨s.tree, s.tab, s.book, s.at_ + 1⟩ noCmd (s.at_ + 1)).1, crowdL (s.at_ + 1) (cmdF ⟨s.tree, s.tab, s.book, s.at_ + 1⟩ noCmd (s.at_ + 1)).2.tab.length (cmdF ⟨s.tree, s.tab, s.book, s.at_ + 1⟩ noCmd (s.at_ + 1)).2)) := hide (by unfold applyF applyC; rw [HCO.out])
    have HIC := hide (cmdF_inv HI1.out (c := noCmd) HCR.out (when_ := s.at_ + 1) ⟨by omega, by omega⟩ (by omega))
    generalize cmdF ⟨s.tree, s.tab, s.book, s.at_ + 1⟩ noCmd (s.at_ + 1) = CF at *
    obtain ⟨⟨r1, r2, r3, r4⟩, s2⟩ := CF
    simp only at HCM HAP HIC
    go_wp2_with fail
    refine HCM.out.mono ?_
    rintro e w7 ⟨A, c, rfl, S7⟩
    clear S6b HCM x0 x1 x2 x3 x4 x5 x6 x7
    have S8 := S7.box #[.int .i64 r1, .int .i64 r2, .slice A r3.length c, .int .i64 r4] 52 rfl
    go_upto_block 0 with fail
    generalize w7.alloc (.cells #[.int .i64 r1, .int .i64 r2, .slice A r3.length c, .int .i64 r4] 52) = w8 at *
    generalize w7.heap.size = rb at *
    clear S7
    obtain ⟨M2, n2, hI2, hn2, hn3⟩ := HIC.out
    have h44 := (cmdR_at HCR.out).2.2.2.2.1
    replace hn2 : n2 + M2.length ≤ n + M.length + 8 := by omega
    obtain ⟨mu, hmu1, hmu2⟩ := least_fn (fun k wr => ∃ (s' : StT) (M' : TreeT) (n' : Nat), InvS s' M' n' ∧ n' + M'.length ≤ n + M.length + 8 ∧ s'.tab.length = k ∧ crowdL (s.at_ + 1) s2.tab.length s2 = crowdL (s.at_ + 1) k s' ∧ Sat g wr (cellsA rb 52 #[.int .i64 r1, .int .i64 r2, .slice A r3.length c, .int .i64 r4] :: rowA 129 2 (.slice A (⟨r1, r2, r3, r4⟩ : ResT).outs.length c) (⟨r1, r2, r3, r4⟩ : ResT).outs.length ((⟨r1, r2, r3, r4⟩ : ResT).outs.flatMap outC) :: stateA b s' :: cellsA zb 52 #[.int .i64 0, .int .i64 0, .slice none 0 0, .int .i64 0] :: L))
    have S9 : Sat g w8 (cellsA rb 52 #[.int .i64 r1, .int .i64 r2, .slice A r3.length c, .int .i64 r4] :: rowA 129 2 (.slice A (⟨r1, r2, r3, r4⟩ : ResT).outs.length c) (⟨r1, r2, r3, r4⟩ : ResT).outs.length ((⟨r1, r2, r3, r4⟩ : ResT).outs.flatMap outC) :: stateA b s2 :: cellsA zb 52 #[.int .i64 0, .int .i64 0, .slice none 0 0, .int .i64 0] :: L) := ((S8.bring 3).drop.bring 3).drop
    clear S8
    go_wp2_with fail
    go_loopw [] (fun wr => ∃ (k : Nat) (s' : StT) (M' : TreeT) (n' : Nat), InvS s' M' n' ∧ n' + M'.length ≤ n + M.length + 8 ∧ s'.tab.length = k ∧ crowdL (s.at_ + 1) s2.tab.length s2 = crowdL (s.at_ + 1) k s' ∧ Sat g wr (cellsA rb 52 #[.int .i64 r1, .int .i64 r2, .slice A r3.length c, .int .i64 r4] :: rowA 129 2 (.slice A (⟨r1, r2, r3, r4⟩ : ResT).outs.length c) (⟨r1, r2, r3, r4⟩ : ResT).outs.length ((⟨r1, r2, r3, r4⟩ : ResT).outs.flatMap outC) :: stateA b s' :: cellsA zb 52 #[.int .i64 0, .int .i64 0, .slice none 0 0, .int .i64 0] :: L)) (fun wr => mu wr)
    case atStart => exact ⟨s2.tab.length, s2, M2, n2, hI2, hn2, rfl, rfl, S9⟩
    case round =>
      have hk0 := hmu1 wr hrel
      clear hrel S9 hmu1
      obtain ⟨s', M', n', hI', hnn, hlen, hcl, S10⟩ := hk0
      have hcw := crowded_state (S10.bring 2) HG0.out (by simp [hm]) hI' (by omega) (s.at_ + 1)
      have HMU := hide (fun k wx (h : ∃ (s' : StT) (M' : TreeT) (n' : Nat), InvS s' M' n' ∧ n' + M'.length ≤ n + M.length + 8 ∧ s'.tab.length = k ∧ crowdL (s.at_ + 1) s2.tab.length s2 = crowdL (s.at_ + 1) k s' ∧ Sat g wx (cellsA rb 52 #[.int .i64 r1, .int .i64 r2, .slice A r3.length c, .int .i64 r4] :: rowA 129 2 (.slice A (⟨r1, r2, r3, r4⟩ : ResT).outs.length c) (⟨r1, r2, r3, r4⟩ : ResT).outs.length ((⟨r1, r2, r3, r4⟩ : ResT).outs.flatMap outC) :: stateA b s' :: cellsA zb 52 #[.int .i64 0, .int .i64 0, .slice none 0 0, .int .i64 0] :: L)) => hmu2 k wx h)
      clear hmu2
      have HSTEP := hide (fun id h => crowd_step hI' id h (s.at_ + 1))
      generalize hq : crowdF s' = CQ at *
      have HQ := hide hq
      clear hq
      cases CQ with
      | none =>
        have HCL : Hid (crowdL (s.at_ + 1) s2.tab.length s2 = s') := hide (by rw [hcl]; exact crowdL_none HQ.out _)
        clear hcl HSTEP
        go_wp2_with fail
        refine hcw.mono ?_
        rintro e w11 ⟨rfl, S11⟩
        clear S10 hcw
        have y0 := S11.p1.cell 0 _ rfl
        have y1 := S11.p1.cell 1 _ rfl
        have y2 := S11.p1.cell 2 _ rfl
        have y3 := S11.p1.cell 3 _ rfl
        go_wp2_with ((show Go.wpList _ _ _ (Oper.mk none (Op.store _ _ _) _ _ _ _ :: _) _ _); refine wpList_sstore rfl _ (.tmp 4) (.tmp 35) rfl (S11.bring 3) _ rfl rfl (by kernel_rfl) rfl (by simp [Value.oneCell']) ?_; intro S12)
        refine bodyPost_ret (results_cell_row Tryz.results29 _ _ zb _ _ _ _ rfl S12.cells_get Tryz.underlying52 rfl (by kernel_rfl)) rfl ?_
        refine HR.out ⟨r1, r2, r3, r4⟩ s' (by rw [HAP.out, HCL.out]) _ A c (((S12.drop.bring 1).drop.bring 1))
      | some id =>
        obtain ⟨M3, n3, hI3, hn4, hl3⟩ := HSTEP.out id rfl
        have hmupos : mu wr = s'.tab.length := hlen.symm
        have HCL : Hid (crowdL (s.at_ + 1) s2.tab.length s2 = crowdL (s.at_ + 1) (endF s' id (s.at_ + 1)).tab.length (endF s' id (s.at_ + 1))) := hide (by rw [hcl, hmupos, ← hl3]; exact crowdL_some HQ.out _)
        clear hcl hlen
        go_wp2_with fail
        refine hcw.mono ?_
        rintro e w11 ⟨rfl, S11⟩
        have S12 := ((S11.bring 2).bring 2)
        clear S10 hcw S11
        have hle := HMU.out (endF s' id (s.at_ + 1)).tab.length w11 ⟨endF s' id (s.at_ + 1), M3, n3, hI3, by omega, rfl, HCL.out, S12⟩
        go_wp2_with fail
        go_roundw
        case rel => exact ⟨(endF s' id (s.at_ + 1)).tab.length, endF s' id (s.at_ + 1), M3, n3, hI3, by omega, rfl, HCL.out, S12⟩
        case measure => omega
end Go.Proofs.YthgiamofndhehaaGreatDoor
