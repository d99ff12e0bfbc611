/- The judge's pieces, what it hears and what it is told of entries, walked. No condition. -/
import Derived.Test.YtanlobdidjednaaGreatDoorJu
import Derived.Deep.RegionHeld3
set_option linter.unusedVariables false
set_option linter.unusedSimpArgs false
namespace Go.Proofs.YtanlobdidjednaaGreatDoor
open Go.RowKit

theorem eql_of {P : Program} {w : World} {t : TypeId} {fs : Array Field} {xs ys : Array Value} {b : Bool} (ht : P.underlying t = some (.struct fs)) (hp : P.stoodInHeld t = false) (h : (Op.eqFields 9999 xs ys fs.toList).run P w = .ok b w) :
    (binOp .eql t (.agg xs) (.agg ys)).run P w = .ok (.bool b) w := by
  have e : P.fieldsOf t = fs := by simp [Program.fieldsOf, ht]
  subst e
  rw [run_eql_struct, run_equalIn_struct _ 9999 _ _ _ ht hp, h]
  rfl
theorem eql_ev (a b : EvT) : ∃ c : Bool, ∀ w : World, (binOp .eql 95 (evV a) (evV b)).run Tryz.prog w = .ok (.bool c) w :=
  ⟨_, fun w => eql_of Tryz.underlying95 (by kernel_rfl)
    (ef_cons (.int .i64 a.session) (.int .i64 b.session) (by decide) (by kernel_rfl) (by kernel_rfl) (run_equalIn_int _ 9998 _ _ _ _ _ Tryz.underlying3)
    (ef_cons (.int .i64 a.no) (.int .i64 b.no) (by decide) (by kernel_rfl) (by kernel_rfl) (run_equalIn_int _ 9998 _ _ _ _ _ Tryz.underlying3)
    (ef_cons (.string (S a.path)) (.string (S b.path)) (by decide) (by kernel_rfl) (by kernel_rfl) (str_eq (d := 9998) Tryz.underlying9)
    (ef_cons (.int .i64 a.what) (.int .i64 b.what) (by decide) (by kernel_rfl) (by kernel_rfl) (run_equalIn_int _ 9998 _ _ _ _ _ Tryz.underlying93)
    (ef_cons (.int .i64 a.when_) (.int .i64 b.when_) (by decide) (by kernel_rfl) (by kernel_rfl) (run_equalIn_int _ 9998 _ _ _ _ _ Tryz.underlying3) ef_nil)))))⟩

/-! ### all events that there were -/
abbrev EvsT := List (Int × (Value × List EvT))
abbrev evW (q : Value × List EvT) : Value := q.1
def evrow (p : Int × (Value × List EvT)) : Asn := rowA 95 5 p.2.1 p.2.2.length (p.2.2.flatMap evC)
def evsA (eb N : Nat) : Asn := exA fun x : EvsT => star (pureA (∀ p ∈ x, p.2.2.length ≤ N)) (star (mapA kI evW eb x) (stars (x.map evrow)))
section
variable {g w : World} {L : List Asn} {eb N : Nat}
theorem Sat.evsOpen (S0 : Sat g w (evsA eb N :: L)) : ∃ x : EvsT, (∀ p ∈ x, p.2.2.length ≤ N) ∧ Sat g w (mapA kI evW eb x :: stars (x.map evrow) :: L) := by
  obtain ⟨x, S1⟩ := S0.ex
  obtain ⟨h, S2⟩ := S1.split.pure
  exact ⟨x, h, S2.split⟩
theorem Sat.evsShut {x : EvsT} (h : ∀ p ∈ x, p.2.2.length ≤ N) (S0 : Sat g w (mapA kI evW eb x :: stars (x.map evrow) :: L)) : Sat g w (evsA eb N :: L) :=
  Sat.ex_ x (S0.join.nil h).join
theorem Sat.evsLe {M : Nat} (S0 : Sat g w (evsA eb N :: L)) (hN : N ≤ M) : Sat g w (evsA eb M :: L) := by
  obtain ⟨x, h, S1⟩ := S0.evsOpen
  exact S1.evsShut fun p hp => Nat.le_trans (h p hp) hN
/-- the events of one session -/
theorem Sat.evsAt (S0 : Sat g w (evsA eb N :: L)) (k : Int) : ∃ (x : EvsT) (A : Option Addr) (c : Nat) (es : List EvT), es.length ≤ N ∧ (∀ p ∈ x, p.2.2.length ≤ N) ∧
    (mget x k = some (.slice A es.length c, es) ∨ mget x k = none ∧ A = none ∧ c = 0 ∧ es = []) ∧
    Sat g w (mapA kI evW eb x :: rowA 95 5 (.slice A es.length c) es.length (es.flatMap evC) :: stars ((mdel x k).map evrow) :: L) := by
  obtain ⟨x, h, S1⟩ := S0.evsOpen
  cases hk : mget x k with
  | none =>
    refine ⟨x, none, 0, [], by simp, h, .inr ⟨hk, rfl, rfl, rfl⟩, ?_⟩
    rw [mdel_none (mget_none.1 hk)]
    exact (S1.nilRow 95 5).p1
  | some q =>
    obtain ⟨v, es⟩ := q
    have S2 := (S1.p1.perm ((perm_get S1.mapOf.nodup hk).map evrow)).unstar
    obtain ⟨A, c, hv, -⟩ := (show Sat g w (rowA 95 5 v es.length (es.flatMap evC) :: _) from S2).row.form
    subst hv
    exact ⟨x, A, c, es, h _ (mget_mem hk), h, .inl hk, S2.p2⟩
theorem Sat.evsBack {x : EvsT} {k : Int} {A : Option Addr} {c : Nat} {es : List EvT} (h : ∀ p ∈ x, p.2.2.length ≤ N) (hk : mget x k = some (.slice A es.length c, es) ∨ mget x k = none ∧ A = none ∧ c = 0 ∧ es = [])
    (S0 : Sat g w (mapA kI evW eb x :: rowA 95 5 (.slice A es.length c) es.length (es.flatMap evC) :: stars ((mdel x k).map evrow) :: L)) : Sat g w (evsA eb N :: L) := by
  rcases hk with hk | ⟨hk, rfl, rfl, rfl⟩
  · have S1 : Sat g w (stars (evrow (k, (.slice A es.length c, es)) :: (mdel x k).map evrow) :: mapA kI evW eb x :: L) := (S0.p1.p2.p1).restar
    exact (S1.perm ((perm_get S0.mapOf.nodup hk).map evrow).symm).p1.evsShut h
  · rw [mdel_none (mget_none.1 hk)] at S0
    exact (S0.p1.drop).evsShut h
theorem Sat.evsPut {x : EvsT} {k : Int} {v : Value} {es : List EvT} (hn : (keys x).Nodup) (h : ∀ p ∈ x, p.2.2.length ≤ N) (he : es.length ≤ N)
    (S0 : Sat g w (mapA kI evW eb (mput x k (v, es)) :: rowA 95 5 v es.length (es.flatMap evC) :: stars ((mdel x k).map evrow) :: L)) : Sat g w (evsA eb N :: L) := by
  have S1 : Sat g w (stars (evrow (k, (v, es)) :: (mdel x k).map evrow) :: mapA kI evW eb (mput x k (v, es)) :: L) := (S0.p1.p2.p1).restar
  refine (S1.perm ((perm_put hn k (v, es)).map evrow).symm).p1.evsShut fun p hp => ?_
  have h2 := (perm_put hn k (v, es)).mem_iff.1 hp
  rcases List.mem_cons.1 h2 with rfl | h2
  · exact he
  · exact h p (List.mem_filter.1 h2).1
theorem ev_look {x : EvsT} {k : Int} {A : Option Addr} {c : Nat} {es : List EvT} (S0 : Sat g w (mapA kI evW eb x :: L)) (hk : mget x k = some (.slice A es.length c, es) ∨ mget x k = none ∧ A = none ∧ c = 0 ∧ es = []) :
    (Instr.lookup 60 (.map (some eb)) (.int .i64 k) false).run Tryz.prog w = .ok (.slice A es.length c) w := by
  rcases hk with hk | ⟨hk, rfl, rfl, rfl⟩
  · exact S0.mapOf.look_some kT Tryz.underlying60 hk false
  · exact S0.mapOf.look_none kT Tryz.underlying60 hk (z := .slice none 0 0) (by kernel_rfl) false
theorem ev_upd {x : EvsT} (S0 : Sat g w (mapA kI evW eb x :: L)) (k : Int) (v : Value) (es : List EvT) :
    ∃ w', (Instr.mapUpdate 60 (.map (some eb)) (.int .i64 k) v).run Tryz.prog w = .ok () w' ∧ Sat g w' (mapA kI evW eb (mput x k (v, es)) :: L) := by
  obtain ⟨w6, hup, hm6, hk6⟩ := S0.mapOf.update kT Tryz.underlying60 k (v, es)
  exact ⟨w6, hup, S0.mapPut hk6 hm6⟩
end
/-- a map's update, as one step of a region that draws -/
theorem step_upd {P : Program} {ops : Array Oper} {o : Oper} {a : Act} {w w2 : World} {K : Act → World → Prop} {Q : Exit → Act → World → Prop} {E : Prop} (hg : o.guard = none) (hd : o.dst = none) (t : TypeId) (m k v : Operand) (hop : o.op = Op.mapUpdate t m k v)
    (hr : (Instr.mapUpdate t (a.eval m) (a.eval k) (a.eval v)).run P w = .ok () w2) (hK : K a w2) :
    if Region.wanted o (yielded ops a.tmps) = true then Oper.wp P o a w K Q else E := by
  have hw : Region.wanted o (yielded ops a.tmps) = true := by simp [Region.wanted, hg]
  rw [if_pos hw]
  unfold Oper.wp execOp
  simp only [hop, Sem.run_bind, Sem.run_pure, hr, Result.andThen_ok]
  simpa [Oper.upon, Act.put, hd] using hK

/-! ### is it among them -/
set_option maxRecDepth 100000 in
set_option maxHeartbeats 4000000 in
theorem index_ev (w : World) (A : Option Addr) (c : Nat) (es : List EvT) (h : Src w 5 A es.length (es.flatMap evC)) (hl : es.length ≤ 1000000) (a : EvT) :
    Calls Tryz.prog 70 #[.slice A es.length c, evV a] w fun e w' => (∃ i : Int, e = .returned (.int .i64 i)) ∧ Keeps (fun _ => False) w w' := by
  obtain ⟨s0, n0, p0, w0, t0⟩ := a
  have HH := hide h
  clear h
  go_enter Tryz.func70, Tryz.ntmps70
  go_wp2_with fail
  have hb := heap_alloc_new w (.cells #[.int .i64 s0, .int .i64 n0, .string (S p0), .int .i64 w0, .int .i64 t0] 95)
  generalize hW : w.alloc (.cells #[.int .i64 s0, .int .i64 n0, .string (S p0), .int .i64 w0, .int .i64 t0] 95) = W1 at *
  have hk1 : Keeps (fun _ => False) w W1 := by subst hW; exact (Keeps.refl _ _).alloc _
  have hlt : w.heap.size < W1.heap.size := heap_lt hb
  clear hW
  generalize w.heap.size = xb at *
  have HK1 := hide hk1
  clear hk1
  have HB := hide hb
  clear hb
  go_loopw [8] (fun i wr => ∃ k : Nat, k ≤ es.length ∧ i = .int .i64 (k : Int) ∧ Keeps (fun _ => False) W1 wr) (fun i _ => es.length - (RowKit.intOf i).toNat)
  case atStart => exact ⟨0, by omega, rfl, Keeps.refl _ _⟩
  case round =>
    obtain ⟨k, hk, rfl, hK⟩ := hrel
    have HK := hide hK
    by_cases hlt2 : k < es.length
    · obtain ⟨ad, x, rfl, hx, z0, z1, z2, z3, z4⟩ := ev_at (HH.out.keep (HK1.out.trans' HK.out) (fun _ _ h => h)) hlt2
      have hb2 := HK.out.heap HB.out (fun h => h)
      have y0 := (cell_of_row wr xb 0 _ _ _ hb2).trans (show _ = some (.int .i64 s0) from rfl)
      have y1 := (cell_of_row wr xb 1 _ _ _ hb2).trans (show _ = some (.int .i64 n0) from rfl)
      have y2 := (cell_of_row wr xb 2 _ _ _ hb2).trans (show _ = some (.string (S p0)) from rfl)
      have y3 := (cell_of_row wr xb 3 _ _ _ hb2).trans (show _ = some (.int .i64 w0) from rfl)
      have y4 := (cell_of_row wr xb 4 _ _ _ hb2).trans (show _ = some (.int .i64 t0) from rfl)
      obtain ⟨x1, x2, x3, x4, x5⟩ := x
      simp only at z0 z1 z2 z3 z4
      obtain ⟨cc, hcc⟩ : ∃ cc : Bool, ∀ w' : World, (binOp .eql 95 (.agg #[.int .i64 s0, .int .i64 n0, .string (S p0), .int .i64 w0, .int .i64 t0]) (.agg #[.int .i64 x1, .int .i64 x2, .string (S x3), .int .i64 x4, .int .i64 x5])).run Tryz.prog w' = .ok (.bool cc) w' := eql_ev ⟨s0, n0, p0, w0, t0⟩ ⟨x1, x2, x3, x4, x5⟩
      clear hK hb2 hx
      cases cc
      all_goals
        go_wp2_with fail
        go_quiet (fail)
        go_wp2_with fail
      · go_roundw
        case rel => exact ⟨k + 1, by omega, by go_num, HK.out.drewN _⟩
        case measure => simp [RowKit.intOf]; omega
      · go_ret
        exact ⟨⟨_, rfl⟩, (HK1.out.trans' HK.out).drewN _⟩
    · clear hK
      go_wp2_with fail
      go_ret
      exact ⟨⟨_, rfl⟩, HK1.out.trans' HK.out⟩
set_option maxRecDepth 100000 in
set_option maxHeartbeats 4000000 in
theorem contains_ev (w : World) (A : Option Addr) (c : Nat) (es : List EvT) (h : Src w 5 A es.length (es.flatMap evC)) (hl : es.length ≤ 1000000) (a : EvT) :
    Calls Tryz.prog 45 #[.slice A es.length c, evV a] w fun e w' => (∃ r : Bool, e = .returned (.bool r)) ∧ Keeps (fun _ => False) w w' := by
  have hidx := fun w' (hk : Keeps (fun _ => False) w w') => index_ev w' A c es (h.keep hk (fun _ _ h => h)) hl a
  obtain ⟨s0, n0, p0, w0, t0⟩ := a
  have HI := hide hidx
  clear hidx h
  go_enter Tryz.func45, Tryz.ntmps45
  have S0 := (Sat.start w).box #[.int .i64 s0, .int .i64 n0, .string (S p0), .int .i64 w0, .int .i64 t0] 95 rfl
  have y0 := S0.cell 0 _ rfl
  have y1 := S0.cell 1 _ rfl
  have y2 := S0.cell 2 _ rfl
  have y3 := S0.cell 3 _ rfl
  have y4 := S0.cell 4 _ rfl
  clear S0
  go_wp2_with fail
  refine (HI.out _ ((Keeps.refl _ _).alloc _)).mono ?_
  rintro e w1 ⟨⟨i, rfl⟩, hk1⟩
  clear y0 y1 y2 y3 y4 HI
  go_wp2_with fail
  go_ret
  exact ⟨⟨_, rfl⟩, ((Keeps.refl _ w).alloc _).trans' hk1⟩

/-! ### the judge -/
abbrev tW (s : List UInt8) : Value := .string (S s)
abbrev jC (b tb : Nat) (v : Value) (eb : Nat) (told wrong : Int) : Asn := cellsA b 62 #[.map (some tb), v, .map (some eb), .int .i64 told, .int .i64 wrong]
abbrev PsT := List (Nat × StT)
abbrev jR (v : Value) (ps : PsT) : Asn := rowA 43 1 v ps.length (ps.map fun p => ptr p.1)
abbrev stp (p : Nat × StT) : Asn := stateA p.1 p.2
abbrev jS (ps : PsT) : Asn := stars (ps.map stp)
def judgeA (b : Nat) (m : JTx) (ss : List StT) (told wrong : Int) : Asn := exA fun x : (Nat × Nat) × (Value × PsT) =>
  star (pureA (x.2.2.map (·.2) = ss)) (star (jC b x.1.1 x.2.1 x.1.2 told wrong) (star (mapA kI tW x.1.1 m) (star (jR x.2.1 x.2.2) (star (jS x.2.2) (evsA x.1.2 (2000 * ss.length))))))
section
variable {g w : World} {L : List Asn} {b : Nat} {m : JTx} {ss : List StT} {told wrong : Int}
theorem Sat.judgeOpen (S0 : Sat g w (judgeA b m ss told wrong :: L)) : ∃ (tb eb : Nat) (A : Option Addr) (c : Nat) (ps : PsT), ps.map (·.2) = ss ∧ ps.length = ss.length ∧
    Sat g w (jC b tb (.slice A ps.length c) eb told wrong :: mapA kI tW tb m :: jR (.slice A ps.length c) ps :: jS ps :: evsA eb (2000 * ss.length) :: L) := by
  obtain ⟨⟨⟨tb, eb⟩, v, ps⟩, S1⟩ := S0.ex
  obtain ⟨h, S2⟩ := S1.split.pure
  have S3 := ((((S2.split).p1.split).p1.split).p1.split)
  have S4 : Sat g w (jC b tb v eb told wrong :: mapA kI tW tb m :: jR v ps :: jS ps :: evsA eb (2000 * ss.length) :: L) := ((S3.bring 2).bring 3).bring 4
  obtain ⟨A, c, hv, -⟩ := (S4.bring 2).row.form
  subst hv
  exact ⟨tb, eb, A, c, ps, h, by rw [← h]; simp, S4⟩
theorem Sat.judgeShut {tb eb : Nat} {v : Value} {ps : PsT} (h : ps.map (·.2) = ss) (S0 : Sat g w (jC b tb v eb told wrong :: mapA kI tW tb m :: jR v ps :: jS ps :: evsA eb (2000 * ss.length) :: L)) : Sat g w (judgeA b m ss told wrong :: L) := by
  refine Sat.ex_ ((tb, eb), v, ps) ?_
  have S1 := (((S0.bring 3).p1.p2).p1)
  have S2 : Sat g w (jS ps :: evsA eb (2000 * ss.length) :: jR v ps :: mapA kI tW tb m :: jC b tb v eb told wrong :: L) := ((((S0.bring 1).bring 2).bring 4).bring 4)
  have S3 := ((((S2.join).p1.join).p1.join).p1.join)
  exact (S3.nil h).join
/-- one of the states -/
theorem Sat.jAt {ps : PsT} {k : Nat} {p : Nat × StT} (S0 : Sat g w (jS ps :: L)) (h : ps[k]? = some p) : Sat g w (stateA p.1 p.2 :: stars ((ps.eraseIdx k).map stp) :: L) :=
  (S0.perm ((perm_at h).map stp)).unstar
theorem Sat.jBack {ps : PsT} {k : Nat} {p : Nat × StT} (h : ps[k]? = some p) (S0 : Sat g w (stateA p.1 p.2 :: stars ((ps.eraseIdx k).map stp) :: L)) : Sat g w (jS ps :: L) :=
  (show Sat g w (stars (stp p :: (ps.eraseIdx k).map stp) :: L) from S0.restar).perm ((perm_at h).map stp).symm
theorem slSt : Sl Tryz.prog 26 43 1 8 (.pointer none) := .mk' Tryz.underlying26 (by kernel_rfl) rfl (by decide)

set_option maxRecDepth 100000 in
theorem j_bad (S0 : Sat g w (judgeA b m ss told wrong :: L)) (is : Bool) :
    Calls Tryz.prog 21 #[ptr b, .bool is] w fun e w' => e = .returned (.bool (!is)) ∧ Sat g w' (judgeA b m ss told (if is = true then 6 else wrong) :: L) := by
  obtain ⟨tb, eb, A, c, ps, h, hl, S1⟩ := S0.judgeOpen
  have x0 := S1.cell 4 _ rfl
  have xf := S1.cells_fz 4
  cases is
  · have HS := hide S0
    clear S0 S1
    go_enter Tryz.func21, Tryz.ntmps21
    go_wp2_with fail
    go_ret
    exact ⟨rfl, HS.out⟩
  · have HS := hide (Sat.judgeShut h (S1.setc 4 (.int .i64 6)))
    clear S0 S1
    go_enter Tryz.func21, Tryz.ntmps21
    go_wp2_with fail
    go_ret
    exact ⟨rfl, HS.out⟩
set_option maxRecDepth 100000 in
theorem j_known (S0 : Sat g w (judgeA b m ss told wrong :: L)) (hl : ss.length ≤ 1000000) :
    Calls Tryz.prog 14 #[ptr b] w fun e w' => e = .returned (.int .i64 ((ss.length : Int) - 1)) ∧ Sat g w' (judgeA b m ss told wrong :: L) := by
  obtain ⟨tb, eb, A, c, ps, h, hl2, S1⟩ := S0.judgeOpen
  have x0 := S1.cell 1 _ rfl
  have HS := hide S0
  have hw1 : IntKind.i64.wrap ((ps.length : Int) - 1) = (ps.length : Int) - 1 := IntWalk.i64_in _ ⟨by omega, by omega⟩
  clear S0 S1
  go_enter Tryz.func14, Tryz.ntmps14
  go_wp2_with fail
  go_ret
  exact ⟨rfl, HS.out⟩
set_option maxRecDepth 100000 in
theorem j_wrong (S0 : Sat g w (judgeA b m ss told wrong :: L)) :
    Calls Tryz.prog 13 #[ptr b] w fun e w' => e = .returned (.int .i64 wrong) ∧ Sat g w' (judgeA b m ss told wrong :: L) := by
  obtain ⟨tb, eb, A, c, ps, h, hl2, S1⟩ := S0.judgeOpen
  have x0 := S1.cell 4 _ rfl
  have HS := hide S0
  clear S0 S1
  go_enter Tryz.func13, Tryz.ntmps13
  go_wp2_with fail
  go_ret
  exact ⟨rfl, HS.out⟩
set_option maxRecDepth 100000 in
theorem j_told (S0 : Sat g w (judgeA b m ss told wrong :: L)) :
    Calls Tryz.prog 12 #[ptr b] w fun e w' => e = .returned (.int .i64 told) ∧ Sat g w' (judgeA b m ss told wrong :: L) := by
  obtain ⟨tb, eb, A, c, ps, h, hl2, S1⟩ := S0.judgeOpen
  have x0 := S1.cell 3 _ rfl
  have HS := hide S0
  clear S0 S1
  go_enter Tryz.func12, Tryz.ntmps12
  go_wp2_with fail
  go_ret
  exact ⟨rfl, HS.out⟩
end
end Go.Proofs.YtanlobdidjednaaGreatDoor
