/- Contracts of the package op, fifth part: whether two commands are the same; a command of operations. No condition. -/
import Derived.Test.YtcnehacblodiaaaDoorCmds
set_option linter.unusedVariables false
namespace Go.Proofs.YtcnehacblodiaaaDoor
open Go.RowKit

theorem opT_eq (o p : OpT) : decide (o = p) = ((o.does == p.does) && ((o.path == p.path) && ((o.data == p.data) && ((o.version == p.version) && ((o.serial == p.serial) && ((o.own == p.own) && true)))))) := by
  obtain ⟨odoes, opath, odata, over, oser, oown⟩ := o
  obtain ⟨pdoes, ppath, pdata, pver, pser, pown⟩ := p
  rw [Bool.eq_iff_iff]
  simp
theorem ef_cons {P : Program} {w : World} {d : Nat} {xs ys : Array Value} {f : Field} {fs : List Field} (a b : Value) {r s : Bool} (hn : f.name ≠ "_") (ha : (part f.type xs f.offset).run P w = .ok a w) (hb : (part f.type ys f.offset).run P w = .ok b w)
    (hr : (Op.equalIn d f.type a b).run P w = .ok r w) (hrest : (Op.eqFields d xs ys fs).run P w = .ok s w) : (Op.eqFields d xs ys (f :: fs)).run P w = .ok (r && s) w := by
  unfold Op.eqFields
  rw [if_pos hn]
  simp only [Sem.run_bind, ha, hb, hr, Result.andThen_ok]
  cases r <;> simp [hrest]
theorem ef_nil {P : Program} {w : World} {d : Nat} {xs ys : Array Value} : (Op.eqFields d xs ys []).run P w = .ok true w := rfl
theorem neq_of {P : Program} {w : World} {t : TypeId} {fs : Array Field} {xs ys : Array Value} {b : Bool} (ht : P.underlying t = some (.struct fs)) (hp : P.stoodInHeld t = false) (h : (Op.eqFields 9999 xs ys fs.toList).run P w = .ok b w) :
    (binOp .neq t (.agg xs) (.agg ys)).run P w = .ok (.bool (!b)) w := by
  have e : P.fieldsOf t = fs := by simp [Program.fieldsOf, ht]
  subst e
  rw [run_neq_struct, run_equalIn_struct _ 9999 _ _ _ ht hp, h]
  rfl
theorem str_eq {P : Program} {w : World} {d : Nat} {t : TypeId} {a b : List UInt8} (h : P.underlying t = some .string) : (Op.equalIn (d + 1) t (.string (S a)) (.string (S b))).run P w = .ok (a == b) w := by
  rw [run_equalIn_string _ _ _ _ _ h]; simp
theorem neq_op (w : World) (o p : OpT) : (binOp .neq 35 (opV o) (opV p)).run Tryd.prog w = .ok (.bool (!decide (o = p))) w := by
  rw [opT_eq]
  exact neq_of Tryd.underlying35 (by kernel_rfl)
    (ef_cons (.int .i64 o.does) (.int .i64 p.does) (by decide) (by kernel_rfl) (by kernel_rfl) (run_equalIn_int _ 9998 _ _ _ _ _ Tryd.underlying33)
    (ef_cons (.string (S o.path)) (.string (S p.path)) (by decide) (by kernel_rfl) (by kernel_rfl) (str_eq (d := 9998) Tryd.underlying9)
    (ef_cons (.string (S o.data)) (.string (S p.data)) (by decide) (by kernel_rfl) (by kernel_rfl) (str_eq (d := 9998) Tryd.underlying9)
    (ef_cons (.int .i64 o.version) (.int .i64 p.version) (by decide) (by kernel_rfl) (by kernel_rfl) (run_equalIn_int _ 9998 _ _ _ _ _ Tryd.underlying3)
    (ef_cons (.bool o.serial) (.bool p.serial) (by decide) (by kernel_rfl) (by kernel_rfl) (run_equalIn_bool' _ 9998 _ _ _ Tryd.underlying4)
    (ef_cons (.bool o.own) (.bool p.own) (by decide) (by kernel_rfl) (by kernel_rfl) (run_equalIn_bool' _ 9998 _ _ _ Tryd.underlying4) ef_nil))))))

set_option maxRecDepth 100000 in
set_option maxHeartbeats 1000000 in
theorem equal_ops (w : World) (A B : Option Addr) (c d : Nat) (xs ys : List OpT) (hx : OpSrc w A xs) (hy : OpSrc w B ys) (hlx : xs.length ≤ 9223372036854775807) (hly : ys.length ≤ 9223372036854775807) :
    Calls Tryd.prog 57 #[.slice A xs.length c, .slice B ys.length d] w fun e w' => e = .returned (.bool (decide (xs = ys))) ∧ Keeps (fun _ => False) w w' := by
  by_cases hl : xs.length = ys.length
  · go_enter Tryd.func57, Tryd.ntmps57
    go_wp2_with fail
    go_loopw [13] (fun i wr => ∃ k : Nat, k ≤ xs.length ∧ i = .int .i64 k ∧ xs.take k = ys.take k ∧ Keeps (fun _ => False) w wr) (fun i _ => xs.length - (intOf i).toNat)
    case atStart => exact ⟨0, by omega, rfl, rfl, Keeps.refl _ _⟩
    case round =>
      obtain ⟨k, hk, rfl, heq, hK⟩ := hrel
      have HE := hide heq
      have HL := hide hl
      have hly2 : k ≤ ys.length := by omega
      clear heq
      by_cases hlt : k < xs.length
      · have hlt2 : k < ys.length := by omega
        clear hl
        obtain ⟨ad, o, rfl, hx1, c0, c1, c2, c3, c4, c5⟩ := ops_at (hx.keep hK (fun _ _ h => h)) hlt
        obtain ⟨bd, p, rfl, hy1, d0, d1, d2, d3, d4, d5⟩ := ops_at (hy.keep hK (fun _ _ h => h)) hlt2
        have HX := hide hx1
        have HY := hide hy1
        have HK := hide hK
        clear hx1 hy1 hx hy hK
        obtain ⟨odoes, opath, odata, over, oser, oown⟩ := o
        obtain ⟨pdoes, ppath, pdata, pver, pser, pown⟩ := p
        simp only at c0 c1 c2 c3 c4 c5 d0 d1 d2 d3 d4 d5
        have hneq : ∀ w', (binOp .neq 35 (.agg #[.int .i64 odoes, .string (S opath), .string (S odata), .int .i64 over, .bool oser, .bool oown]) (.agg #[.int .i64 pdoes, .string (S ppath), .string (S pdata), .int .i64 pver, .bool pser, .bool pown])).run Tryd.prog w' = .ok (.bool (!decide ((⟨odoes, opath, odata, over, oser, oown⟩ : OpT) = ⟨pdoes, ppath, pdata, pver, pser, pown⟩))) w' := fun w' => neq_op w' ⟨odoes, opath, odata, over, oser, oown⟩ ⟨pdoes, ppath, pdata, pver, pser, pown⟩
        generalize hD : decide ((⟨odoes, opath, odata, over, oser, oown⟩ : OpT) = ⟨pdoes, ppath, pdata, pver, pser, pown⟩) = D at hneq
        have HD := hide hD
        clear hD
        cases D
        all_goals
         go_wp2_with fail
         go_quiet (fail)
         go_wp2_with fail
        · go_ret
          refine ⟨?_, HK.out.drewN _⟩
          have hne : xs ≠ ys := fun e => by
            subst e
            have := HX.out.symm.trans HY.out
            injection this with this
            have h2 := HD.out
            rw [this] at h2
            simp at h2
          have e : decide (xs = ys) = false := by simpa using hne
          rw [e]
          rfl
        · go_roundw
          case rel =>
            refine ⟨k + 1, by omega, by go_num, ?_, HK.out.drewN _⟩
            have h2 := HD.out
            simp only [decide_eq_true_eq] at h2
            obtain ⟨hk1, e1⟩ := List.getElem?_eq_some_iff.1 HX.out
            obtain ⟨hk2, e2⟩ := List.getElem?_eq_some_iff.1 HY.out
            rw [List.take_succ_eq_append_getElem hk1, List.take_succ_eq_append_getElem hk2, HE.out, e1, e2, h2]
          case measure => simp [intOf]; omega
      · have hk2 : k = xs.length := by omega
        have e : decide (xs = ys) = true := by
          have h1 := HE.out
          rw [List.take_of_length_le (by omega), List.take_of_length_le (by rw [← HL.out]; omega)] at h1
          simp [h1]
        have E := hide e
        clear e
        go_wp2_with fail
        go_ret
        exact ⟨by rw [E.out]; rfl, hK⟩
  · have e : decide (xs = ys) = false := by
      simp only [decide_eq_false_iff_not]
      rintro rfl
      exact hl rfl
    have hne : ((xs.length : Int) != (ys.length : Int)) = true := by simp; omega
    rw [e]
    clear e hl
    go_enter Tryd.func57, Tryd.ntmps57
    go_wp2_with fail
    go_ret
    exact ⟨rfl, Keeps.refl _ _⟩

set_option maxRecDepth 100000 in
set_option maxHeartbeats 2000000 in
theorem same_cmd (w : World) (c d : CmdT) (A B : Option Addr) (cap cbp : Nat) (hc : OpSrc w A c.ops) (hd : OpSrc w B d.ops) (hlc : c.ops.length ≤ 9223372036854775807) (hld : d.ops.length ≤ 9223372036854775807) :
    Calls Tryd.prog 22 #[cmdV c A cap, cmdV d B cbp] w fun e w' => e = .returned (.bool (decide (c = d))) ∧ Keeps (fun _ => False) w w' := by
  obtain ⟨kind, session, req, noted, ops, path, kids, once⟩ := c
  obtain ⟨kind2, session2, req2, noted2, ops2, path2, kids2, once2⟩ := d
  simp only at hc hd hlc hld
  have HQ : Hid (∀ w', Keeps (fun _ => False) w w' → Calls Tryd.prog 57 #[.slice A ops.length cap, .slice B ops2.length cbp] w' fun e w2 => e = .returned (.bool (decide (ops = ops2))) ∧ Keeps (fun _ => False) w' w2) :=
    fun w' hk => equal_ops w' A B cap cbp ops ops2 (hc.keep hk (fun _ _ h => h)) (hd.keep hk (fun _ _ h => h)) hlc hld
  clear hc hd
  generalize hD : decide (ops = ops2) = D at HQ
  have HD := hide hD
  clear hD
  cases D
  all_goals
    go_enter Tryd.func22, Tryd.ntmps22
    go_wp2_with (go_at_call 57; refine (HQ.out _ (((Keeps.refl _ w).alloc _).alloc _)).mono ?_; rintro e w1 ⟨rfl, hk1⟩; have hb1 := hk1.heap (heap_alloc2_old w _ _) (fun h => h); have hb2 := hk1.heap (heap_alloc2_new w _ _) (fun h => h); have q1 : w1.cell? ⟨w.heap.size, 5, none⟩ = some (.string (S path)) := cell_of_row _ _ 5 _ _ _ hb1; have q2 : w1.cell? ⟨w.heap.size, 6, none⟩ = some (.bool kids) := cell_of_row _ _ 6 _ _ _ hb1; have q3 : w1.cell? ⟨w.heap.size, 7, none⟩ = some (.bool once) := cell_of_row _ _ 7 _ _ _ hb1; have q4 : w1.cell? ⟨w.heap.size + 1, 5, none⟩ = some (.string (S path2)) := cell_of_row _ _ 5 _ _ _ hb2; have q5 : w1.cell? ⟨w.heap.size + 1, 6, none⟩ = some (.bool kids2) := cell_of_row _ _ 6 _ _ _ hb2; have q6 : w1.cell? ⟨w.heap.size + 1, 7, none⟩ = some (.bool once2) := cell_of_row _ _ 7 _ _ _ hb2; clear hb1 hb2)
    all_goals
      go_ret
      refine ⟨congrArg (fun b => Ending.returned (.bool b)) ?_, ?_⟩
      · have hd := HD.out
        simp only [decide_eq_true_eq, decide_eq_false_iff_not] at hd
        rw [Bool.eq_iff_iff]
        try simp [hd]
        try grind
      · first | exact ((Keeps.refl _ w).alloc _).alloc _ | exact (((Keeps.refl _ w).alloc _).alloc _).trans' hk1

end Go.Proofs.YtcnehacblodiaaaDoor
