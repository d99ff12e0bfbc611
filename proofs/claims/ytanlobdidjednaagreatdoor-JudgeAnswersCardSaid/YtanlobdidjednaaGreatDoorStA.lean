/- The state's pieces, and the calls of its table. No condition. -/
import Derived.Test.YtanlobdidjednaaGreatDoorSta
import Derived.Test.YtanlobdidjednaaGreatDoorSessM
set_option linter.unusedVariables false
set_option linter.unusedSimpArgs false
namespace Go.Proofs.YtanlobdidjednaaGreatDoor
open Go.RowKit

/-- the piece that stands at n, ahead of the others -/
def bringA : Nat → List Asn → List Asn
  | 0, L => L
  | _ + 1, [] => []
  | n + 1, A :: L => match bringA n L with
    | [] => [A]
    | B :: L2 => B :: A :: L2
theorem stars_bring (n : Nat) (L : List Asn) : ∀ h, stars L h → stars (bringA n L) h := by
  induction n generalizing L with
  | zero => exact fun h X => X
  | succ n ih =>
    cases L with
    | nil => exact fun h X => X
    | cons A L =>
      intro h X
      have X2 : star A (stars (bringA n L)) h := star_mono (fun _ h => h) (fun h => ih L h) X
      show stars (match bringA n L with | [] => [A] | B :: L2 => B :: A :: L2) h
      cases e : bringA n L with
      | nil => rw [e] at X2; exact X2
      | cons B L2 => rw [e] at X2; exact star_perm X2
theorem Sat.bring {g w : World} {L : List Asn} (S0 : Sat g w L) (n : Nat) : Sat g w (bringA n L) := S0.map fun h => stars_bring n L h

/-- a session table -/
def tblA (t : Nat) (m : Tab) : Asn := exA fun mb : Nat => star (boxA t mb) (tabA mb m)
section
variable {g w : World} {L : List Asn} {t : Nat} {m : Tab}
theorem Sat.tblOpen (S0 : Sat g w (tblA t m :: L)) : ∃ mb, Sat g w (boxA t mb :: tabA mb m :: L) := by
  obtain ⟨mb, S1⟩ := S0.ex
  exact ⟨mb, S1.split⟩
theorem Sat.tblShut {mb : Nat} (S0 : Sat g w (boxA t mb :: tabA mb m :: L)) : Sat g w (tblA t m :: L) := Sat.ex_ mb S0.join
theorem tbl_new (S0 : Sat g w L) : Calls Tryz.prog 35 #[] w fun e w' => ∃ t, e = .returned (ptr t) ∧ Sat g w' (tblA t [] :: L) := by
  refine (s_new S0).mono ?_
  rintro e w' ⟨t, mb, rfl, S1⟩
  exact ⟨t, rfl, S1.tblShut⟩
theorem tbl_open (S0 : Sat g w (tblA t m :: L)) (id : Int) :
    Calls Tryz.prog 62 #[ptr t, .int .i64 id] w fun e w' => e = .returned (.int .i64 (openF m id).1) ∧ Sat g w' (tblA t (openF m id).2 :: L) := by
  obtain ⟨mb, S1⟩ := S0.tblOpen
  refine (open_sess w t mb m id S1.tb).mono ?_
  rintro e w' ⟨rfl, hT, hk⟩
  exact ⟨rfl, (S1.tbPut hk hT).tblShut⟩
theorem tbl_close (S0 : Sat g w (tblA t m :: L)) (id : Int) :
    Calls Tryz.prog 79 #[ptr t, .int .i64 id] w fun e w' => e = .returned (.int .i64 (closeF m id).1) ∧ Sat g w' (tblA t (closeF m id).2 :: L) := by
  obtain ⟨mb, S1⟩ := S0.tblOpen
  refine (close_sess w t mb m id S1.tb).mono ?_
  rintro e w' ⟨rfl, hT, hk⟩
  exact ⟨rfl, (S1.tbPut hk hT).tblShut⟩
theorem tbl_keep (S0 : Sat g w (tblA t m :: L)) (id req : Int) (a : List UInt8) (ha : a.length ≤ 9223372036854775807) :
    Calls Tryz.prog 66 #[ptr t, .int .i64 id, .int .i64 req, .string (S a)] w fun e w' => e = .returned (.int .i64 (keepF m id req a).1) ∧ Sat g w' (tblA t (keepF m id req a).2 :: L) := by
  obtain ⟨mb, S1⟩ := S0.tblOpen
  refine (keep_sess w t mb m id req a ha S1.tb).mono ?_
  rintro e w' ⟨rfl, hT, hk⟩
  exact ⟨rfl, (S1.tbPut hk hT).tblShut⟩
theorem tbl_seen (S0 : Sat g w (tblA t m :: L)) (id req : Int) :
    Calls Tryz.prog 29 #[ptr t, .int .i64 id, .int .i64 req] w fun e w' => e = .returned (seenV (seenF m id req)) ∧ Sat g w' (tblA t m :: L) := by
  obtain ⟨mb, S1⟩ := S0.tblOpen
  refine (seen_sess w t mb m id req S1.tb).mono ?_
  rintro e w' ⟨rfl, hk⟩
  exact ⟨rfl, S0.keep hk⟩
theorem tbl_has (S0 : Sat g w (tblA t m :: L)) (id : Int) :
    Calls Tryz.prog 52 #[ptr t, .int .i64 id] w fun e w' => e = .returned (.bool (decide (id ∈ keys m))) ∧ Sat g w' (tblA t m :: L) := by
  obtain ⟨mb, S1⟩ := S0.tblOpen
  refine (has_sess w t mb m id S1.tb).mono ?_
  rintro e w' ⟨rfl, hk⟩
  exact ⟨rfl, S0.keep hk⟩
theorem tbl_all (S0 : Sat g w (tblA t m :: L)) (hk : tabOk m) (hl : m.length ≤ 1000) :
    Calls Tryz.prog 68 #[ptr t] w fun e w' => ∃ A cap, e = .returned (.slice A m.length cap) ∧ Sat g w' (rowA 3 1 (.slice A m.length cap) m.length (Is (sortI (keys m))) :: tblA t m :: L) := by
  obtain ⟨mb, S1⟩ := S0.tblOpen
  refine (s_all S1 hk hl).mono ?_
  rintro e w' ⟨A, cap, rfl, S2⟩
  exact ⟨A, cap, rfl, (S2.b2.tblShut).p1⟩
theorem tbl_clone (S0 : Sat g w (tblA t m :: L)) :
    Calls Tryz.prog 39 #[ptr t] w fun e w' => ∃ t2, e = .returned (ptr t2) ∧ Sat g w' (tblA t2 m :: tblA t m :: L) := by
  obtain ⟨mb, S1⟩ := S0.tblOpen
  refine (s_clone S1).mono ?_
  rintro e w' ⟨t2, mb2, rfl, S2⟩
  exact ⟨t2, rfl, ((S2.tblShut).b2.tblShut).p1⟩
end

/-- a state -/
def stateA (b : Nat) (s : StT) : Asn := exA fun x : Nat × Nat × Nat =>
  star (cellsA b 78 #[ptr x.1, ptr x.2.1, ptr x.2.2, .int .i64 s.at_]) (star (treeA x.1 s.tree) (star (tblA x.2.1 s.tab) (bookA x.2.2 s.book)))
section
variable {g w : World} {L : List Asn} {b : Nat} {s : StT}
theorem Sat.stateOpen (S0 : Sat g w (stateA b s :: L)) : ∃ t ts bk, Sat g w (cellsA b 78 #[ptr t, ptr ts, ptr bk, .int .i64 s.at_] :: treeA t s.tree :: tblA ts s.tab :: bookA bk s.book :: L) := by
  obtain ⟨⟨t, ts, bk⟩, S1⟩ := S0.ex
  exact ⟨t, ts, bk, (((S1.split).p1.split).p1.split).p2.p3⟩
theorem Sat.stateShut {t ts bk : Nat} (S0 : Sat g w (cellsA b 78 #[ptr t, ptr ts, ptr bk, .int .i64 s.at_] :: treeA t s.tree :: tblA ts s.tab :: bookA bk s.book :: L)) : Sat g w (stateA b s :: L) := by
  refine Sat.ex_ (t, ts, bk) ?_
  have S1 := S0.p3.p3.join
  have S2 := S1.p2.join
  exact S2.p1.join
end
/-- a node's change -/
abbrev chgC (c : Chg) : List Value := [.string (S c.1), .int .i64 c.2]
abbrev chgV (c : Chg) : Value := .agg #[.string (S c.1), .int .i64 c.2]
/-- the operation's slots and cells -/
theorem opC_arr (o : OpT) : (opC o).toArray = #[.int .i64 o.does, .string (S o.path), .string (S o.data), .int .i64 o.version, .bool o.serial, .bool o.own] := rfl
/-- two results that lie in blocks, and one in a slot -/
theorem results_rows_tmp {P : Program} {fn : Func} {p q u : Tmp} {ty tz : TypeId} (h : fn.results = #[.cell p ty, .cell q tz, .tmp u]) (tmps : Array Value) (w : World) (a b : Nat) (cs ds : Array Value) (t t2 : TypeId) (fr fr2 : Nat × Nat) (d d2 : TypeDesc)
    (hp : tmps.getD p undef = .pointer (some ⟨a, 0, none⟩)) (hq : tmps.getD q undef = .pointer (some ⟨b, 0, none⟩)) (ha : w.heap[a]? = some (.cells cs t fr)) (hb : w.heap[b]? = some (.cells ds t2 fr2))
    (hu : P.underlying ty = some d) (hd : (match d with | .struct _ | .array _ _ => true | _ => false) = true) (hi : (P.info? ty).map (·.size) = some cs.size)
    (hu2 : P.underlying tz = some d2) (hd2 : (match d2 with | .struct _ | .array _ _ => true | _ => false) = true) (hi2 : (P.info? tz).map (·.size) = some ds.size) :
    (results fn tmps).run P w = .ok (.tuple #[.agg cs, .agg ds, tmps.getD u undef]) w := by
  simp only [results, h]
  simp only [Array.getD_eq_getD_getElem?] at hp hq
  simp [Sem.run_bind, Result.andThen, hp, hq, asAddr, run_loadVar_row w a t ty cs fr d ha hu hd hi, run_loadVar_row w b t2 tz ds fr2 d2 hb hu2 hd2 hi2]

end Go.Proofs.YtanlobdidjednaaGreatDoor
