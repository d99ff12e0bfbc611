/- The contract of a client's request. No condition. -/
import Derived.Test.YtegafdkhbgojcaaGreatDoorOpsM
set_option linter.unusedVariables false
namespace Go.Proofs.YtegafdkhbgojcaaGreatDoor
open Go.RowKit

/-- a client that was never answered, as cells -/
def cliC (id req : Int) (busy : Bool) (c : CmdT) (A : Option Addr) (cap : Nat) : Array Value :=
  #[.int .i64 id, .int .i64 req, .int .i64 0, .int .i64 0, .bool busy, .bool false, .int .i64 c.kind, .int .i64 c.session, .int .i64 c.req, .int .i64 c.noted, .slice A c.ops.length cap, .string (S c.path), .bool c.kids, .bool c.once, .slice none 0 0]
/-- what it asks -/
def wantC (id req : Int) (x : CmdT) : CmdT := { x with session := id, req := if x.kind = 1 then 0 else req + 1, noted := 0 }
/-- the number of its last request behind one -/
def reqC (req : Int) (x : CmdT) : Int := if x.kind = 1 then req else req + 1

/-- what comes of a request -/
def callP (g : World) (L : List Asn) (cb : Nat) (id req : Int) (busy : Bool) (c : CmdT) (A0 : Option Addr) (cap0 : Nat) (x : CmdT) (A : Option Addr) (cap : Nat) (e : Ending) (w' : World) : Prop :=
      (busy = true ∨ x.kind < 1 ∨ 5 < x.kind → e = .returned (.int .i64 1) ∧ Sat g w' (cellsA cb 101 (cliC id req busy c A0 cap0) :: L)) ∧
      (¬ (busy = true ∨ x.kind < 1 ∨ 5 < x.kind) → e = .returned (.int .i64 (bytesF (wantC id req x)).2) ∧
        Sat g w' (cellsA cb 101 (if (bytesF (wantC id req x)).2 = 0 then cliC id (reqC req x) true (wantC id req x) A cap else cliC id req busy c A0 cap0) :: L))
theorem callP_bad {g w' : World} {L : List Asn} {cb : Nat} {id req : Int} {busy : Bool} {c : CmdT} {A0 : Option Addr} {cap0 : Nat} {x : CmdT} {A : Option Addr} {cap : Nat} (h : busy = true ∨ x.kind < 1 ∨ 5 < x.kind) (S0 : Sat g w' (cellsA cb 101 (cliC id req busy c A0 cap0) :: L)) : callP g L cb id req busy c A0 cap0 x A cap (.returned (.int .i64 1)) w' :=
  ⟨fun _ => ⟨rfl, S0⟩, fun hn => absurd h hn⟩
theorem callP_err {g w' : World} {L : List Asn} {cb : Nat} {id req : Int} {busy : Bool} {c : CmdT} {A0 : Option Addr} {cap0 : Nat} {x : CmdT} {A : Option Addr} {cap : Nat} {z : Int} (h : ¬ (busy = true ∨ x.kind < 1 ∨ 5 < x.kind)) (hz : (bytesF (wantC id req x)).2 = z) (h0 : z ≠ 0) (S0 : Sat g w' (cellsA cb 101 (cliC id req busy c A0 cap0) :: L)) : callP g L cb id req busy c A0 cap0 x A cap (.returned (.int .i64 z)) w' :=
  ⟨fun hn => absurd hn h, fun _ => ⟨by rw [hz], by rw [if_neg (by rw [hz]; exact h0)]; exact S0⟩⟩
theorem callP_ok {g w' : World} {L : List Asn} {cb : Nat} {id req : Int} {busy : Bool} {c : CmdT} {A0 : Option Addr} {cap0 : Nat} {x : CmdT} {A : Option Addr} {cap : Nat} (h : ¬ (busy = true ∨ x.kind < 1 ∨ 5 < x.kind)) (hz : (bytesF (wantC id req x)).2 = 0) (S0 : Sat g w' (cellsA cb 101 (cliC id (reqC req x) true (wantC id req x) A cap) :: L)) : callP g L cb id req busy c A0 cap0 x A cap (.returned (.int .i64 0)) w' :=
  ⟨fun hn => absurd hn h, fun _ => ⟨by rw [hz], by rw [if_pos hz]; exact S0⟩⟩

set_option maxRecDepth 100000 in
set_option maxHeartbeats 4000000 in
theorem call_cl {g w : World} {L : List Asn} {cb : Nat} {id req : Int} {busy : Bool} {c : CmdT} {A0 : Option Addr} {cap0 : Nat} (S0 : Sat g w (cellsA cb 101 (cliC id req busy c A0 cap0) :: L)) (hm : oldA g ∈ L) (hr : 0 ≤ req ∧ req ≤ 1000) (x : CmdT) (A : Option Addr) (cap : Nat) (hA : OpSrc g A x.ops) (hx : CmdOk x) :
    Calls Tryz.prog 29 #[ptr cb, cmdV x A cap] w (callP g L cb id req busy c A0 cap0 x A cap) := by
  obtain ⟨hr1, hr2⟩ := hr
  obtain ⟨ck, cs, cr, cn, co, cp, cki, con⟩ := c
  obtain ⟨kind, session, rq, noted, ops, path, kids, once⟩ := x
  obtain ⟨hp, hl, ho⟩ := hx
  simp only at hA hp hl ho
  have HO := hide ho
  have HB : Hid (∀ {w1 : World} {L1 : List Asn} (q : CmdT), q.ops = ops → q.path = path → Sat g w1 L1 → oldA g ∈ L1 → Calls Tryz.prog 30 #[cmdV q A cap] w1 fun e w' => e = .returned (.tuple #[.string (S (bytesF q).1), .int .i64 (bytesF q).2]) ∧ Keeps (fun _ => False) w1 w') := by
    intro w1 L1 q e1 e2 S1 h1
    refine bytes_cmd w1 q A cap ?_ ⟨by rw [e2]; exact hp, by rw [e1]; exact hl, by rw [e1]; exact ho⟩
    rw [e1]
    exact hA.keepB (by decide) (S1.keepsOf h1) (fun k hk h => by omega)
  clear ho
  have S1 := S0.box #[.int .i64 kind, .int .i64 session, .int .i64 rq, .int .i64 noted, .slice A ops.length cap, .string (S path), .bool kids, .bool once] 63 rfl
  have hne : ¬ (w.heap.size = cb) := by have := S0.own_lt; omega
  have hne' : ¬ (cb = w.heap.size) := by have := S0.own_lt; omega
  go_enter Tryz.func29, Tryz.ntmps29
  go_upto_region 1 with fail
  generalize w.alloc (.cells #[.int .i64 kind, .int .i64 session, .int .i64 rq, .int .i64 noted, .slice A ops.length cap, .string (S path), .bool kids, .bool once] 63) = w1 at *
  generalize w.heap.size = xb at *
  clear S0
  have x0 : w1.cell? ⟨xb, 0, none⟩ = some (.int .i64 kind) := S1.cell 0 _ rfl
  have y4 : w1.cell? ⟨cb, 4, none⟩ = some (.bool busy) := S1.p1.cell 4 _ rfl
  have y5 : w1.cell? ⟨cb, 5, none⟩ = some (.bool false) := S1.p1.cell 5 _ rfl
  cases busy with
  | true =>
    go_wp2_with fail
    go_ret
    exact callP_bad (.inl rfl) S1.drop
  | false =>
    by_cases h1 : kind < 1
    · go_wp2_with fail
      go_ret
      exact callP_bad (.inr (.inl h1)) S1.drop
    · by_cases h2 : 5 < kind
      · go_wp2_with fail
        go_ret
        exact callP_bad (.inr (.inr h2)) S1.drop
      · have hgood : ¬ (false = true ∨ kind < 1 ∨ 5 < kind) := by rintro (h | h | h); cases h; omega; omega
        have HG := hide hgood
        clear hgood
        have y0 : w1.cell? ⟨cb, 0, none⟩ = some (.int .i64 id) := S1.p1.cell 0 _ rfl
        have y1 : w1.cell? ⟨cb, 1, none⟩ = some (.int .i64 req) := S1.p1.cell 1 _ rfl
        have y2 : w1.cell? ⟨cb, 2, none⟩ = some (.int .i64 0) := S1.p1.cell 2 _ rfl
        have x1 : w1.cell? ⟨xb, 1, none⟩ = some (.int .i64 session) := S1.cell 1 _ rfl
        have x2 : w1.cell? ⟨xb, 2, none⟩ = some (.int .i64 rq) := S1.cell 2 _ rfl
        have x3 : w1.cell? ⟨xb, 3, none⟩ = some (.int .i64 noted) := S1.cell 3 _ rfl
        have z1 : w1.frozen? ⟨xb, 1, none⟩ = false := S1.cells_fz 1
        have z2 : w1.frozen? ⟨xb, 2, none⟩ = false := S1.cells_fz 2
        have z3 : w1.frozen? ⟨xb, 3, none⟩ = false := S1.cells_fz 3
        by_cases h3 : kind = 1
        · subst h3
          go_upto_region 4 with fail
          go_region_law (fail)
          all_goals
            have S2 : Sat g _ (cellsA xb 63 #[.int .i64 1, .int .i64 id, .int .i64 rq, .int .i64 0, .slice A ops.length cap, .string (S path), .bool kids, .bool once] :: cellsA cb 101 (cliC id req false ⟨ck, cs, cr, cn, co, cp, cki, con⟩ A0 cap0) :: L) := ((S1.setc 1 (.int .i64 id)).setc 3 (.int .i64 0)).drew
            generalize ((w1.setCell ⟨xb, 1, none⟩ (.int .i64 id)).setCell ⟨xb, 3, none⟩ (.int .i64 0)).drew = w2 at *
            clear x0 x1 x2 x3 y0 y1 y2 y4 y5 z1 z2 z3 S1
            have x0 : w2.cell? ⟨xb, 0, none⟩ = some (.int .i64 1) := S2.cell 0 _ rfl
            have x1 : w2.cell? ⟨xb, 1, none⟩ = some (.int .i64 id) := S2.cell 1 _ rfl
            have x2 : w2.cell? ⟨xb, 2, none⟩ = some (.int .i64 rq) := S2.cell 2 _ rfl
            have x3 : w2.cell? ⟨xb, 3, none⟩ = some (.int .i64 0) := S2.cell 3 _ rfl
            have x4 : w2.cell? ⟨xb, 4, none⟩ = some (.slice A ops.length cap) := S2.cell 4 _ rfl
            have x5 : w2.cell? ⟨xb, 5, none⟩ = some (.string (Go.Proofs.YtegafdkhbgojcaaGreatDoor.S path)) := S2.cell 5 _ rfl
            have x6 : w2.cell? ⟨xb, 6, none⟩ = some (.bool kids) := S2.cell 6 _ rfl
            have x7 : w2.cell? ⟨xb, 7, none⟩ = some (.bool once) := S2.cell 7 _ rfl
            have y1 : w2.cell? ⟨cb, 1, none⟩ = some (.int .i64 req) := S2.p1.cell 1 _ rfl
            have z2 : w2.frozen? ⟨xb, 2, none⟩ = false := S2.cells_fz 2
            have z3 : w2.frozen? ⟨xb, 3, none⟩ = false := S2.cells_fz 3
            go_wp2_with fail
            have S3 : Sat g _ (cellsA xb 63 #[.int .i64 1, .int .i64 id, .int .i64 0, .int .i64 0, .slice A ops.length cap, .string (S path), .bool kids, .bool once] :: cellsA cb 101 (cliC id req false ⟨ck, cs, cr, cn, co, cp, cki, con⟩ A0 cap0) :: L) := ((S2.setc 2 (.int .i64 (req + 1))).setc 2 (.int .i64 0)).setc 3 (.int .i64 0)
            refine (HB.out ⟨1, id, 0, 0, ops, path, kids, once⟩ rfl rfl S3 (by simp [hm])).mono ?_
            rintro e w4 ⟨rfl, hk4⟩
            have S4 := S3.keep hk4
            clear hk4 x0 x1 x2 x3 x4 x5 x6 x7 y1 z2 z3 S2 S3
            have hw : wantC id req ⟨1, session, rq, noted, ops, path, kids, once⟩ = ⟨1, id, 0, 0, ops, path, kids, once⟩ := by unfold wantC; rfl
            have hz : (bytesF (wantC id req ⟨1, session, rq, noted, ops, path, kids, once⟩)).2 = (bytesF ⟨1, id, 0, 0, ops, path, kids, once⟩).2 := by rw [hw]
            have hz2 := hw
            generalize bytesF ⟨1, id, 0, 0, ops, path, kids, once⟩ = r at *
            obtain ⟨bs, z⟩ := r
            have HZ := hide hz
            have HW := hide hz2
            clear hw hz hz2
            by_cases h0 : z = 0
            · subst h0
              have x0 : w4.cell? ⟨xb, 0, none⟩ = some (.int .i64 1) := S4.cell 0 _ rfl
              have x1 : w4.cell? ⟨xb, 1, none⟩ = some (.int .i64 id) := S4.cell 1 _ rfl
              have x2 : w4.cell? ⟨xb, 2, none⟩ = some (.int .i64 0) := S4.cell 2 _ rfl
              have x3 : w4.cell? ⟨xb, 3, none⟩ = some (.int .i64 0) := S4.cell 3 _ rfl
              have x4 : w4.cell? ⟨xb, 4, none⟩ = some (.slice A ops.length cap) := S4.cell 4 _ rfl
              have x5 : w4.cell? ⟨xb, 5, none⟩ = some (.string (Go.Proofs.YtegafdkhbgojcaaGreatDoor.S path)) := S4.cell 5 _ rfl
              have x6 : w4.cell? ⟨xb, 6, none⟩ = some (.bool kids) := S4.cell 6 _ rfl
              have x7 : w4.cell? ⟨xb, 7, none⟩ = some (.bool once) := S4.cell 7 _ rfl
              have y1 : w4.cell? ⟨cb, 1, none⟩ = some (.int .i64 req) := S4.p1.cell 1 _ rfl
              have z1 : w4.frozen? ⟨cb, 1, none⟩ = false := S4.p1.cells_fz 1
              have y4 : w4.cell? ⟨cb, 4, none⟩ = some (.bool false) := S4.p1.cell 4 _ rfl
              have z4 : w4.frozen? ⟨cb, 4, none⟩ = false := S4.p1.cells_fz 4
              have y6 : w4.cell? ⟨cb, 6, none⟩ = some (.int .i64 ck) := S4.p1.cell 6 _ rfl
              have z6 : w4.frozen? ⟨cb, 6, none⟩ = false := S4.p1.cells_fz 6
              have y7 : w4.cell? ⟨cb, 7, none⟩ = some (.int .i64 cs) := S4.p1.cell 7 _ rfl
              have z7 : w4.frozen? ⟨cb, 7, none⟩ = false := S4.p1.cells_fz 7
              have y8 : w4.cell? ⟨cb, 8, none⟩ = some (.int .i64 cr) := S4.p1.cell 8 _ rfl
              have z8 : w4.frozen? ⟨cb, 8, none⟩ = false := S4.p1.cells_fz 8
              have y9 : w4.cell? ⟨cb, 9, none⟩ = some (.int .i64 cn) := S4.p1.cell 9 _ rfl
              have z9 : w4.frozen? ⟨cb, 9, none⟩ = false := S4.p1.cells_fz 9
              have y10 : w4.cell? ⟨cb, 10, none⟩ = some (.slice A0 co.length cap0) := S4.p1.cell 10 _ rfl
              have z10 : w4.frozen? ⟨cb, 10, none⟩ = false := S4.p1.cells_fz 10
              have y11 : w4.cell? ⟨cb, 11, none⟩ = some (.string (Go.Proofs.YtegafdkhbgojcaaGreatDoor.S cp)) := S4.p1.cell 11 _ rfl
              have z11 : w4.frozen? ⟨cb, 11, none⟩ = false := S4.p1.cells_fz 11
              have y12 : w4.cell? ⟨cb, 12, none⟩ = some (.bool cki) := S4.p1.cell 12 _ rfl
              have z12 : w4.frozen? ⟨cb, 12, none⟩ = false := S4.p1.cells_fz 12
              have y13 : w4.cell? ⟨cb, 13, none⟩ = some (.bool con) := S4.p1.cell 13 _ rfl
              have z13 : w4.frozen? ⟨cb, 13, none⟩ = false := S4.p1.cells_fz 13
              go_wp2_with fail
              go_ret
              refine callP_ok HG.out HZ.out ?_
              rw [HW.out, show reqC req ⟨1, session, rq, noted, ops, path, kids, once⟩ = req from by unfold reqC; rfl]
              have S5 := ((((((((((S4.drop)).setc 6 (.int .i64 1)).setc 7 (.int .i64 id)).setc 8 (.int .i64 0)).setc 9 (.int .i64 0)).setc 10 (.slice A ops.length cap)).setc 11 (.string (S path))).setc 12 (.bool kids)).setc 13 (.bool once)).setc 4 (.bool true)
              simp only [cliC, List.setIfInBounds_toArray, List.set_cons_zero, List.set_cons_succ] at S5
              exact S5
            · go_wp2_with fail
              go_ret
              exact callP_err HG.out HZ.out h0 S4.drop
        · skip
          go_upto_region 4 with fail
          go_region_law (fail)
          all_goals
            have S2 : Sat g _ (cellsA xb 63 #[.int .i64 kind, .int .i64 id, .int .i64 rq, .int .i64 0, .slice A ops.length cap, .string (S path), .bool kids, .bool once] :: cellsA cb 101 (cliC id req false ⟨ck, cs, cr, cn, co, cp, cki, con⟩ A0 cap0) :: L) := ((S1.setc 1 (.int .i64 id)).setc 3 (.int .i64 0)).drew
            generalize ((w1.setCell ⟨xb, 1, none⟩ (.int .i64 id)).setCell ⟨xb, 3, none⟩ (.int .i64 0)).drew = w2 at *
            clear x0 x1 x2 x3 y0 y1 y2 y4 y5 z1 z2 z3 S1
            have x0 : w2.cell? ⟨xb, 0, none⟩ = some (.int .i64 kind) := S2.cell 0 _ rfl
            have x1 : w2.cell? ⟨xb, 1, none⟩ = some (.int .i64 id) := S2.cell 1 _ rfl
            have x2 : w2.cell? ⟨xb, 2, none⟩ = some (.int .i64 rq) := S2.cell 2 _ rfl
            have x3 : w2.cell? ⟨xb, 3, none⟩ = some (.int .i64 0) := S2.cell 3 _ rfl
            have x4 : w2.cell? ⟨xb, 4, none⟩ = some (.slice A ops.length cap) := S2.cell 4 _ rfl
            have x5 : w2.cell? ⟨xb, 5, none⟩ = some (.string (Go.Proofs.YtegafdkhbgojcaaGreatDoor.S path)) := S2.cell 5 _ rfl
            have x6 : w2.cell? ⟨xb, 6, none⟩ = some (.bool kids) := S2.cell 6 _ rfl
            have x7 : w2.cell? ⟨xb, 7, none⟩ = some (.bool once) := S2.cell 7 _ rfl
            have y1 : w2.cell? ⟨cb, 1, none⟩ = some (.int .i64 req) := S2.p1.cell 1 _ rfl
            have z2 : w2.frozen? ⟨xb, 2, none⟩ = false := S2.cells_fz 2
            have z3 : w2.frozen? ⟨xb, 3, none⟩ = false := S2.cells_fz 3
            go_wp2_with fail
            have S3 : Sat g _ (cellsA xb 63 #[.int .i64 kind, .int .i64 id, .int .i64 (req + 1), .int .i64 0, .slice A ops.length cap, .string (S path), .bool kids, .bool once] :: cellsA cb 101 (cliC id req false ⟨ck, cs, cr, cn, co, cp, cki, con⟩ A0 cap0) :: L) := S2.setc 2 (.int .i64 (req + 1))
            refine (HB.out ⟨kind, id, (req + 1), 0, ops, path, kids, once⟩ rfl rfl S3 (by simp [hm])).mono ?_
            rintro e w4 ⟨rfl, hk4⟩
            have S4 := S3.keep hk4
            clear hk4 x0 x1 x2 x3 x4 x5 x6 x7 y1 z2 z3 S2 S3
            have hw : wantC id req ⟨kind, session, rq, noted, ops, path, kids, once⟩ = ⟨kind, id, (req + 1), 0, ops, path, kids, once⟩ := by unfold wantC; simp only [h3, if_false]
            have hz : (bytesF (wantC id req ⟨kind, session, rq, noted, ops, path, kids, once⟩)).2 = (bytesF ⟨kind, id, (req + 1), 0, ops, path, kids, once⟩).2 := by rw [hw]
            have hz2 := hw
            generalize bytesF ⟨kind, id, (req + 1), 0, ops, path, kids, once⟩ = r at *
            obtain ⟨bs, z⟩ := r
            have HZ := hide hz
            have HW := hide hz2
            clear hw hz hz2
            by_cases h0 : z = 0
            · subst h0
              have x0 : w4.cell? ⟨xb, 0, none⟩ = some (.int .i64 kind) := S4.cell 0 _ rfl
              have x1 : w4.cell? ⟨xb, 1, none⟩ = some (.int .i64 id) := S4.cell 1 _ rfl
              have x2 : w4.cell? ⟨xb, 2, none⟩ = some (.int .i64 (req + 1)) := S4.cell 2 _ rfl
              have x3 : w4.cell? ⟨xb, 3, none⟩ = some (.int .i64 0) := S4.cell 3 _ rfl
              have x4 : w4.cell? ⟨xb, 4, none⟩ = some (.slice A ops.length cap) := S4.cell 4 _ rfl
              have x5 : w4.cell? ⟨xb, 5, none⟩ = some (.string (Go.Proofs.YtegafdkhbgojcaaGreatDoor.S path)) := S4.cell 5 _ rfl
              have x6 : w4.cell? ⟨xb, 6, none⟩ = some (.bool kids) := S4.cell 6 _ rfl
              have x7 : w4.cell? ⟨xb, 7, none⟩ = some (.bool once) := S4.cell 7 _ rfl
              have y1 : w4.cell? ⟨cb, 1, none⟩ = some (.int .i64 req) := S4.p1.cell 1 _ rfl
              have z1 : w4.frozen? ⟨cb, 1, none⟩ = false := S4.p1.cells_fz 1
              have y4 : w4.cell? ⟨cb, 4, none⟩ = some (.bool false) := S4.p1.cell 4 _ rfl
              have z4 : w4.frozen? ⟨cb, 4, none⟩ = false := S4.p1.cells_fz 4
              have y6 : w4.cell? ⟨cb, 6, none⟩ = some (.int .i64 ck) := S4.p1.cell 6 _ rfl
              have z6 : w4.frozen? ⟨cb, 6, none⟩ = false := S4.p1.cells_fz 6
              have y7 : w4.cell? ⟨cb, 7, none⟩ = some (.int .i64 cs) := S4.p1.cell 7 _ rfl
              have z7 : w4.frozen? ⟨cb, 7, none⟩ = false := S4.p1.cells_fz 7
              have y8 : w4.cell? ⟨cb, 8, none⟩ = some (.int .i64 cr) := S4.p1.cell 8 _ rfl
              have z8 : w4.frozen? ⟨cb, 8, none⟩ = false := S4.p1.cells_fz 8
              have y9 : w4.cell? ⟨cb, 9, none⟩ = some (.int .i64 cn) := S4.p1.cell 9 _ rfl
              have z9 : w4.frozen? ⟨cb, 9, none⟩ = false := S4.p1.cells_fz 9
              have y10 : w4.cell? ⟨cb, 10, none⟩ = some (.slice A0 co.length cap0) := S4.p1.cell 10 _ rfl
              have z10 : w4.frozen? ⟨cb, 10, none⟩ = false := S4.p1.cells_fz 10
              have y11 : w4.cell? ⟨cb, 11, none⟩ = some (.string (Go.Proofs.YtegafdkhbgojcaaGreatDoor.S cp)) := S4.p1.cell 11 _ rfl
              have z11 : w4.frozen? ⟨cb, 11, none⟩ = false := S4.p1.cells_fz 11
              have y12 : w4.cell? ⟨cb, 12, none⟩ = some (.bool cki) := S4.p1.cell 12 _ rfl
              have z12 : w4.frozen? ⟨cb, 12, none⟩ = false := S4.p1.cells_fz 12
              have y13 : w4.cell? ⟨cb, 13, none⟩ = some (.bool con) := S4.p1.cell 13 _ rfl
              have z13 : w4.frozen? ⟨cb, 13, none⟩ = false := S4.p1.cells_fz 13
              go_wp2_with fail
              go_ret
              refine callP_ok HG.out HZ.out ?_
              rw [HW.out, show reqC req ⟨kind, session, rq, noted, ops, path, kids, once⟩ = req + 1 from by unfold reqC; simp only [h3, if_false]]
              have S5 := ((((((((((S4.drop).setc 1 (.int .i64 (req + 1))).setc 6 (.int .i64 kind)).setc 7 (.int .i64 id)).setc 8 (.int .i64 (req + 1))).setc 9 (.int .i64 0)).setc 10 (.slice A ops.length cap)).setc 11 (.string (S path))).setc 12 (.bool kids)).setc 13 (.bool once)).setc 4 (.bool true)
              simp only [cliC, List.setIfInBounds_toArray, List.set_cons_zero, List.set_cons_succ] at S5
              exact S5
            · go_wp2_with fail
              go_ret
              exact callP_err HG.out HZ.out h0 S4.drop
end Go.Proofs.YtegafdkhbgojcaaGreatDoor
